/- Layer 21 (plan): how many cells a plan has. -/
import Derived.Test.YtlhlkdeaiobfaaaDoorPlnA
namespace Go.Proofs.YtlhlkdeaiobfaaaDoor
open Go.RowKit
set_option linter.unusedSimpArgs false
set_option linter.unusedVariables false
set_option maxRecDepth 100000

theorem sizeI_next {L : List It} {k : Nat} (hk : k < L.length) : sizeI (L.drop k) = (L[k].b - L[k].a) + sizeI (L.drop (k + 1)) := by
  rw [List.drop_eq_getElem_cons hk]; rfl
set_option maxHeartbeats 4000000 in
theorem psize_any (n b mk : Int) (a : Option Addr) (c : Nat) (L : List It) (w : World) (h : SlV w (.slice a L.length c) L.length (L.flatMap itV)) (hb : ∀ x ∈ L, 0 ≤ x.a ∧ x.a ≤ x.b ∧ x.b ≤ 1048576) (hl : L.length ≤ 1099511627776) :
    Calls Tryd.prog 27 #[.agg (plV n b mk a L.length c).toArray] w fun e w' => e = .returned (.int .i64 (sizeI L)) ∧ Below w.heap.size w w' := by
  have HS := Lib.hid' h
  have HB := Lib.hid' hb
  clear h hb
  go_enter Tryd.func27, Tryd.ntmps27
  go_upto_region 1 with fail
  have H0 : Sep w NoF [.box w.heap.size (plV n b mk a L.length c) 60] (w.alloc (.cells (plV n b mk a L.length c).toArray 60)) := (Sep.start w).allocAt w.heap.size (plV n b mk a L.length c) 60 rfl
  generalize w.alloc (.cells (plV n b mk a L.length c).toArray 60) = w1 at *
  have z3 := H0.cell 0 rfl 3 (v := .slice a L.length c) rfl
  have H1 := Lib.hid' H0.toBelow
  clear H0
  go_wp2_with fail
  go_loopw [9, 3] (fun v9 v3 wr => ∃ (k : Nat) (s : Int), v9 = .int .i64 k ∧ k ≤ L.length ∧ v3 = .int .i64 s ∧ 0 ≤ s ∧ s ≤ 1048576 * k ∧ Hid (sizeI L = s + sizeI (L.drop k)) ∧ Hid (Below w.heap.size w wr)) (fun v9 _ _ => L.length - (intOf v9).toNat)
  case atStart => exact ⟨0, 0, rfl, Nat.zero_le _, rfl, by omega, by omega, Lib.hid' (by rw [List.drop_zero]; omega), H1⟩
  case round =>
    obtain ⟨k, s, rfl, hk, rfl, hs1, hs2, HI, HW⟩ := hrel
    by_cases hlt : k < L.length
    · obtain ⟨bb, off, rfl, hbb, hrg⟩ := SlV.row (f := itV) (s := 4) (fun _ => rfl) (by decide) (HS.out.below (Nat.le_refl _) HW.out) hlt
      have hin := HB.out _ (List.getElem_mem hlt)
      have HI2 := Lib.hid' (HI.out.trans (by rw [sizeI_next hlt]))
      have HG := Lib.hid' (show wr.rangeAt bb (off + k * 4) (itV L[k]) from hrg)
      clear hrg HI
      generalize L[k] = y at *
      obtain ⟨yn, yi, ya, yb⟩ := y
      simp only at hin HI2
      have hiz : (Tryd.prog.info? 65).map (·.size) = some (itV ⟨yn, yi, ya, yb⟩).length := it_size
      have hi1 : (itV ⟨yn, yi, ya, yb⟩).all (·.oneCell') = true := rfl
      have HZ : Sep w NoF [.box wr.heap.size [.int .i64 0, .int .i64 0, .int .i64 0, .int .i64 0] 65] (wr.alloc (.cells #[.int .i64 0, .int .i64 0, .int .i64 0, .int .i64 0] 65)) := ((Sep.start w).below HW.out).allocAt wr.heap.size [.int .i64 0, .int .i64 0, .int .i64 0, .int .i64 0] 65 rfl
      have HY := HZ.setRow 0 rfl (itV ⟨yn, yi, ya, yb⟩)
      go_upto_region 5 with (first | (refine wpList_load_at HG.out rfl 65 (.tmp 11) rfl rfl _ Tryd.underlying65 rfl hiz ?_) | (refine Sep.storeB HZ 0 rfl rfl 65 (.tmp 5) (.tmp 12) rfl (itV ⟨yn, yi, ya, yb⟩) rfl rfl hiz rfl hi1 ?_))
      generalize ((wr.alloc (.cells #[.int .i64 0, .int .i64 0, .int .i64 0, .int .i64 0] 65)).setRow wr.heap.size (itV ⟨yn, yi, ya, yb⟩).toArray) = w6 at *
      generalize wr.heap.size = M at *
      have y2 := HY.cell 0 rfl 2 (v := .int .i64 ya) rfl
      have y3 := HY.cell 0 rfl 3 (v := .int .i64 yb) rfl
      have HB6 := Lib.hid' HY.toBelow
      have hkl : (k : Int) ≤ 1099511627776 := by omega
      have HI3 := Lib.hid' (show sizeI L = (s + (yb - ya)) + sizeI (L.drop (k + 1)) by rw [HI2.out]; omega)
      clear HZ HG HY HI2
      go_wp2_with fail
      go_roundw
      case rel => exact ⟨k + 1, s + (yb - ya), by go_num, by omega, rfl, by omega, by omega, HI3, HB6⟩
      case measure => simp [intOf]; omega
    · obtain rfl : k = L.length := by omega
      have HI2 := Lib.hid' (show sizeI L = s by rw [HI.out, List.drop_length]; simp [sizeI])
      go_wp2_with fail
      go_ret
      exact ⟨ret_eq (by rw [HI2.out]; rfl), HW.out⟩

end Go.Proofs.YtlhlkdeaiobfaaaDoor
