/- Layer 16 (chain): which part has an address; law 16: too long lists. -/
import Derived.Test.YtinbcehlpfnlaaaGreatDoorChnE
import Derived.Test.YtinbcehlpfnlaaaGreatDoorIdxF
namespace Go.Proofs.YtinbcehlpfnlaaaGreatDoor
open Go.RowKit
set_option linter.unusedSimpArgs false
set_option linter.unusedVariables false
set_option maxRecDepth 100000

def findV (o : Option (Nat × Nat)) : Value := match o with
  | some (u, v) => .tuple #[.int .i64 (u : Nat), .int .i64 (v : Nat), .bool true]
  | none => .tuple #[.int .i64 0, .int .i64 0, .bool false]

/-- more manifests, or parts, than are looked at -/
def longM (X : List MfP) : Bool := X.any (fun m => decide (12 < m.1.ps.length)) || decide (12 < X.length)
set_option maxHeartbeats 8000000 in
theorem long16_any (X : List MfP) (a : Option Addr) (c : Nat) (w : World) (hX : MsAt w a c X) :
    Calls Tryz.prog 5 #[.slice a X.length c] w fun e w' => e = .returned (.bool (longM X)) ∧ Below w.heap.size w w' := by
  have hlen := hX.len
  have HX := Lib.hid' hX
  clear hX
  go_enter Tryz.func5, Tryz.ntmps5
  go_wp2_with fail
  go_loopw [7] (fun v7 wr => ∃ k : Nat, v7 = .int .i64 k ∧ k ≤ X.length ∧ Hid (∀ y ∈ X.take k, decide (12 < y.1.ps.length) = false) ∧ Hid (Below w.heap.size w wr)) (fun v7 _ => X.length - (intOf v7).toNat)
  case atStart => exact ⟨0, rfl, Nat.zero_le _, Lib.hid' (by simp), Lib.hid' (Below.refl _ _)⟩
  case round =>
    obtain ⟨k, rfl, hk, HC, HB⟩ := hrel
    by_cases hlt : k < X.length
    · have HT := Lib.hid' (fun h2 => take_no (f := fun m : MfP => decide (12 < m.1.ps.length)) hlt HC.out h2)
      have HY1 := Lib.hid' (fun (h2 : decide (12 < X[k].1.ps.length) = true) => show longM X = true by unfold longM; rw [Bool.or_eq_true]; exact .inl (List.any_eq_true.2 ⟨_, List.getElem_mem hlt, h2⟩))
      have HXr := Lib.hid' (HX.out.below (Nat.le_refl _) HB.out)
      obtain ⟨bb, off, rfl, hbb, hrg⟩ := MsAt.at HXr.out hlt
      have HG := Lib.hid' hrg
      have hok := HX.out.ok _ (List.getElem_mem hlt)
      have heach := HXr.out.each _ (List.getElem_mem hlt)
      have hy37 := mfV_len hok X[k].2.1 X[k].2.2
      have hmz : (Tryz.prog.info? 48).map (·.size) = some (mV X[k]).length := by unfold mV; rw [hy37]; exact mf_size
      have hpl0 : zeroMV.length = (mV X[k]).length := by unfold mV; rw [hy37]; rfl
      have hp1 : (mV X[k]).all (·.oneCell') = true := List.all_eq_true.2 mfV_one
      have c36 := mfV_36 hok X[k].2.1 X[k].2.2
      have hpl := heach.len
      have hMV : (mV X[k])[36]? = some (.slice X[k].2.1 X[k].1.ps.length X[k].2.2) := c36
      clear hrg heach hok hy37 HXr c36
      generalize mV X[k] = Y at *
      generalize X[k].2.1 = ya at *
      generalize X[k].2.2 = yc at *
      generalize X[k].1.ps.length = pn at *
      have HZ : Sep wr NoF [.box wr.heap.size zeroMV 48] (wr.alloc (.cells #[.int .i64 0, .int .i64 0, .int .i64 0, .int .i64 0, .int .u8 0, .int .u8 0, .int .u8 0, .int .u8 0, .int .u8 0, .int .u8 0, .int .u8 0, .int .u8 0, .int .u8 0, .int .u8 0, .int .u8 0, .int .u8 0, .int .u8 0, .int .u8 0, .int .u8 0, .int .u8 0, .int .u8 0, .int .u8 0, .int .u8 0, .int .u8 0, .int .u8 0, .int .u8 0, .int .u8 0, .int .u8 0, .int .u8 0, .int .u8 0, .int .u8 0, .int .u8 0, .int .u8 0, .int .u8 0, .int .u8 0, .int .u8 0, .slice none 0 0] 48)) := (Sep.start wr).allocAt wr.heap.size zeroMV 48 rfl
      have HY := HZ.setRow 0 rfl Y
      go_upto_region 4 with (first | (refine wpList_load_at HG.out rfl 48 (.tmp 9) rfl rfl _ Tryz.underlying48 rfl hmz ?_) | (refine Sep.storeB HZ 0 rfl rfl 48 (.tmp 4) (.tmp 10) rfl Y rfl rfl hmz hpl0 hp1 ?_))
      generalize ((wr.alloc (.cells #[.int .i64 0, .int .i64 0, .int .i64 0, .int .i64 0, .int .u8 0, .int .u8 0, .int .u8 0, .int .u8 0, .int .u8 0, .int .u8 0, .int .u8 0, .int .u8 0, .int .u8 0, .int .u8 0, .int .u8 0, .int .u8 0, .int .u8 0, .int .u8 0, .int .u8 0, .int .u8 0, .int .u8 0, .int .u8 0, .int .u8 0, .int .u8 0, .int .u8 0, .int .u8 0, .int .u8 0, .int .u8 0, .int .u8 0, .int .u8 0, .int .u8 0, .int .u8 0, .int .u8 0, .int .u8 0, .int .u8 0, .int .u8 0, .slice none 0 0] 48)).setRow wr.heap.size Y.toArray) = w5 at *
      clear HZ HG hpl0 hp1
      have y36 := HY.cell 0 rfl 36 hMV
      have HB6 := Lib.hid' (HB.out.trans (HY.toBelow.mono HB.out.size))
      clear HY
      by_cases hp : 12 < pn
      · have hp' : (12 : Int) < (pn : Int) := by omega
        have HN2 := Lib.hid' (HY1.out (decide_eq_true hp))
        clear hp HT HY1
        go_wp2_with fail
        go_ret
        exact ⟨ret_eq (by rw [HN2.out]; rfl), HB6.out⟩
      · have hp' : ¬ (12 : Int) < (pn : Int) := by omega
        have HN2 := Lib.hid' (HT.out (decide_eq_false hp))
        clear hp HT HY1
        go_wp2_with fail
        go_roundw
        case rel => exact ⟨k + 1, by go_num, by omega, HN2, HB6⟩
        case measure => simp [intOf]; omega
    · obtain rfl : k = X.length := by omega
      have HN2 := Lib.hid' (show longM X = decide (12 < X.length) by
        unfold longM
        rw [show X.any (fun m => decide (12 < m.1.ps.length)) = false from List.any_eq_false.2 (fun y hy => by rw [HC.out y (by rw [List.take_length]; exact hy)]; decide), Bool.false_or])
      by_cases hn : 12 < X.length
      · have hn' : (12 : Int) < (X.length : Int) := by omega
        have HN3 := Lib.hid' (HN2.out.trans (decide_eq_true hn))
        clear hn
        go_wp2_with fail
        go_ret
        exact ⟨ret_eq (by rw [HN3.out]; first | rfl | simp [hn']), HB.out⟩
      · have hn' : ¬ (12 : Int) < (X.length : Int) := by omega
        have HN3 := Lib.hid' (HN2.out.trans (decide_eq_false hn))
        clear hn
        go_wp2_with fail
        go_ret
        exact ⟨ret_eq (by rw [HN3.out]; first | rfl | simp [hn']), HB.out⟩
end Go.Proofs.YtinbcehlpfnlaaaGreatDoor
