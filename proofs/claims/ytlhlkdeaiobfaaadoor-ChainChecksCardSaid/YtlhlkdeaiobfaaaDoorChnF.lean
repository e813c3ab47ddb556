/- Layer 16 (chain): which part has an address; law 16: too long lists. -/
import Derived.Test.YtlhlkdeaiobfaaaDoorChnE
import Derived.Test.YtlhlkdeaiobfaaaDoorIdxF
namespace Go.Proofs.YtlhlkdeaiobfaaaDoor
open Go.RowKit
set_option linter.unusedSimpArgs false
set_option linter.unusedVariables false
set_option maxRecDepth 100000

def findV (o : Option (Nat × Nat)) : Value := match o with
  | some (u, v) => .tuple #[.int .i64 (u : Nat), .int .i64 (v : Nat), .bool true]
  | none => .tuple #[.int .i64 0, .int .i64 0, .bool false]
set_option maxHeartbeats 8000000 in
theorem cfind_any (X : List MfP) (a : Option Addr) (c : Nat) (ad : Int) (w : World) (hX : MsAt w a c X) :
    Calls Tryd.prog 23 #[.slice a X.length c, .int .i64 ad] w fun e w' => e = .returned (findV (findM 0 X ad)) ∧ Below w.heap.size w w' := by
  have hlen := hX.len
  have HX := Lib.hid' hX
  clear hX
  go_enter Tryd.func23, Tryd.ntmps23
  go_wp2_with fail
  go_loopw [13] (fun v13 wr => ∃ k : Nat, v13 = .int .i64 k ∧ k ≤ X.length ∧ Hid (findM 0 X ad = findM k (X.drop k) ad) ∧ Hid (Below w.heap.size w wr)) (fun v13 _ => X.length - (intOf v13).toNat)
  case atStart => exact ⟨0, rfl, Nat.zero_le _, Lib.hid' rfl, Lib.hid' (Below.refl _ _)⟩
  case round =>
    obtain ⟨k, rfl, hk, HC, HB⟩ := hrel
    by_cases hlt : k < X.length
    · have HN := Lib.hid' (HC.out.trans (findM_next hlt ad))
      have HXr := Lib.hid' (HX.out.below (Nat.le_refl _) HB.out)
      obtain ⟨bb, off, rfl, hbb, hrg⟩ := MsAt.at HXr.out hlt
      have HG := Lib.hid' hrg
      have hok := HX.out.ok _ (List.getElem_mem hlt)
      have heach := HXr.out.each _ (List.getElem_mem hlt)
      have hy37 := mfV_len hok X[k].2.1 X[k].2.2
      have hmz : (Tryd.prog.info? 27).map (·.size) = some (mV X[k]).length := by unfold mV; rw [hy37]; exact mf_size
      have hpl0 : zeroMV.length = (mV X[k]).length := by unfold mV; rw [hy37]; rfl
      have hp1 : (mV X[k]).all (·.oneCell') = true := List.all_eq_true.2 mfV_one
      have HMF := Lib.hid' (fun w1 (H : Below wr.heap.size wr w1) => mfind_any X[k].1 X[k].2.1 X[k].2.2 ad w1 hok (heach.below (Nat.le_refl _) H))
      have hMV : (mV X[k]) = mfV X[k].1 X[k].2.1 X[k].2.2 := rfl
      rw [← hMV] at HMF
      clear hrg heach hok hy37 HXr hMV
      generalize mfind X[k].1 ad = fi at *
      generalize mV X[k] = Y at *
      have HZ : Sep wr NoF [.box wr.heap.size zeroMV 27] (wr.alloc (.cells #[.int .i64 0, .int .i64 0, .int .i64 0, .int .i64 0, .int .u8 0, .int .u8 0, .int .u8 0, .int .u8 0, .int .u8 0, .int .u8 0, .int .u8 0, .int .u8 0, .int .u8 0, .int .u8 0, .int .u8 0, .int .u8 0, .int .u8 0, .int .u8 0, .int .u8 0, .int .u8 0, .int .u8 0, .int .u8 0, .int .u8 0, .int .u8 0, .int .u8 0, .int .u8 0, .int .u8 0, .int .u8 0, .int .u8 0, .int .u8 0, .int .u8 0, .int .u8 0, .int .u8 0, .int .u8 0, .int .u8 0, .int .u8 0, .slice none 0 0] 27)) := (Sep.start wr).allocAt wr.heap.size zeroMV 27 rfl
      have HY := HZ.setRow 0 rfl Y
      go_upto_region 4 with (first | (refine wpList_load_at HG.out rfl 27 (.tmp 16) rfl rfl _ Tryd.underlying27 rfl hmz ?_) | (refine Sep.storeB HZ 0 rfl rfl 27 (.tmp 8) (.tmp 17) rfl Y rfl rfl hmz hpl0 hp1 ?_))
      generalize ((wr.alloc (.cells #[.int .i64 0, .int .i64 0, .int .i64 0, .int .i64 0, .int .u8 0, .int .u8 0, .int .u8 0, .int .u8 0, .int .u8 0, .int .u8 0, .int .u8 0, .int .u8 0, .int .u8 0, .int .u8 0, .int .u8 0, .int .u8 0, .int .u8 0, .int .u8 0, .int .u8 0, .int .u8 0, .int .u8 0, .int .u8 0, .int .u8 0, .int .u8 0, .int .u8 0, .int .u8 0, .int .u8 0, .int .u8 0, .int .u8 0, .int .u8 0, .int .u8 0, .int .u8 0, .int .u8 0, .int .u8 0, .int .u8 0, .int .u8 0, .slice none 0 0] 27)).setRow wr.heap.size Y.toArray) = w5 at *
      clear HZ HG hpl0 hp1
      have HMF5 := Lib.hid' (HMF.out w5 HY.toBelow)
      by_cases hfi : 0 ≤ fi
      · obtain ⟨fn, rfl⟩ : ∃ n : Nat, fi = n := ⟨fi.toNat, by omega⟩
        have HN2 := Lib.hid' (HN.out.trans (if_pos hfi))
        rw [show max (fn : Int) 0 = (fn : Int) by omega, decide_eq_true hfi] at HMF5
        clear hfi HN HMF
        go_upto_region 5 with (first | (refine Sep.loadB HY 0 rfl rfl 27 (.tmp 8) rfl rfl _ Tryd.underlying27 rfl hmz ?_) | (go_at_call 24; refine HMF5.out.mono ?_; rintro e w6 ⟨rfl, hb6⟩))
        have HB6 := Lib.hid' (HB.out.trans ((HY.below hb6).toBelow.mono HB.out.size))
        go_wp2_with fail
        go_ret3
        exact ⟨ret_eq (by rw [HN2.out]; rfl), HB6.out⟩
      · have HN2 := Lib.hid' (HN.out.trans (if_neg hfi))
        rw [decide_eq_false hfi] at HMF5
        generalize max fi 0 = fm at *
        clear hfi HN HMF
        go_upto_region 5 with (first | (refine Sep.loadB HY 0 rfl rfl 27 (.tmp 8) rfl rfl _ Tryd.underlying27 rfl hmz ?_) | (go_at_call 24; refine HMF5.out.mono ?_; rintro e w6 ⟨rfl, hb6⟩))
        have HB6 := Lib.hid' (HB.out.trans ((HY.below hb6).toBelow.mono HB.out.size))
        clear HMF5 HY hb6
        go_wp2_with fail
        go_roundw
        case rel => exact ⟨k + 1, by go_num, by omega, HN2, HB6⟩
        case measure => simp [intOf]; omega
    · obtain rfl : k = X.length := by omega
      have HN2 := Lib.hid' (HC.out.trans (show findM X.length (X.drop X.length) ad = none by rw [List.drop_length]; rfl))
      go_wp2_with fail
      go_ret3
      exact ⟨ret_eq (by rw [HN2.out]; rfl), HB.out⟩

/-- more manifests, or parts, than are looked at -/
def longM (X : List MfP) : Bool := X.any (fun m => decide (12 < m.1.ps.length)) || decide (12 < X.length)
set_option maxHeartbeats 8000000 in
theorem long16_any (X : List MfP) (a : Option Addr) (c : Nat) (w : World) (hX : MsAt w a c X) :
    Calls Tryd.prog 9 #[.slice a X.length c] w fun e w' => e = .returned (.bool (longM X)) ∧ Below w.heap.size w w' := by
  have hlen := hX.len
  have HX := Lib.hid' hX
  clear hX
  go_enter Tryd.func9, Tryd.ntmps9
  go_wp2_with fail
  go_loopw [7] (fun v7 wr => ∃ k : Nat, v7 = .int .i64 k ∧ k ≤ X.length ∧ Hid (∀ y ∈ X.take k, decide (12 < y.1.ps.length) = false) ∧ Hid (Below w.heap.size w wr)) (fun v7 _ => X.length - (intOf v7).toNat)
  case atStart => exact ⟨0, rfl, Nat.zero_le _, Lib.hid' (by simp), Lib.hid' (Below.refl _ _)⟩
  case round =>
    obtain ⟨k, rfl, hk, HC, HB⟩ := hrel
    by_cases hlt : k < X.length
    · have HT := Lib.hid' (fun h2 => take_no (f := fun m : MfP => decide (12 < m.1.ps.length)) hlt HC.out h2)
      have HY1 := Lib.hid' (fun (h2 : decide (12 < X[k].1.ps.length) = true) => show longM X = true by unfold longM; rw [Bool.or_eq_true]; exact .inl (List.any_eq_true.2 ⟨_, List.getElem_mem hlt, h2⟩))
      have HXr := Lib.hid' (HX.out.below (Nat.le_refl _) HB.out)
      obtain ⟨bb, off, rfl, hbb, hrg⟩ := MsAt.at HXr.out hlt
      have HG := Lib.hid' hrg
      have hok := HX.out.ok _ (List.getElem_mem hlt)
      have heach := HXr.out.each _ (List.getElem_mem hlt)
      have hy37 := mfV_len hok X[k].2.1 X[k].2.2
      have hmz : (Tryd.prog.info? 27).map (·.size) = some (mV X[k]).length := by unfold mV; rw [hy37]; exact mf_size
      have hpl0 : zeroMV.length = (mV X[k]).length := by unfold mV; rw [hy37]; rfl
      have hp1 : (mV X[k]).all (·.oneCell') = true := List.all_eq_true.2 mfV_one
      have c36 := mfV_36 hok X[k].2.1 X[k].2.2
      have hpl := heach.len
      have hMV : (mV X[k])[36]? = some (.slice X[k].2.1 X[k].1.ps.length X[k].2.2) := c36
      clear hrg heach hok hy37 HXr c36
      generalize mV X[k] = Y at *
      generalize X[k].2.1 = ya at *
      generalize X[k].2.2 = yc at *
      generalize X[k].1.ps.length = pn at *
      have HZ : Sep wr NoF [.box wr.heap.size zeroMV 27] (wr.alloc (.cells #[.int .i64 0, .int .i64 0, .int .i64 0, .int .i64 0, .int .u8 0, .int .u8 0, .int .u8 0, .int .u8 0, .int .u8 0, .int .u8 0, .int .u8 0, .int .u8 0, .int .u8 0, .int .u8 0, .int .u8 0, .int .u8 0, .int .u8 0, .int .u8 0, .int .u8 0, .int .u8 0, .int .u8 0, .int .u8 0, .int .u8 0, .int .u8 0, .int .u8 0, .int .u8 0, .int .u8 0, .int .u8 0, .int .u8 0, .int .u8 0, .int .u8 0, .int .u8 0, .int .u8 0, .int .u8 0, .int .u8 0, .int .u8 0, .slice none 0 0] 27)) := (Sep.start wr).allocAt wr.heap.size zeroMV 27 rfl
      have HY := HZ.setRow 0 rfl Y
      go_upto_region 4 with (first | (refine wpList_load_at HG.out rfl 27 (.tmp 9) rfl rfl _ Tryd.underlying27 rfl hmz ?_) | (refine Sep.storeB HZ 0 rfl rfl 27 (.tmp 4) (.tmp 10) rfl Y rfl rfl hmz hpl0 hp1 ?_))
      generalize ((wr.alloc (.cells #[.int .i64 0, .int .i64 0, .int .i64 0, .int .i64 0, .int .u8 0, .int .u8 0, .int .u8 0, .int .u8 0, .int .u8 0, .int .u8 0, .int .u8 0, .int .u8 0, .int .u8 0, .int .u8 0, .int .u8 0, .int .u8 0, .int .u8 0, .int .u8 0, .int .u8 0, .int .u8 0, .int .u8 0, .int .u8 0, .int .u8 0, .int .u8 0, .int .u8 0, .int .u8 0, .int .u8 0, .int .u8 0, .int .u8 0, .int .u8 0, .int .u8 0, .int .u8 0, .int .u8 0, .int .u8 0, .int .u8 0, .int .u8 0, .slice none 0 0] 27)).setRow wr.heap.size Y.toArray) = w5 at *
      clear HZ HG hpl0 hp1
      have y36 := HY.cell 0 rfl 36 hMV
      have HB6 := Lib.hid' (HB.out.trans (HY.toBelow.mono HB.out.size))
      clear HY
      by_cases hp : 12 < pn
      · have hp' : (12 : Int) < (pn : Int) := by omega
        have HN2 := Lib.hid' (HY1.out (decide_eq_true hp))
        clear hp HT HY1
        go_wp2_with fail
        go_ret
        exact ⟨ret_eq (by rw [HN2.out]; rfl), HB6.out⟩
      · have hp' : ¬ (12 : Int) < (pn : Int) := by omega
        have HN2 := Lib.hid' (HT.out (decide_eq_false hp))
        clear hp HT HY1
        go_wp2_with fail
        go_roundw
        case rel => exact ⟨k + 1, by go_num, by omega, HN2, HB6⟩
        case measure => simp [intOf]; omega
    · obtain rfl : k = X.length := by omega
      have HN2 := Lib.hid' (show longM X = decide (12 < X.length) by
        unfold longM
        rw [show X.any (fun m => decide (12 < m.1.ps.length)) = false from List.any_eq_false.2 (fun y hy => by rw [HC.out y (by rw [List.take_length]; exact hy)]; decide), Bool.false_or])
      by_cases hn : 12 < X.length
      · have hn' : (12 : Int) < (X.length : Int) := by omega
        have HN3 := Lib.hid' (HN2.out.trans (decide_eq_true hn))
        clear hn
        go_wp2_with fail
        go_ret
        exact ⟨ret_eq (by rw [HN3.out]; first | rfl | simp [hn']), HB.out⟩
      · have hn' : ¬ (12 : Int) < (X.length : Int) := by omega
        have HN3 := Lib.hid' (HN2.out.trans (decide_eq_false hn))
        clear hn
        go_wp2_with fail
        go_ret
        exact ⟨ret_eq (by rw [HN3.out]; first | rfl | simp [hn']), HB.out⟩
end Go.Proofs.YtlhlkdeaiobfaaaDoor
