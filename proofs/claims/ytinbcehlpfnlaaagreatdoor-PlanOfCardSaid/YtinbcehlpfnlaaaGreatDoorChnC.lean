/- Layer 16 (chain): beginning, end, mark, head. -/
import Derived.Test.YtinbcehlpfnlaaaGreatDoorPlnM
import Derived.Test.YtinbcehlpfnlaaaGreatDoorFld
namespace Go.Proofs.YtinbcehlpfnlaaaGreatDoor
open Go.RowKit
set_option linter.unusedSimpArgs false
set_option linter.unusedVariables false
set_option maxRecDepth 100000

set_option maxHeartbeats 2000000 in
theorem begin_any (X : List MfP) (a : Option Addr) (c : Nat) (w : World) (h : MsAt w a c X) :
    Calls Tryz.prog 16 #[.slice a X.length c] w fun e w' => e = .returned (.int .i64 (beginM X)) ∧ w = w' := by
  rcases Nat.eq_zero_or_pos X.length with h0 | h0
  · have HE := Lib.hid' (show beginM X = 0 by rw [List.eq_nil_of_length_eq_zero h0]; rfl)
    rw [h0]
    clear h0 h
    go_enter Tryz.func16, Tryz.ntmps16
    go_wp2
    go_ret
    exact ⟨ret_eq (by rw [HE.out]; rfl), rfl⟩
  · have HE := Lib.hid' (show beginM X = X[0].1.f by unfold beginM; rw [List.head?_eq_getElem?, List.getElem?_eq_getElem h0]; rfl)
    obtain ⟨b, off, rfl, hb, hrg⟩ := h.at h0
    have c1 := hrg 1 (.int .i64 X[0].1.f) rfl
    have hn0 : ((X.length : Int) == 0) = false := by rw [beq_eq_false_iff_ne]; omega
    have hl := h.len
    rw [Nat.zero_mul, Nat.add_zero] at c1
    generalize X[0].1.f = y at *
    clear hrg h
    go_enter Tryz.func16, Tryz.ntmps16
    go_wp2
    go_ret
    exact ⟨ret_eq (by rw [HE.out]; rfl), rfl⟩
set_option maxHeartbeats 2000000 in
theorem end_any (X : List MfP) (a : Option Addr) (c : Nat) (w : World) (h : MsAt w a c X) :
    Calls Tryz.prog 17 #[.slice a X.length c] w fun e w' => e = .returned (.int .i64 (lastM X).1.t) ∧ Below w.heap.size w w' := by
  have HL := Lib.hid' (last_any X a c w h)
  have hf := mf_t (lastM X)
  generalize lastM X = y at *
  clear h
  go_enter Tryz.func17, Tryz.ntmps17
  go_wp2_with (go_at_call 28; refine HL.out.mono ?_; rintro e w1 ⟨rfl, hb⟩)
  go_ret
  exact ⟨rfl, hb⟩
set_option maxHeartbeats 2000000 in
theorem mark_any (X : List MfP) (a : Option Addr) (c : Nat) (w : World) (h : MsAt w a c X) :
    Calls Tryz.prog 23 #[.slice a X.length c] w fun e w' => e = .returned (.int .i64 (lastM X).1.r) ∧ Below w.heap.size w w' := by
  have HL := Lib.hid' (last_any X a c w h)
  have hf := mf_r (lastM X)
  generalize lastM X = y at *
  clear h
  go_enter Tryz.func23, Tryz.ntmps23
  go_wp2_with (go_at_call 28; refine HL.out.mono ?_; rintro e w1 ⟨rfl, hb⟩)
  go_ret
  exact ⟨rfl, hb⟩
theorem headD_len (X : List MfP) : (headD X).length = 32 := by unfold headD; split; rfl; exact mdigB_len _
set_option maxHeartbeats 4000000 in
theorem head_any (X : List MfP) (a : Option Addr) (c : Nat) (w : World) (h : MsAt w a c X) (hL : Laid w) :
    Calls Tryz.prog 24 #[.slice a X.length c] w fun e w' => e = .returned (.tuple #[.agg (byteVs (headD X)).toArray, errV (headN X)]) ∧ Below w.heap.size w w' := by
  have hz : (Tryz.prog.info? 45).map (·.size) = some (byteVs (headD X)).length := by rw [byteVs_length, headD_len]; exact dig_size
  have hz2 : zeroD.length = (byteVs (headD X)).length := by rw [byteVs_length, headD_len]; rfl
  have h1 : (byteVs (headD X)).all (·.oneCell') = true := List.all_eq_true.2 (byteVs_one _)
  have HD := Lib.hid' (show byteVs (headD X) = byteVs (headD X) from rfl)
  rcases Nat.eq_zero_or_pos X.length with h0 | h0
  · have HE : headN X = 0 := by unfold headN; rw [if_pos h0]
    have HE2 := Lib.hid' (show byteVs (headD X) = zeroD by unfold headD; rw [if_pos h0]; rfl)
    have hz3 : (Tryz.prog.info? 45).map (·.size) = some zeroD.length := by rw [show zeroD.length = 32 from rfl]; exact dig_size
    rw [h0, HE, HE2.out]
    clear h0 h hL hz hz2 h1 HE HE2 HD
    go_enter Tryz.func24, Tryz.ntmps24
    go_upto_region 1 with fail
    rw [zero32]
    have H0 : Sep w NoF [.box w.heap.size zeroD 45] (w.alloc (.cells zeroD.toArray 45)) := (Sep.start w).allocAt (w.heap.size) zeroD 45 rfl
    generalize w.alloc (.cells zeroD.toArray 45) = w1 at *
    go_wp2_with (refine Sep.storeB H0 0 rfl rfl 45 (.tmp 2) (.tmp 7) rfl zeroD rfl rfl hz3 rfl rfl ?_)
    have H4 := H0.setRow 0 rfl zeroD
    refine bodyPost_ret (box_result2 Tryz.results24 (H4.box 0 rfl) _ rfl .nilIface rfl _ Tryz.underlying45 rfl hz3) rfl ?_
    exact ⟨rfl, H4.toBelow⟩
  · have HE : headN X = (lastM X).1.check := by unfold headN; rw [if_neg (by omega)]
    have HE2 : headD X = mdigB (lastM X).1 := by unfold headD; rw [if_neg (by omega)]
    have hlast := h.last
    have HLA := Lib.hid' (fun w1 (H : Below w.heap.size w w1) => last_any X a c w1 (h.below (Nat.le_refl _) H))
    have HDG := Lib.hid' (fun w1 (H : Below w.heap.size w w1) => mdigest_any (lastM X).1 (lastM X).2.1 (lastM X).2.2 w1 hlast.2 (hlast.1.below (Nat.le_refl _) H) (hL.below (Nat.le_refl _) H))
    rw [← HE, ← HE2] at HDG
    generalize byteVs (headD X) = D at *
    generalize headN X = hn at *
    have hlen := h.len
    generalize hm : (#[Value.agg (mfV (lastM X).1 (lastM X).2.1 (lastM X).2.2).toArray] : Array Value) = M at HDG
    have HM := Lib.hid' (show #[Value.agg (mV (lastM X)).toArray] = M from hm)
    generalize mV (lastM X) = Y at *
    have hn0 : ((X.length : Int) == 0) = false := by rw [beq_eq_false_iff_ne]; omega
    clear HE HE2 hlast h hL hm HD
    go_enter Tryz.func24, Tryz.ntmps24
    go_upto_region 1 with fail
    rw [zero32]
    have H0 : Sep w NoF [.box w.heap.size zeroD 45] (w.alloc (.cells zeroD.toArray 45)) := (Sep.start w).allocAt (w.heap.size) zeroD 45 rfl
    generalize w.alloc (.cells zeroD.toArray 45) = w1 at *
    have HLA1 := Lib.hid' (HLA.out w1 H0.toBelow)
    go_wp2_with (first | (go_at_call 28; refine HLA1.out.mono ?_; rintro e w2 ⟨rfl, hb⟩; have H2 := H0.below hb; have HDG2 := Lib.hid' (HDG.out w2 H2.toBelow)) | (go_at_call 37; rw [HM.out]; refine HDG2.out.mono ?_; rintro e w3 ⟨rfl, hb3⟩; have H3 := H2.below hb3) | (refine Sep.storeB H3 0 rfl rfl 45 (.tmp 2) (.tmp 11) rfl D rfl rfl hz hz2 h1 ?_))
    have H4 := H3.setRow 0 rfl D
    refine bodyPost_ret (box_result2 Tryz.results24 (H4.box 0 rfl) _ rfl (errV hn) rfl _ Tryz.underlying45 rfl hz) rfl ?_
    exact ⟨rfl, H4.toBelow⟩
end Go.Proofs.YtinbcehlpfnlaaaGreatDoor
