/- Layer 1, the document's: readers (fail, Number, End). -/
import Derived.Test.YtkljeefncopodaaGreatRefQ
import Derived.Test.YtkljeefncopodaaGreatSlB
namespace Go.Proofs.YtkljeefncopodaaGreat
open Go.RowKit
set_option linter.unusedSimpArgs false
set_option linter.unusedVariables false
set_option maxRecDepth 100000

def rdV (r : RD) (a : Option Addr) (c : Nat) : Value := .agg #[.slice a r.rest.length c, .int .i64 (r.bad : Nat)]
set_option maxHeartbeats 1000000 in
theorem rfail01_any (r : RD) (a : Option Addr) (c n : Nat) (hr : r.rest.length ≤ 9223372036854775807) (w : World) :
    Calls Tryz.prog 109 #[rdV r a c, .int .i64 (n : Nat)] w fun e w' => e = .returned (rdV (r.fail n) a c) ∧ Below w.heap.size w w' := by
  obtain ⟨rest, bad⟩ := r
  by_cases hb : bad = 0
  · have HR := Lib.hid' (show RD.fail ⟨rest, bad⟩ n = ⟨rest, n⟩ by unfold RD.fail; rw [if_pos hb])
    have hbb : ((bad : Int) == 0) = true := by rw [beq_iff_eq]; omega
    clear hb
    unfold rdV
    simp only at hr ⊢
    go_enter Tryz.func109, Tryz.ntmps109
    go_wp2
    refine bodyPost_ret (v := .agg #[.slice a rest.length c, .int .i64 (n : Nat)]) (by simp [results, Tryz.results109, go_sem]) rfl ⟨by rw [HR.out], by go_grown⟩
  · have HR := Lib.hid' (show RD.fail ⟨rest, bad⟩ n = ⟨rest, bad⟩ by unfold RD.fail; rw [if_neg hb])
    have hbb : ((bad : Int) == 0) = false := by rw [beq_eq_false_iff_ne]; omega
    clear hb
    unfold rdV
    simp only at hr ⊢
    go_enter Tryz.func109, Tryz.ntmps109
    go_wp2
    refine bodyPost_ret (v := .agg #[.slice a rest.length c, .int .i64 (bad : Nat)]) (by simp [results, Tryz.results109, go_sem]) rfl ⟨by rw [HR.out], by go_grown⟩
theorem rend01_any (r : RD) (a : Option Addr) (c : Nat) (hr : r.rest.length ≤ 9223372036854775807) (w : World) :
    Calls Tryz.prog 47 #[rdV r a c] w fun e w' => e = .returned (.int .i64 (r.fin : Nat)) ∧ Below w.heap.size w w' := by
  obtain ⟨rest, bad⟩ := r
  by_cases hb : bad = 0
  · subst hb
    by_cases hl : 0 < rest.length
    · have HR := Lib.hid' (show RD.fin ⟨rest, 0⟩ = 2 by unfold RD.fin; rw [if_pos ⟨rfl, hl⟩])
      unfold rdV
      simp only at hr ⊢
      go_enter Tryz.func47, Tryz.ntmps47
      go_wp2
      go_ret
      exact ⟨ret_eq (by rw [HR.out]; rfl), by go_grown⟩
    · have HR := Lib.hid' (show RD.fin ⟨rest, 0⟩ = 0 by unfold RD.fin; rw [if_neg (fun h => hl h.2)])
      have hl0 : ¬ (0 : Int) < (rest.length : Int) := by omega
      unfold rdV
      simp only at hr ⊢
      go_enter Tryz.func47, Tryz.ntmps47
      go_wp2
      go_ret
      exact ⟨ret_eq (by rw [HR.out]; rfl), by go_grown⟩
  · have HR := Lib.hid' (show RD.fin ⟨rest, bad⟩ = bad by unfold RD.fin; rw [if_neg (fun h => hb h.1)])
    have hbb : ((bad : Int) == 0) = false := by rw [beq_eq_false_iff_ne]; omega
    clear hb
    unfold rdV
    simp only at hr ⊢
    go_enter Tryz.func47, Tryz.ntmps47
    go_wp2
    go_ret
    exact ⟨ret_eq (by rw [HR.out]; rfl), by go_grown⟩
/-- what is left is told of an elder world: so it outlives rows that the caller lays -/
def RNum01R (p : Nat × RD) (w0 w : World) (e : Ending) (w' : World) : Prop :=
  ∃ a c, e = .returned (.tuple #[.int .u64 (p.1 : Nat), rdV p.2 a c]) ∧ Bytes w0 (.slice a p.2.rest.length c) p.2.rest ∧ Below w.heap.size w w'
set_option maxHeartbeats 2000000 in
theorem rnum01_any (r : RD) (a : Option Addr) (c : Nat) (w0 w : World) (h : Bytes w0 (.slice a r.rest.length c) r.rest) (hb0 : Below w0.heap.size w0 w) :
    Calls Tryz.prog 45 #[rdV r a c] w (RNum01R r.num w0 w) := by
  have HD0 := Lib.hid' h
  have HD := Lib.hid' (show Bytes w (.slice a r.rest.length c) r.rest from SlV.below h (Nat.le_refl _) hb0)
  have hbl := bytes_len h
  have hcap : r.rest.length ≤ c ∧ c ≤ maxLen := by obtain ⟨_, _, he, h1, h2, _⟩ := h; cases he; exact ⟨h1, h2⟩
  clear h
  obtain ⟨rest, bad⟩ := r
  simp only at hbl hcap
  clear hb0
  by_cases hb : bad = 0
  rotate_left
  · have HR := Lib.hid' (show RD.num ⟨rest, bad⟩ = (0, ⟨rest, bad⟩) from RD.num_bad hb)
    have hbb : ((bad : Int) != 0) = true := by rw [bne_iff_ne]; omega
    clear hb
    unfold rdV
    simp only at HD HD0 ⊢
    go_enter Tryz.func45, Tryz.ntmps45
    go_wp2_with fail
    go_region
    all_goals
      go_wp2
      refine bodyPost_ret (v := .tuple #[.int .u64 0, .agg #[.slice a rest.length c, .int .i64 (bad : Nat)]]) (by simp [results, Tryz.results45, go_sem]) rfl ?_
      rw [HR.out]
      exact ⟨a, c, rfl, HD0.out, by go_grown⟩
  subst hb
  have hT := fun wq => rtake01_any rest a c wq
  cases hv : vtake rest with
  | none =>
    rw [hv] at hT
    simp only [RTake01] at hT
    have HT := Lib.hid' hT
    have HR := Lib.hid' (show RD.num ⟨rest, 0⟩ = (0, ⟨rest, 2⟩) by unfold RD.num; simp only [ne_eq, not_true_eq_false, if_false]; rw [hv])
    have HF := Lib.hid' (fun wq => rfail01_any ⟨rest, 0⟩ a c 2 hbl wq)
    have HFE := Lib.hid' (show rdV (RD.fail ⟨rest, 0⟩ 2) a c = .agg #[.slice a rest.length c, .int .i64 2] by unfold RD.fail rdV; simp)
    clear hv hT
    unfold rdV
    simp only at HD HD0 ⊢
    go_enter Tryz.func45, Tryz.ntmps45
    go_wp2_with fail
    refine (HT.out _ (SlV.below HD.out (Nat.le_refl _) (by go_grown))).mono ?_
    rintro e w2 ⟨rfl, hb2⟩
    have HB2 := Lib.hid' (show Below w.heap.size w w2 from below_call (by go_grown) (by simp; omega) hb2)
    have d0 := ((bcell hb2).1 w.heap.size 0 (by simp)).trans (show _ = some (.slice a rest.length c) by simp [go_sem])
    have d1 := ((bcell hb2).1 w.heap.size 1 (by simp)).trans (show _ = some (.int .i64 0) by simp [go_sem])
    have e0 := ((bcell hb2).1 (w.heap.size + 1) 0 (by simp)).trans (show _ = some (.slice none 0 0) by simp [go_sem])
    have e1 := ((bcell hb2).1 (w.heap.size + 1) 1 (by simp)).trans (show _ = some (.int .i64 0) by simp [go_sem])
    have f0 := ((bcell hb2).2 (w.heap.size + 1) 0 (by simp)).trans (show _ = false by simp [go_sem])
    have f1 := ((bcell hb2).2 (w.heap.size + 1) 1 (by simp)).trans (show _ = false by simp [go_sem])
    have hz2 : w.heap.size + 1 < w2.heap.size := by have := hb2.size; simp at this; omega
    have hz20 : w.heap.size < w2.heap.size := by omega
    clear hb2
    go_wp2_with fail
    have hf := HF.out w2
    rw [HFE.out] at hf
    refine hf.mono ?_
    clear hf
    rintro e w3 ⟨rfl, hb3⟩
    have HB3 := Lib.hid' (HB2.out.trans (hb3.mono (by omega)))
    have g0 := (hb3.cell (p := ⟨w.heap.size + 1, 0, none⟩) hz2).trans e0
    have g1 := (hb3.cell (p := ⟨w.heap.size + 1, 1, none⟩) hz2).trans e1
    have k0 := (hb3.frozen (p := ⟨w.heap.size + 1, 0, none⟩) hz2).trans f0
    have k1 := (hb3.frozen (p := ⟨w.heap.size + 1, 1, none⟩) hz2).trans f1
    have HRET := Lib.hid' (show RNum01R (RD.num ⟨rest, 0⟩) w0 w (.returned (.tuple #[.int .u64 0, .agg #[.slice a rest.length c, .int .i64 2]])) ((w3.setCell ⟨w.heap.size + 1, 0, none⟩ (.slice a rest.length c)).setCell ⟨w.heap.size + 1, 1, none⟩ (.int .i64 2)) from by
      rw [HR.out]
      have hbw : Below w.heap.size w ((w3.setCell ⟨w.heap.size + 1, 0, none⟩ (.slice a rest.length c)).setCell ⟨w.heap.size + 1, 1, none⟩ (.int .i64 2)) := (HB3.out.setCell (by simp) _).setCell (by simp) _
      exact ⟨a, c, rfl, HD0.out, hbw⟩)
    clear hb3 e0 e1 f0 f1 d0 d1
    go_wp2
    refine bodyPost_ret (v := .tuple #[.int .u64 0, .agg #[.slice a rest.length c, .int .i64 2]]) (by simp [results, Tryz.results45, go_sem, g0, g1]) rfl HRET.out
  | some q =>
    obtain ⟨n, k⟩ := q
    rw [hv] at hT
    simp only [RTake01] at hT
    have HT := Lib.hid' hT
    have HR := Lib.hid' (show RD.num ⟨rest, 0⟩ = (n, ⟨rest.drop k, 0⟩) by unfold RD.num; simp only [ne_eq, not_true_eq_false, if_false]; rw [hv])
    obtain ⟨_, hn, hk10, hkl, hk0⟩ := vtake_some hv
    obtain ⟨bb, off, rfl, hq1, hq2⟩ := bytes_at (l := rest) HD.out (show 0 < rest.length by omega)
    have HLD := Lib.hid' (List.length_drop (i := k) (l := rest))
    clear hq1 hq2 hv hT
    have hcm : c ≤ 9223372036854775807 := by have := hcap.2; unfold maxLen at this; omega
    unfold rdV
    simp only at HD HD0 ⊢
    go_enter Tryz.func45, Tryz.ntmps45
    go_wp2_with fail
    refine (HT.out _ (SlV.below HD.out (Nat.le_refl _) (by go_grown))).mono ?_
    rintro e w2 ⟨rfl, hb2⟩
    have HB2 := Lib.hid' (show Below w.heap.size w w2 from below_call (by go_grown) (by simp; omega) hb2)
    have HX2 := Lib.hid' (show BoxW w.heap.size [.slice (some ⟨bb, off, none⟩) rest.length c, .int .i64 0] 95 w2 from by
      have h1 := (BoxW.start w [.slice (some ⟨bb, off, none⟩) rest.length c, .int .i64 0] 95).below (Nat.le_refl _) (show Below (w.alloc (.cells #[.slice (some ⟨bb, off, none⟩) rest.length c, .int .i64 0] 95)).heap.size (w.alloc (.cells #[.slice (some ⟨bb, off, none⟩) rest.length c, .int .i64 0] 95)) _ from (by go_grown : Below _ _ ((w.alloc (.cells #[.slice (some ⟨bb, off, none⟩) rest.length c, .int .i64 0] 95)).alloc (.cells #[.slice none 0 0, .int .i64 0] 95))))
      exact h1.below (Nat.le_refl _) hb2)
    have HZ2 := Lib.hid' (show BoxW (w.heap.size + 1) [.slice none 0 0, .int .i64 0] 95 w2 from by
      have h1 := BoxW.start (w.alloc (.cells #[.slice (some ⟨bb, off, none⟩) rest.length c, .int .i64 0] 95)) [.slice none 0 0, .int .i64 0] 95
      rw [show (w.alloc (.cells #[.slice (some ⟨bb, off, none⟩) rest.length c, .int .i64 0] 95)).heap.size = w.heap.size + 1 by simp] at h1
      exact h1.below (Nat.le_refl _) hb2)
    clear hb2
    have d0 := HX2.out.box.1 0 _ rfl
    have d1 := HX2.out.box.1 1 _ rfl
    have df := HX2.out.box.2.1 0
    have hz := HX2.out.lt
    have hkc : k ≤ c := by omega
    by_cases hkc2 : c = k
    · have HS := Lib.hid' (show Bytes w0 (.slice (some ⟨bb, off, none⟩) (rest.drop k).length (c - k)) (rest.drop k) from bytes_sub HD0.out hkl _ (.inr (by omega)) (by simp))
      have hs0 := HS.out
      rw [HLD.out, show rest.length - k = 0 by omega, show c - k = 0 by omega] at hs0
      have HS0 := Lib.hid' hs0
      have HL0 := Lib.hid' (show (rest.drop k).length = 0 by rw [HLD.out]; omega)
      clear hs0 HS
      subst hkc2
      obtain rfl : c = rest.length := by omega
      go_wp2_with fail
      have HX3 := Lib.hid' (HX2.out.set 0 (.slice (some ⟨bb, off, none⟩) 0 0))
      have HZ3 := Lib.hid' (HZ2.out.fr (fr_set w2 w.heap.size 0 (.slice (some ⟨bb, off, none⟩) 0 0)) (by omega))
      have HB3 := Lib.hid' (show Below w.heap.size w (w2.setCell ⟨w.heap.size, 0, none⟩ (.slice (some ⟨bb, off, none⟩) 0 0)) from HB2.out.setCell (by simp) _)
      clear d0 d1 df hz HX2 HZ2 HB2
      generalize w2.setCell ⟨w.heap.size, 0, none⟩ (.slice (some ⟨bb, off, none⟩) 0 0) = w3 at *
      have d0 := HX3.out.box.1 0 _ rfl
      have d1 := HX3.out.box.1 1 _ rfl
      have hz := HX3.out.lt
      have e0 := HZ3.out.box.1 0 _ rfl
      have e1 := HZ3.out.box.1 1 _ rfl
      have f0 := HZ3.out.box.2.1 0
      have f1 := HZ3.out.box.2.1 1
      have hzz := HZ3.out.lt
      go_region
      all_goals
        have HRET := Lib.hid' (show ∀ wq, Below w.heap.size w wq → RNum01R (RD.num ⟨rest, 0⟩) w0 w (.returned (.tuple #[.int .u64 (n : Int), .agg #[.slice (some ⟨bb, off, none⟩) 0 0, .int .i64 0]])) wq from fun wq hq => by
          rw [HR.out]
          refine ⟨some ⟨bb, off, none⟩, 0, ?_, ?_, hq⟩
          · unfold rdV; simp only [HL0.out]; rfl
          · simp only [HL0.out]; exact HS0.out)
        go_wp2
        refine bodyPost_ret (v := .tuple #[.int .u64 (n : Int), .agg #[.slice (some ⟨bb, off, none⟩) 0 0, .int .i64 0]]) (by simp [results, Tryz.results45, go_sem, e0, e1]) rfl (HRET.out _ ?_)
        first | exact HB3.out | exact (HB3.out.setCell (by simp) _) | exact ((HB3.out.setCell (by simp) _).setCell (by simp) _) | exact ((HB3.out.drew.setCell (by simp) _).setCell (by simp) _)
    · have hlt : k < c := by omega
      have HS := Lib.hid' (show Bytes w0 (.slice (some ⟨bb, off + k, none⟩) (rest.drop k).length (c - k)) (rest.drop k) from bytes_sub HD0.out hkl _ (.inl ⟨bb, off, rfl, rfl⟩) (by simp))
      clear hkc2
      go_wp2_with fail
      have HX3 := Lib.hid' (HX2.out.set 0 (.slice (some ⟨bb, off + k, none⟩) (rest.length - k) (c - k)))
      have HZ3 := Lib.hid' (HZ2.out.fr (fr_set w2 w.heap.size 0 (.slice (some ⟨bb, off + k, none⟩) (rest.length - k) (c - k))) (by omega))
      have HB3 := Lib.hid' (show Below w.heap.size w (w2.setCell ⟨w.heap.size, 0, none⟩ (.slice (some ⟨bb, off + k, none⟩) (rest.length - k) (c - k))) from HB2.out.setCell (by simp) _)
      clear d0 d1 df hz HX2 HZ2 HB2
      generalize w2.setCell ⟨w.heap.size, 0, none⟩ (.slice (some ⟨bb, off + k, none⟩) (rest.length - k) (c - k)) = w3 at *
      have d0 := HX3.out.box.1 0 _ rfl
      have d1 := HX3.out.box.1 1 _ rfl
      have hz := HX3.out.lt
      have e0 := HZ3.out.box.1 0 _ rfl
      have e1 := HZ3.out.box.1 1 _ rfl
      have f0 := HZ3.out.box.2.1 0
      have f1 := HZ3.out.box.2.1 1
      have hzz := HZ3.out.lt
      go_region
      all_goals
        have HRET := Lib.hid' (show ∀ wq, Below w.heap.size w wq → RNum01R (RD.num ⟨rest, 0⟩) w0 w (.returned (.tuple #[.int .u64 (n : Int), .agg #[.slice (some ⟨bb, off + k, none⟩) (rest.length - k) (c - k), .int .i64 0]])) wq from fun wq hq => by
          rw [HR.out]
          refine ⟨some ⟨bb, off + k, none⟩, c - k, ?_, HS.out, hq⟩
          unfold rdV; simp only [HLD.out]; rfl)
        go_wp2
        refine bodyPost_ret (v := .tuple #[.int .u64 (n : Int), .agg #[.slice (some ⟨bb, off + k, none⟩) (rest.length - k) (c - k), .int .i64 0]]) (by simp [results, Tryz.results45, go_sem, e0, e1]) rfl (HRET.out _ ?_)
        first | exact HB3.out | exact (HB3.out.setCell (by simp) _) | exact ((HB3.out.setCell (by simp) _).setCell (by simp) _) | exact ((HB3.out.drew.setCell (by simp) _).setCell (by simp) _)
end Go.Proofs.YtkljeefncopodaaGreat
