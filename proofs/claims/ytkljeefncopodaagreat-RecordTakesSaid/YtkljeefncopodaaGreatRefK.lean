/- Layer 1, the document's: readers (Fixed, TextOf); layer 9, the document's: one frame. -/
import Derived.Test.YtkljeefncopodaaGreatRef01
import Derived.Test.YtkljeefncopodaaGreatRefP
import Derived.Test.YtkljeefncopodaaGreatBase
namespace Go.Proofs.YtkljeefncopodaaGreat
open Go.RowKit
set_option linter.unusedSimpArgs false
set_option linter.unusedVariables false
set_option maxRecDepth 100000

def RByt01R (p : List UInt8 × RD) (w0 w : World) (e : Ending) (w' : World) : Prop :=
  ∃ ta tc a c, e = .returned (.tuple #[.slice ta p.1.length tc, rdV p.2 a c]) ∧ Bytes w0 (.slice ta p.1.length tc) p.1 ∧ Bytes w0 (.slice a p.2.rest.length c) p.2.rest ∧ Below w.heap.size w w'
theorem fail_rest (r : RD) (n : Nat) : (r.fail n).rest = r.rest := by unfold RD.fail; split <;> rfl
set_option maxHeartbeats 2000000 in
theorem rfixed01_any (r : RD) (a : Option Addr) (c n : Nat) (hn : n ≤ 1099511627776) (w0 w : World) (h : Bytes w0 (.slice a r.rest.length c) r.rest) :
    Calls Tryz.prog 116 #[rdV r a c, .int .i64 (n : Nat)] w (RByt01R (r.fixed n) w0 w) := by
  have HD := Lib.hid' h
  have hbl := bytes_len h
  have hcap : r.rest.length ≤ c ∧ c ≤ maxLen := by obtain ⟨_, _, he, h1, h2, _⟩ := h; cases he; exact ⟨h1, h2⟩
  have hcm : c ≤ 9223372036854775807 := by have := hcap.2; unfold maxLen at this; omega
  have hcl : r.rest.length ≤ c := hcap.1
  clear h hcap
  obtain ⟨p, hp⟩ : ∃ p, p = r.fixed n := ⟨_, rfl⟩
  have HP := Lib.hid' hp
  rw [← hp]
  have HV := Lib.hid' (show rdV r a c = .agg #[.slice a r.rest.length c, .int .i64 (r.bad : Nat)] from rfl)
  rw [HV.out]
  clear hp
  by_cases hb : r.bad = 0
  rotate_left
  · skip
    have HRET := Lib.hid' (show ∀ wq, Below w.heap.size w wq → RByt01R p w0 w (.returned (.tuple #[.slice none 0 0, .agg #[.slice a r.rest.length c, .int .i64 (r.bad : Nat)]])) wq from fun wq hq => by
      rw [HP.out, show r.fixed n = ([], r) by unfold RD.fixed; rw [if_pos hb]]; exact ⟨none, 0, a, c, rfl, SlV.empty _ _ _ (Nat.zero_le _) (fun _ => rfl), HD.out, hq⟩)
    have hbb : ((r.bad : Int) != 0) = true := by rw [bne_iff_ne]; omega
    clear hb
    go_enter Tryz.func116, Tryz.ntmps116
    go_wp2_with fail
    go_region
    all_goals
      go_wp2
      refine bodyPost_ret (v := .tuple #[.slice none 0 0, .agg #[.slice a r.rest.length c, .int .i64 (r.bad : Nat)]]) (by simp [results, Tryz.results116, go_sem]) rfl ?_
      exact HRET.out _ (by go_grown)
  have HBD := Lib.hid' hb
  have hbb : ((r.bad : Int) != 0) = false := by rw [bne_eq_false_iff_eq]; omega
  clear hb
  by_cases hq : r.rest.length < n
  · skip
    have HPE := Lib.hid' (show p = ([], r.fail 2) by rw [HP.out]; unfold RD.fixed; rw [if_neg (by simpa using HBD.out), if_pos hq])
    have hq2 : ¬ n ≤ r.rest.length := by omega
    have hq3 : (r.rest.length : Int) < (n : Int) := by omega
    have HFA := Lib.hid' (fun wq => rfail01_any r a c 2 (by omega) wq)
    rw [HV.out] at HFA
    go_enter Tryz.func116, Tryz.ntmps116
    go_wp2_with fail
    have H0 : Sep w NoF [] w := Sep.start _
    have H1 : Sep w NoF [.box (w.heap.size + 1) [.slice none 0 0, .int .i64 0] 95, .box (w.heap.size) [.slice a r.rest.length c, .int .i64 (r.bad : Nat)] 95] (((w.alloc (.cells #[.slice a r.rest.length c, .int .i64 (r.bad : Nat)] 95)).alloc (.cells #[.slice none 0 0, .int .i64 0] 95))) := ((H0.allocAt (w.heap.size) [.slice a r.rest.length c, .int .i64 (r.bad : Nat)] 95 (by simp)).allocAt (w.heap.size + 1) [.slice none 0 0, .int .i64 0] 95 (by simp))
    clear H0
    generalize ((w.alloc (.cells #[.slice a r.rest.length c, .int .i64 (r.bad : Nat)] 95)).alloc (.cells #[.slice none 0 0, .int .i64 0] 95)) = w1 at *
    refine (HFA.out _).mono ?_
    rintro e w2 ⟨rfl, hb2⟩
    have H2 : Sep w NoF [.box (w.heap.size + 1) [.slice none 0 0, .int .i64 0] 95, .box (w.heap.size) [.slice a r.rest.length c, .int .i64 (r.bad : Nat)] 95] (w2) := (H1.below hb2)
    clear H1 hb2
    obtain ⟨s1, hs1⟩ : ∃ s1, s1 = r.fail 2 := ⟨_, rfl⟩
    have HRET := Lib.hid' (show ∀ wq, Below w.heap.size w wq → RByt01R p w0 w (.returned (.tuple #[.slice none 0 0, .agg #[.slice a s1.rest.length c, .int .i64 (s1.bad : Nat)]])) wq from fun wq hq => by
      rw [HPE.out, ← hs1]; exact ⟨none, 0, a, c, rfl, SlV.empty _ _ _ (Nat.zero_le _) (fun _ => rfl), by rw [show s1.rest = r.rest by rw [hs1, fail_rest]]; exact HD.out, hq⟩)
    rw [← hs1]
    clear hs1
    unfold rdV
    have Rc0 := H2.cell 1 rfl 0 rfl
    have Rc1 := H2.cell 1 rfl 1 rfl
    have Rl := H2.lt 1 rfl
    have Zc0 := H2.cell 0 rfl 0 rfl
    have Zc1 := H2.cell 0 rfl 1 rfl
    have Zf0 := H2.free 0 rfl 0
    have Zf1 := H2.free 0 rfl 1
    have Zl := H2.lt 0 rfl
    have RnZ := H2.ne 1 0 rfl rfl (by decide)
    have ZnR := H2.ne 0 1 rfl rfl (by decide)
    go_wp2
    refine bodyPost_ret (v := .tuple #[.slice none 0 0, .agg #[.slice a s1.rest.length c, .int .i64 (s1.bad : Nat)]]) (by simp [results, Tryz.results116, go_sem, Zc0, Zc1]) rfl (HRET.out _ ((H2.toBelow.setCell (by simp) _).setCell (by simp) _))
  have HPE := Lib.hid' (show p = (r.rest.take n, ⟨r.rest.drop n, 0⟩) by rw [HP.out]; unfold RD.fixed; rw [if_neg (by simpa using HBD.out), if_neg hq, HBD.out])
  have hq2 : n ≤ r.rest.length := by omega
  have hq3 : ¬ (r.rest.length : Int) < (n : Int) := by omega
  have hmc : n ≤ c := by omega
  have HTK := Lib.hid' (show Bytes w0 (.slice a (r.rest.take n).length c) (r.rest.take n) by rw [show (r.rest.take n).length = n by rw [List.length_take]; omega]; exact bytes_take HD.out hq2)
  have HDL := Lib.hid' (show (r.rest.drop n).length = r.rest.length - n from List.length_drop)
  have HTL := Lib.hid' (show (r.rest.take n).length = n by rw [List.length_take]; omega)
  have HRET := Lib.hid' (show ∀ a2, Bytes w0 (.slice a2 (r.rest.drop n).length (c - n)) (r.rest.drop n) → ∀ wq, Below w.heap.size w wq → RByt01R p w0 w (.returned (.tuple #[.slice a n c, .agg #[.slice a2 (r.rest.length - n) (c - n), .int .i64 (r.bad : Nat)]])) wq from fun a2 hd wq hq => by
    rw [HPE.out]; refine ⟨a, c, a2, c - n, ?_, HTK.out, hd, hq⟩
    simp only [rdV, HTL.out, HDL.out, HBD.out])
  clear hq
  have hadr : (∃ bb off, a = some ⟨bb, off, none⟩) ∨ r.rest.length = 0 := by
    rcases Nat.eq_zero_or_pos r.rest.length with h0 | h0
    · exact .inr h0
    · obtain ⟨bb, off, e, _⟩ := bytes_at HD.out h0; exact .inl ⟨bb, off, e⟩
  have HNN := Lib.hid' (show a = none → c = 0 by obtain ⟨_, _, he, _, _, h0, _⟩ := HD.out; cases he; exact h0)
  have FIN := Lib.hid' (show ∀ (a3 : Option Addr), ((∃ bb off, a = some ⟨bb, off, none⟩ ∧ a3 = some ⟨bb, off + n, none⟩) ∨ r.rest.length = n) → (a3 = none → c = n) → ∀ wq, Below w.heap.size w wq → RByt01R p w0 w (.returned (.tuple #[.slice a n c, .agg #[.slice a3 (r.rest.length - n) (c - n), .int .i64 (r.bad : Nat)]])) wq from fun a3 h3 h4 wq hq => HRET.out a3 (bytes_sub HD.out hq2 a3 h3 h4) wq hq)
  clear HRET HTK HDL HTL HPE HBD
  rcases hadr with ⟨bb, off, rfl⟩ | h0
  · skip
    by_cases hkc : c = n
    · skip
      have HF := Lib.hid' (FIN.out (some ⟨bb, off, none⟩) (.inr (by omega)) (by simp))
      subst hkc
      obtain rfl : c = r.rest.length := by omega
      rw [Nat.sub_self] at HF
      go_enter Tryz.func116, Tryz.ntmps116
      go_wp2_with fail
      go_region
      all_goals
        go_wp2
        refine bodyPost_ret (v := .tuple #[.slice (some ⟨bb, off, none⟩) r.rest.length r.rest.length, .agg #[.slice (some ⟨bb, off, none⟩) 0 0, .int .i64 (r.bad : Nat)]]) (by simp [results, Tryz.results116, go_sem]) rfl ?_
        exact HF.out _ (by go_grown)
    · skip
      have hlt : n < c := by omega
      have HF := Lib.hid' (FIN.out (some ⟨bb, off + n, none⟩) (.inl ⟨bb, off, rfl, rfl⟩) (by simp))
      go_enter Tryz.func116, Tryz.ntmps116
      go_wp2_with fail
      go_region
      all_goals
        go_wp2
        refine bodyPost_ret (v := .tuple #[.slice (some ⟨bb, off, none⟩) n c, .agg #[.slice (some ⟨bb, off + n, none⟩) (r.rest.length - n) (c - n), .int .i64 (r.bad : Nat)]]) (by simp [results, Tryz.results116, go_sem]) rfl ?_
        exact HF.out _ (by go_grown)
  · skip
    obtain rfl : n = 0 := by omega
    cases a with
    | none =>
      obtain rfl := HNN.out rfl
      have HF := Lib.hid' (FIN.out none (.inr (by omega)) (fun _ => rfl))
      simp only [h0, Nat.sub_zero] at HF
      go_enter Tryz.func116, Tryz.ntmps116
      go_wp2_with fail
      go_region
      all_goals
        go_wp2
        refine bodyPost_ret (v := .tuple #[.slice none 0 0, .agg #[.slice none 0 0, .int .i64 (r.bad : Nat)]]) (by simp [results, Tryz.results116, go_sem]) rfl ?_
        exact HF.out _ (by go_grown)
    | some pa =>
      have HF := Lib.hid' (FIN.out (some pa) (.inr (by omega)) (by simp))
      simp only [h0, Nat.sub_zero] at HF
      go_enter Tryz.func116, Tryz.ntmps116
      go_wp2_with fail
      go_region
      all_goals
        go_wp2
        refine bodyPost_ret (v := .tuple #[.slice (some pa) 0 c, .agg #[.slice (some pa) 0 c, .int .i64 (r.bad : Nat)]]) (by simp [results, Tryz.results116, go_sem]) rfl ?_
        exact HF.out _ (by go_grown)
set_option maxHeartbeats 2000000 in
theorem rtext01_any (r : RD) (a : Option Addr) (c most : Nat) (hm : most ≤ 1099511627776) (w0 w : World) (h : Bytes w0 (.slice a r.rest.length c) r.rest) (hb0 : Below w0.heap.size w0 w) :
    Calls Tryz.prog 54 #[rdV r a c, .int .i64 (most : Nat)] w (RByt01R (r.text most) w0 w) := by
  have HD := Lib.hid' h
  have HB0 := Lib.hid' hb0
  have hbl := bytes_len h
  clear h hb0
  have HV := Lib.hid' (show rdV r a c = .agg #[.slice a r.rest.length c, .int .i64 (r.bad : Nat)] from rfl)
  rw [HV.out]
  go_enter Tryz.func54, Tryz.ntmps54
  go_wp2_with fail
  have H0 : Sep w NoF [] w := Sep.start _
  have H1 : Sep w NoF [.box (w.heap.size + 1) [.slice none 0 0, .int .i64 0] 95, .box (w.heap.size) [.slice a r.rest.length c, .int .i64 (r.bad : Nat)] 95] (((w.alloc (.cells #[.slice a r.rest.length c, .int .i64 (r.bad : Nat)] 95)).alloc (.cells #[.slice none 0 0, .int .i64 0] 95))) := ((H0.allocAt (w.heap.size) [.slice a r.rest.length c, .int .i64 (r.bad : Nat)] 95 (by simp)).allocAt (w.heap.size + 1) [.slice none 0 0, .int .i64 0] 95 (by simp))
  clear H0
  generalize ((w.alloc (.cells #[.slice a r.rest.length c, .int .i64 (r.bad : Nat)] 95)).alloc (.cells #[.slice none 0 0, .int .i64 0] 95)) = w1 at *
  obtain ⟨n, hn⟩ : ∃ n, n = (r.count most).1 := ⟨_, rfl⟩
  obtain ⟨s, hs⟩ : ∃ s, s = (r.count most).2 := ⟨_, rfl⟩
  have HPE := Lib.hid' (show r.text most = s.fixed n by rw [hn, hs]; rfl)
  have hnm : n ≤ most := by rw [hn]; exact count_le r most
  have hct := rcount01_any r a c most (by omega) w0 w1 HD.out (HB0.out.trans (H1.toBelow.mono HB0.out.size))
  unfold RInt01R at hct
  rw [← hn, ← hs] at hct
  clear hn hs
  refine hct.mono ?_
  clear hct
  rintro e w2 ⟨a2, c2, rfl, hy2, hb2⟩
  have HY2 := Lib.hid' hy2
  clear hy2
  have H2 : Sep w NoF [.box (w.heap.size + 1) [.slice none 0 0, .int .i64 0] 95, .box (w.heap.size) [.slice a r.rest.length c, .int .i64 (r.bad : Nat)] 95] (w2) := (H1.below hb2)
  clear H1 hb2
  unfold rdV
  have Rc0 := H2.cell 1 rfl 0 rfl
  have Rc1 := H2.cell 1 rfl 1 rfl
  have Rf0 := H2.free 1 rfl 0
  have Rf1 := H2.free 1 rfl 1
  have Rl := H2.lt 1 rfl
  have Zc0 := H2.cell 0 rfl 0 rfl
  have Zc1 := H2.cell 0 rfl 1 rfl
  have Zf0 := H2.free 0 rfl 0
  have Zf1 := H2.free 0 rfl 1
  have Zl := H2.lt 0 rfl
  have RnZ := H2.ne 1 0 rfl rfl (by decide)
  have ZnR := H2.ne 0 1 rfl rfl (by decide)
  go_wp2_with fail
  have H3 : Sep w NoF [.box (w.heap.size) [.slice a2 s.rest.length c2, .int .i64 (s.bad : Nat)] 95, .box (w.heap.size + 1) [.slice none 0 0, .int .i64 0] 95] (((w2.setCell ⟨w.heap.size, 0, none⟩ (.slice a2 s.rest.length c2)).setCell ⟨w.heap.size, 1, none⟩ (.int .i64 (s.bad : Nat)))) := ((H2.set 1 rfl 0 (.slice a2 s.rest.length c2)).set 0 rfl 1 (.int .i64 (s.bad : Nat)))
  clear Rc0 Rc1 Rf0 Rf1 Rl Zc0 Zc1 Zf0 Zf1 Zl RnZ ZnR
  clear H2
  generalize ((w2.setCell ⟨w.heap.size, 0, none⟩ (.slice a2 s.rest.length c2)).setCell ⟨w.heap.size, 1, none⟩ (.int .i64 (s.bad : Nat))) = w3 at *
  refine (rfixed01_any s a2 c2 n (by omega) w0 _ HY2.out).mono ?_
  rintro e w4 ⟨ta, tc, a4, c4, rfl, ht4, hy4, hb4⟩
  have HT4 := Lib.hid' ht4
  have HY4 := Lib.hid' hy4
  clear ht4 hy4
  have H4 : Sep w NoF [.box (w.heap.size) [.slice a2 s.rest.length c2, .int .i64 (s.bad : Nat)] 95, .box (w.heap.size + 1) [.slice none 0 0, .int .i64 0] 95] (w4) := (H3.below hb4)
  clear H3 hb4
  obtain ⟨x, hx⟩ : ∃ x, x = s.fixed n := ⟨_, rfl⟩
  rw [← hx] at HT4 HY4 HPE
  rw [← hx]
  clear hx
  obtain ⟨tx, s4⟩ := x
  simp only at HT4 HY4 ⊢
  unfold rdV
  have Rc0 := H4.cell 0 rfl 0 rfl
  have Rc1 := H4.cell 0 rfl 1 rfl
  have Rf0 := H4.free 0 rfl 0
  have Rf1 := H4.free 0 rfl 1
  have Rl := H4.lt 0 rfl
  have Zc0 := H4.cell 1 rfl 0 rfl
  have Zc1 := H4.cell 1 rfl 1 rfl
  have Zf0 := H4.free 1 rfl 0
  have Zf1 := H4.free 1 rfl 1
  have Zl := H4.lt 1 rfl
  have RnZ := H4.ne 0 1 rfl rfl (by decide)
  have ZnR := H4.ne 1 0 rfl rfl (by decide)
  go_wp2
  refine bodyPost_ret (v := .tuple #[.slice ta tx.length tc, .agg #[.slice a4 s4.rest.length c4, .int .i64 (s4.bad : Nat)]]) (by simp [results, Tryz.results54, go_sem, Zc0, Zc1]) rfl ?_
  rw [HPE.out]
  exact ⟨ta, tc, a4, c4, rfl, HT4.out, HY4.out, (H4.toBelow.setCell (by simp) _).setCell (by simp) _⟩
def ROneR (b : List UInt8) (w : World) (en : Ending) (w' : World) : Prop :=
  ∃ a2 t c2, en = .returned (.tuple #[.slice a2 t.length c2, .int .i64 ((fone b).1 : Nat)]) ∧ Bytes w' (.slice a2 t.length c2) t ∧ ((fone b).1 = 0 → t = (fone b).2) ∧ Below w.heap.size w w'
theorem rone09_any (b : List UInt8) (a : Option Addr) (c : Nat) (w : World) (h : Bytes w (.slice a b.length c) b) :
    Calls Tryz.prog 53 #[.slice a b.length c] w (ROneR b w) := by
  have hbl := bytes_len h
  have hft := rtake04_any b a c w h
  obtain ⟨⟨fe, t, fn⟩, hq⟩ : ∃ q, q = ftake b := ⟨_, rfl⟩
  have HFO := Lib.hid' (show fone b = if fe ≠ 0 then (fe, []) else if fn < b.length then (2, []) else (0, t) by unfold fone; rw [← hq])
  rw [← hq] at hft
  unfold RTake04R at hft
  have HFT := Lib.hid' hft
  clear h hft hq
  go_enter Tryz.func53, Tryz.ntmps53
  go_wp2_with fail
  refine HFT.out.mono ?_
  clear HFT
  rintro en w2 ⟨a2, c2, rfl, hy2, hb2⟩
  have HRET := Lib.hid' (show ∀ n : Nat, (fone b).1 = n → ((fone b).1 = 0 → t = (fone b).2) → ROneR b w (.returned (.tuple #[.slice a2 t.length c2, .int .i64 (n : Nat)])) w2 from fun n hn ht => by
    subst hn; exact ⟨a2, t, c2, rfl, hy2, ht, hb2⟩)
  clear hy2 hb2
  simp only
  by_cases hf0 : fe = 0
  · subst hf0
    by_cases hfn : fn < b.length
    · have HR := Lib.hid' (HRET.out 2 (by rw [HFO.out, if_neg (by simp), if_pos hfn]) (by rw [HFO.out, if_neg (by simp), if_pos hfn]; intro h; cases h))
      go_wp2
      go_ret2
      exact HR.out
    · have HR := Lib.hid' (HRET.out 0 (by rw [HFO.out, if_neg (by simp), if_neg hfn]) (by rw [HFO.out, if_neg (by simp), if_neg hfn]; intro h; rfl))
      have hfb : ¬ (fn : Int) < (b.length : Int) := by omega
      go_wp2
      go_ret2
      exact HR.out
  · have HR := Lib.hid' (HRET.out fe (by rw [HFO.out, if_pos hf0]) (by rw [HFO.out, if_pos hf0]; intro h; exact absurd h hf0))
    have hbb : ((fe : Int) == 0) = false := by rw [beq_eq_false_iff_ne]; omega
    clear hf0
    go_wp2
    go_ret2
    exact HR.out
end Go.Proofs.YtkljeefncopodaaGreat
