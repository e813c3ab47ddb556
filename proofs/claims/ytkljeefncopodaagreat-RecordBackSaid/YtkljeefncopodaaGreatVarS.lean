/- Layer 1 (varint): the reader: Within, count, Fixed, Text, Err, Left, End. -/
import Derived.Test.YtkljeefncopodaaGreatVarR
namespace Go.Proofs.YtkljeefncopodaaGreat
open Go.RowKit
set_option linter.unusedSimpArgs false
set_option linter.unusedVariables false
set_option maxRecDepth 20000

theorem frb {b : Nat} {x y z : World} (h : Fr (fun k => k = b) x y) (k : Fr (fun k => k = b) y z) : Fr (fun k => k = b) x z := h.trans k (fun i hi => .inl hi)
set_option maxHeartbeats 1000000 in
theorem within_r_any (b : Nat) (r : RD) (most : Nat) (hm : most ≤ 9223372036854775807) (w : World) (h : RAt w b r) : Calls Tryz.prog 37 #[.pointer (some ⟨b, 0, none⟩), .int .u64 most] w (RR (.int .i64 ((r.within most).1 : Nat)) b (r.within most).2 w) := by
  have HC := Lib.hid' (number_any b r w h)
  have hn := RD.num_lt r
  clear h
  by_cases hq : most < r.num.1 ∨ 4611686018427387904 < r.num.1
  · have HR := Lib.hid' (show r.within most = (0, r.num.2.fail 1) by unfold RD.within; rw [if_pos hq])
    generalize r.num.1 = n at *
    have hq2 : most < n ∨ (¬ most < n ∧ 4611686018427387904 < n) := by omega
    clear hq
    go_enter Tryz.func37, Tryz.ntmps37
    go_wp2_with fail
    refine HC.out.mono ?_
    rintro e w1 ⟨rfl, h1, hf1⟩
    have H1 := Lib.hid' h1
    have HF := Lib.hid' hf1
    clear h1 hf1 HC
    rcases hq2 with hq | ⟨hq1, hq⟩
    all_goals
      go_wp2_with fail
      refine (fail_any b r.num.2 1 (by decide) w1 H1.out).mono ?_
      rintro e w2 ⟨rfl, h2, hf2⟩
      have H2 := Lib.hid' h2
      have HF2 := Lib.hid' (frb HF.out hf2)
      clear h2 hf2
      go_wp2
      go_ret
      exact ⟨ret_eq (by rw [HR.out]; rfl), by rw [HR.out]; exact H2.out, HF2.out⟩
  · have HR := Lib.hid' (show r.within most = r.num by unfold RD.within; rw [if_neg hq])
    obtain ⟨n, hn'⟩ : ∃ n, n = r.num.1 := ⟨_, rfl⟩
    rw [← hn'] at HC hq hn
    have HN := Lib.hid' hn'
    have hq1 : ¬ most < n := by omega
    have hq2 : ¬ 4611686018427387904 < n := by omega
    clear hq hn'
    go_enter Tryz.func37, Tryz.ntmps37
    go_wp2_with fail
    refine HC.out.mono ?_
    rintro e w1 ⟨rfl, h1, hf1⟩
    have H1 := Lib.hid' h1
    have HF := Lib.hid' hf1
    clear h1 hf1 HC
    go_wp2
    go_ret
    exact ⟨ret_eq (by rw [HR.out, ← HN.out]; rfl), by rw [HR.out]; exact H1.out, HF.out⟩
set_option maxHeartbeats 1000000 in
theorem count_any (b : Nat) (r : RD) (most : Nat) (hm : most ≤ 4611686018427387904) (w : World) (h : RAt w b r) : Calls Tryz.prog 113 #[.pointer (some ⟨b, 0, none⟩), .int .i64 most] w (RR (.int .i64 ((r.count most).1 : Nat)) b (r.count most).2 w) := by
  have HC := Lib.hid' (number_any b r w h)
  have hn := RD.num_lt r
  clear h
  go_enter Tryz.func113, Tryz.ntmps113
  go_wp2_with fail
  refine HC.out.mono ?_
  rintro e w1 ⟨rfl, h1, hf1⟩
  have H1 := Lib.hid' h1
  have HF := Lib.hid' hf1
  have HG := Lib.hid' (going_any b _ w1 h1)
  clear h1 hf1 HC
  by_cases hb : r.num.2.bad = 0
  rotate_left
  · have HR := Lib.hid' (show r.count most = (0, r.num.2) by unfold RD.count; rw [if_pos hb])
    have hbd : decide (r.num.2.bad = 0) = false := decide_eq_false hb
    rw [hbd] at HG
    clear hb hbd
    go_wp2_with fail
    refine HG.out.mono ?_
    rintro e w2 ⟨rfl, rfl⟩
    go_wp2
    go_ret
    exact ⟨ret_eq (by rw [HR.out]; rfl), by rw [HR.out]; exact H1.out, HF.out⟩
  have hbd : decide (r.num.2.bad = 0) = true := decide_eq_true hb
  rw [hbd] at HG
  have HBD := Lib.hid' hb
  clear hb hbd
  by_cases hq : most < r.num.1
  · have HR := Lib.hid' (show r.count most = (0, r.num.2.fail 3) by unfold RD.count; rw [if_neg (by simpa using HBD.out), if_pos hq])
    obtain ⟨n, hn'⟩ : ∃ n, n = r.num.1 := ⟨_, rfl⟩
    rw [← hn'] at hq hn ⊢
    clear hn'
    go_wp2_with fail
    refine HG.out.mono ?_
    rintro e w2 ⟨rfl, rfl⟩
    go_wp2_with fail
    refine (fail_any b r.num.2 3 (by decide) w1 H1.out).mono ?_
    rintro e w2 ⟨rfl, h2, hf2⟩
    have H2 := Lib.hid' h2
    have HF2 := Lib.hid' (frb HF.out hf2)
    clear h2 hf2
    go_wp2
    go_ret
    exact ⟨ret_eq (by rw [HR.out]; rfl), by rw [HR.out]; exact H2.out, HF2.out⟩
  · have HR := Lib.hid' (show r.count most = r.num by unfold RD.count; rw [if_neg (by simpa using HBD.out), if_neg hq])
    obtain ⟨n, hn'⟩ : ∃ n, n = r.num.1 := ⟨_, rfl⟩
    have HN := Lib.hid' hn'
    rw [← hn'] at hq hn ⊢
    clear hn'
    go_wp2_with fail
    refine HG.out.mono ?_
    rintro e w2 ⟨rfl, rfl⟩
    go_wp2
    go_ret
    exact ⟨ret_eq (by rw [HR.out, ← HN.out]; rfl), by rw [HR.out]; exact H1.out, HF.out⟩
/-- bytes are handed back in a row of the call's own -/
def FixR (l : List UInt8) (b : Nat) (r : RD) (w : World) (e : Ending) (w' : World) : Prop :=
  ∃ a c, e = .returned (.slice a l.length c) ∧ w'.ownsRow w.heap.size 5 1 (.slice a l.length c) l.length (byteVs l) ∧ RAt w' b r ∧ Fr (fun k => k = b) w w'
set_option maxHeartbeats 1000000 in
theorem fixed_any (b : Nat) (r : RD) (many : Nat) (hm : many ≤ 1099511627776) (w : World) (h : RAt w b r) : Calls Tryz.prog 112 #[.pointer (some ⟨b, 0, none⟩), .int .i64 many] w (FixR (r.fixed many).1 b (r.fixed many).2 w) := by
  have H := Lib.hid' h
  have HG := Lib.hid' (going_any b r w h)
  obtain ⟨a, c, hx, hd, hlo⟩ := h
  have HLO := Lib.hid' hlo
  clear hlo
  have c0 := hx.box.1 0 _ rfl
  have c1 := hx.box.1 1 _ rfl
  have f0 := hx.box.2.1 0
  have HX := Lib.hid' hx
  have HD := Lib.hid' hd
  have hlen := bytes_len hd
  have hcap : r.rest.length ≤ c ∧ c ≤ maxLen := by obtain ⟨_, _, he, h1, h2, _⟩ := hd; cases he; exact ⟨h1, h2⟩
  have hcm : c ≤ 9223372036854775807 := by have := hcap.2; unfold maxLen at this; omega
  clear hx hd
  by_cases hb : r.bad = 0
  rotate_left
  · have HR := Lib.hid' (RD.fixed_bad hb many)
    have hbd : decide (r.bad = 0) = false := decide_eq_false hb
    rw [hbd] at HG
    clear hb hbd
    go_enter Tryz.func112, Tryz.ntmps112
    go_wp2_with fail
    refine HG.out.mono ?_
    rintro e w1 ⟨rfl, rfl⟩
    clear HG
    go_wp2
    go_ret
    rw [HR.out]
    exact ⟨none, 0, rfl, own_nil _ _ _ _, H.out, Fr.refl _ _⟩
  have hbd : decide (r.bad = 0) = true := decide_eq_true hb
  rw [hbd] at HG
  have HBD := Lib.hid' hb
  clear hb hbd
  by_cases hq : r.rest.length < many
  · have HR := Lib.hid' (show r.fixed many = ([], r.fail 2) by unfold RD.fixed; rw [if_neg (by simpa using HBD.out), if_pos hq])
    have hq2 : ¬ many ≤ r.rest.length := by omega
    go_enter Tryz.func112, Tryz.ntmps112
    go_wp2_with fail
    refine HG.out.mono ?_
    rintro e w1 ⟨rfl, rfl⟩
    clear HG
    go_wp2_with fail
    refine (fail_any b r 2 (by decide) w H.out).mono ?_
    rintro e w2 ⟨rfl, h2, hf2⟩
    have H2 := Lib.hid' h2
    have HF2 := Lib.hid' hf2
    clear h2 hf2
    go_wp2
    go_ret
    rw [HR.out]
    exact ⟨none, 0, rfl, own_nil _ _ _ _, H2.out, HF2.out⟩
  have HR := Lib.hid' (show r.fixed many = (r.rest.take many, ⟨r.rest.drop many, 0⟩) by unfold RD.fixed; rw [if_neg (by simpa using HBD.out), if_neg hq]; simp only [HBD.out])
  have hq2 : many ≤ r.rest.length := by omega
  have hmc : many ≤ c := by omega
  have HTK := Lib.hid' (bytes_take HD.out hq2)
  have HTL := Lib.hid' (show (r.rest.take many).length = many by rw [List.length_take]; omega)
  have HLD := Lib.hid' (List.length_drop (i := many) (l := r.rest))
  have hcl := clone_any (.slice a many c) (r.rest.take many) w HTK.out (by rw [HTL.out]; omega)
  rw [HTL.out] at hcl
  have HCL := Lib.hid' hcl
  rw [HBD.out] at HX
  clear hq hcl
  have hadr : (∃ bb off, a = some ⟨bb, off, none⟩) ∨ r.rest.length = 0 := by
    rcases Nat.eq_zero_or_pos r.rest.length with h0 | h0
    · exact .inr h0
    · obtain ⟨bb, off, e, _⟩ := bytes_at HD.out h0; exact .inl ⟨bb, off, e⟩
  have HNN := Lib.hid' (show a = none → c = 0 by obtain ⟨_, _, he, _, _, h0, _⟩ := HD.out; cases he; exact h0)
  go_enter Tryz.func112, Tryz.ntmps112
  go_wp2_with fail
  refine HG.out.mono ?_
  rintro e w1 ⟨rfl, rfl⟩
  clear HG
  go_wp2_with fail
  refine HCL.out.mono ?_
  rintro e w2 ⟨a2, c2, rfl, ho2, hb2⟩
  have HX2 := Lib.hid' (HX.out.below (Nat.le_refl _) hb2)
  have HD2 := Lib.hid' (show Bytes w2 (.slice a r.rest.length c) r.rest from SlV.below HD.out (Nat.le_refl _) hb2)
  have HO2 := Lib.hid' ho2
  have HB2 := Lib.hid' hb2
  have d0 := HX2.out.box.1 0 _ rfl
  have g0 := HX2.out.box.2.1 0
  have hbl := HX.out.lt
  clear ho2 hb2 HCL c0 f0 c1
  have fin : ∀ (a3 : Option Addr), ((∃ bb off, a = some ⟨bb, off, none⟩ ∧ a3 = some ⟨bb, off + many, none⟩) ∨ r.rest.length = many) → (a3 = none → c = many) → FixR (r.rest.take many) b ⟨r.rest.drop many, 0⟩ w (.returned (.slice a2 many c2)) (w2.setCell ⟨b, 0, none⟩ (.slice a3 (r.rest.length - many) (c - many))) := by
    intro a3 h3 h4
    have hs := HX2.out.set 0 (.slice a3 (r.rest.length - many) (c - many))
    have hfr := fr_set w2 b 0 (.slice a3 (r.rest.length - many) (c - many))
    refine ⟨a2, c2, by rw [HTL.out], ?_, ⟨a3, c - many, by rw [HLD.out]; exact hs, HX2.out.bytes rat_no (bytes_sub HD2.out hq2 a3 h3 h4) hfr, HLO.out.sub (fun hm => by
      have hm' : r.rest.length - many ≠ 0 := by simpa [List.length_drop] using hm
      rcases h3 with ⟨bb, off, e1, e2⟩ | h3
      · exact ⟨by omega, bb, off, off + many, e1, e2⟩
      · omega)⟩, (Fr.of_below HB2.out).trans hfr (fun i hi => .inl hi)⟩
    rw [HTL.out]
    exact ownsRow_setCell_below HO2.out hbl _
  have FIN := Lib.hid' fin
  clear fin
  rcases hadr with ⟨bb, off, rfl⟩ | h0
  · by_cases hkc : c = many
    · have HFF := Lib.hid' (FIN.out (some ⟨bb, off, none⟩) (.inr (by omega)) (by simp))
      subst hkc
      obtain rfl : c = r.rest.length := by omega
      go_wp2
      go_ret
      rw [HR.out]
      have := HFF.out
      rw [Nat.sub_self] at this
      exact this
    · have hlt : many < c := by omega
      have HFF := Lib.hid' (FIN.out (some ⟨bb, off + many, none⟩) (.inl ⟨bb, off, rfl, rfl⟩) (by simp))
      go_wp2
      go_ret
      rw [HR.out]
      exact HFF.out
  · obtain rfl : many = 0 := by omega
    cases a with
    | none =>
      obtain rfl := HNN.out rfl
      have HFF := Lib.hid' (FIN.out none (.inr (by omega)) (fun _ => rfl))
      go_wp2
      go_ret
      rw [HR.out]
      have := HFF.out
      simp only [h0, Nat.sub_zero] at this
      exact this
    | some p =>
      have HFF := Lib.hid' (FIN.out (some p) (.inr (by omega)) (by simp))
      go_wp2
      go_ret
      rw [HR.out]
      have := HFF.out
      simp only [h0, Nat.sub_zero] at this
      exact this
theorem text_r_any (b : Nat) (r : RD) (most : Nat) (hm : most ≤ 1099511627776) (w : World) (h : RAt w b r) : Calls Tryz.prog 51 #[.pointer (some ⟨b, 0, none⟩), .int .i64 most] w (FixR (r.text most).1 b (r.text most).2 w) := by
  have HC := Lib.hid' (count_any b r most (by omega) w h)
  have hcl : (r.count most).1 ≤ most := by
    unfold RD.count
    split
    · exact Nat.zero_le _
    · split
      · exact Nat.zero_le _
      · omega
  have HR := Lib.hid' (show r.text most = (r.count most).2.fixed (r.count most).1 from rfl)
  clear h
  go_enter Tryz.func51, Tryz.ntmps51
  go_wp2_with fail
  refine HC.out.mono ?_
  rintro e w1 ⟨rfl, h1, hf1⟩
  have H1 := Lib.hid' h1
  have HF := Lib.hid' hf1
  have hz := hf1.size
  clear h1 hf1 HC
  obtain ⟨n, hn⟩ : ∃ n, n = (r.count most).1 := ⟨_, rfl⟩
  obtain ⟨r2, hr2⟩ : ∃ r2, r2 = (r.count most).2 := ⟨_, rfl⟩
  rw [← hn] at hcl HR ⊢
  rw [← hr2] at H1 HR
  clear hn hr2
  go_wp2_with fail
  refine (fixed_any b r2 n (by omega) w1 H1.out).mono ?_
  rintro e w2 ⟨a, c, rfl, ho, h2, hf2⟩
  rw [← HR.out] at ho h2 ⊢
  have HO := Lib.hid' (own_base (B' := w.heap.size) ho hz)
  have H2 := Lib.hid' h2
  have HF2 := Lib.hid' (frb HF.out hf2)
  clear ho h2 hf2
  obtain ⟨t, ht⟩ : ∃ t, t = r.text most := ⟨_, rfl⟩
  have HTT := Lib.hid' ht
  rw [← ht] at HO H2 ⊢
  clear ht
  go_wp2
  go_ret
  rw [← HTT.out]
  exact ⟨a, c, rfl, HO.out, H2.out, HF2.out⟩
theorem err_any (b : Nat) (r : RD) (w : World) (h : RAt w b r) : Calls Tryz.prog 102 #[.pointer (some ⟨b, 0, none⟩)] w fun e w' => e = .returned (errV r.bad) ∧ w = w' := by
  obtain ⟨a, c, hx, _⟩ := h
  have c1 := hx.box.1 1 _ rfl
  have c0 := hx.box.1 0 _ rfl
  clear hx
  obtain ⟨v, hv⟩ : ∃ v, v = errV r.bad := ⟨_, rfl⟩
  have HV := Lib.hid' hv
  rw [← hv] at c1
  clear hv
  go_enter Tryz.func102, Tryz.ntmps102
  go_wp2
  go_ret
  exact ⟨ret_eq (by rw [← HV.out]; rfl), rfl⟩
def RD.left (r : RD) : Nat := if r.bad = 0 then r.rest.length else 0
theorem left_any (b : Nat) (r : RD) (w : World) (h : RAt w b r) : Calls Tryz.prog 103 #[.pointer (some ⟨b, 0, none⟩)] w fun e w' => e = .returned (.int .i64 r.left) ∧ w = w' := by
  have HG := Lib.hid' (going_any b r w h)
  obtain ⟨a, c, hx, hd⟩ := h
  have c0 := hx.box.1 0 _ rfl
  have c1 := hx.box.1 1 _ rfl
  clear hx hd
  by_cases hb : r.bad = 0
  · have HR := Lib.hid' (show r.left = r.rest.length from if_pos hb)
    rw [decide_eq_true hb] at HG
    clear hb c1
    go_enter Tryz.func103, Tryz.ntmps103
    go_wp2_with fail
    refine HG.out.mono ?_
    rintro e w1 ⟨rfl, rfl⟩
    go_wp2
    go_ret
    exact ⟨ret_eq (by rw [HR.out]; rfl), rfl⟩
  · have HR := Lib.hid' (show r.left = 0 from if_neg hb)
    rw [decide_eq_false hb] at HG
    clear hb c1
    go_enter Tryz.func103, Tryz.ntmps103
    go_wp2_with fail
    refine HG.out.mono ?_
    rintro e w1 ⟨rfl, rfl⟩
    go_wp2
    go_ret
    exact ⟨ret_eq (by rw [HR.out]; rfl), rfl⟩
set_option maxHeartbeats 1000000 in
theorem end_any (b : Nat) (r : RD) (w : World) (h : RAt w b r) : Calls Tryz.prog 41 #[.pointer (some ⟨b, 0, none⟩)] w fun e w' => e = .returned (errV r.fin) ∧ w = w' := by
  have HE := Lib.hid' (err_any b r w h)
  have HL := Lib.hid' (left_any b r w h)
  clear h
  by_cases hb : r.bad = 0
  rotate_left
  · have HR := Lib.hid' (RD.fin_bad hb)
    rw [errV_pos hb] at HE
    have HP := Lib.hid' (errV_pos hb)
    clear hb HL
    go_enter Tryz.func41, Tryz.ntmps41
    go_wp2_with fail
    refine HE.out.mono ?_
    rintro e w1 ⟨rfl, rfl⟩
    clear HE
    go_wp2
    go_ret
    exact ⟨ret_eq (by rw [HR.out, HP.out]; rfl), rfl⟩
  rw [show r.left = r.rest.length from if_pos hb] at HL
  have HBD := Lib.hid' hb
  rw [hb, errV_0] at HE
  clear hb
  by_cases hl : 0 < r.rest.length
  · have HR := Lib.hid' (show r.fin = 2 by unfold RD.fin; rw [if_pos ⟨HBD.out, hl⟩])
    go_enter Tryz.func41, Tryz.ntmps41
    go_wp2_with fail
    refine HE.out.mono ?_
    rintro e w1 ⟨rfl, rfl⟩
    clear HE
    go_wp2_with fail
    refine HL.out.mono ?_
    rintro e w1 ⟨rfl, rfl⟩
    clear HL
    go_wp2
    go_ret
    exact ⟨ret_eq (by rw [HR.out]; rfl), rfl⟩
  · have HR := Lib.hid' (show r.fin = 0 by unfold RD.fin; rw [if_neg (fun h => hl h.2)]; exact HBD.out)
    have hl' : r.rest.length ≤ 0 := by omega
    clear hl
    go_enter Tryz.func41, Tryz.ntmps41
    go_wp2_with fail
    refine HE.out.mono ?_
    rintro e w1 ⟨rfl, rfl⟩
    clear HE
    go_wp2_with fail
    refine HL.out.mono ?_
    rintro e w1 ⟨rfl, rfl⟩
    clear HL
    go_wp2
    go_ret
    exact ⟨ret_eq (by rw [HR.out]; rfl), rfl⟩
end Go.Proofs.YtkljeefncopodaaGreat
