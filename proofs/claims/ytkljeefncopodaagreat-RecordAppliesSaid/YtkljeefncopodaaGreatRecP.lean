/- Layer 9: record.Apply: any act at any unit; what the document says of it. -/
import Derived.Test.YtkljeefncopodaaGreatUnitW
import Derived.Test.YtkljeefncopodaaGreatUnitP
import Derived.Test.YtkljeefncopodaaGreatRef08
import Derived.Test.YtkljeefncopodaaGreatRecC
import Derived.Test.YtkljeefncopodaaGreatDoM
namespace Go.Proofs.YtkljeefncopodaaGreat
open Go.RowKit
set_option linter.unusedSimpArgs false
set_option linter.unusedVariables false
set_option maxRecDepth 100000

def apU (u : U) (x : Ac) : Nat × Int × U :=
  if x.check ≠ 0 then (x.check, 0, u) else if x.k = 1 then u.sealE x.e else if x.k = 2 then ((u.write x.e x.a x.d).1, 0, (u.write x.e x.a x.d).2)
  else if x.k = 3 then ((u.fill x.e x.a).1, 0, (u.fill x.e x.a).2) else if x.k = 4 then ((u.trim x.e x.a).1, 0, (u.trim x.e x.a).2) else u.cut x.e x.a
def apR (m : U) (x : Ac) : Nat × Int × U :=
  if x.check ≠ 0 then (x.check, 0, m) else if x.k = 1 then ((m.rSeal x.e).2.2, (m.rSeal x.e).1, (m.rSeal x.e).2.1) else if x.k = 2 then ((m.rWrite x.e x.a x.d).2, 0, (m.rWrite x.e x.a x.d).1)
  else if x.k = 3 then ((m.rFill x.e x.a).2, 0, (m.rFill x.e x.a).1) else if x.k = 4 then ((m.rTrim x.e x.a).2, 0, (m.rTrim x.e x.a).1) else ((m.rCut x.e x.a).2.2, (m.rCut x.e x.a).1, (m.rCut x.e x.a).2.1)
theorem ap_same {u : U} (h : u.ok) (x : Ac) : apR u.doc x = ((apU u x).1, (apU u x).2.1, (apU u x).2.2.doc) := by
  unfold apR apU
  rw [play_seal h, play_write h, play_fill h, play_trim h, play_cut h]
  split; · rfl
  split; · rfl
  split; · rfl
  split; · rfl
  split; · rfl
  rfl
theorem apU_ok {u : U} (h : u.ok) (x : Ac) : (apU u x).2.2.ok := by
  unfold apU
  split; · exact h
  split; · exact U.ok_sealE h _
  split; · exact U.ok_write h _ _ _
  split; · exact U.ok_fill h _ _
  split; · exact U.ok_trim h _ _
  exact U.ok_cut h _ _
theorem apU_len (u : U) (x : Ac) : (apU u x).2.2.cells.length ≤ u.cells.length + 1 := by
  unfold apU
  split; · simp
  split; · unfold U.sealE; (repeat' split) <;> simp
  split; · unfold U.write; (repeat' split) <;> first | exact putC_len _ _ _ | simp
  split; · unfold U.fill; (repeat' split) <;> first | exact putC_len _ _ _ | simp
  split; · unfold U.trim; split; · simp
           · exact Nat.le_succ_of_le (List.length_filter_le _ _)
  unfold U.cut; split; · simp
  split; · simp
  exact Nat.le_succ_of_le (List.length_filter_le _ _)

theorem UnitR.past {v : Value} {A : Nat → Prop} {bu bm : Nat} {u : U} {w w1 w2 : World} {en : Ending} (hb : Below w.heap.size w w1) (h : UnitR v A bu bm u w1 en w2) : UnitR v A bu bm u w en w2 :=
  ⟨h.1, h.2.1, (Fr.of_below hb).trans h.2.2 (fun i hi => .inl hi)⟩
theorem fr3 {N : Nat} {w : World} (a b c : Value) : Fr (fun q => q = N) w (((w.setCell ⟨N, 0, none⟩ a).setCell ⟨N, 1, none⟩ b).setCell ⟨N, 2, none⟩ c) :=
  ((fr_set _ _ _ _).trans (fr_set _ _ _ _) (fun i hi => .inl hi)).trans (fr_set _ _ _ _) (fun i hi => .inl hi)
theorem rl3 {N T : Nat} {w : World} {x y : Int} {sa : Option Addr} {sn sc : Nat} {v : Value} {L : List (Int × C)} (h : BoxW N [.int .i64 x, .int .i64 y, .slice sa sn sc] T w) (hl : RList w v L) (a b c : Value) :
    RList (((w.setCell ⟨N, 0, none⟩ a).setCell ⟨N, 1, none⟩ b).setCell ⟨N, 2, none⟩ c) v L :=
  h.rlist (by intro b hb; simp at hb) hl (fr3 a b c)
theorem rl_drew {w : World} {v : Value} {L : List (Int × C)} (h : RList w v L) : RList w.drew v L := SlV.below h (Nat.le_refl _) (Below.drew (Below.refl _ w))
theorem res3 {W w : World} {N T : Nat} {x y t : Int} {sa : Option Addr} {sn sc : Nat} {u : U} {ay : Option Addr} {cy n : Nat} (h : BoxW N [.int .i64 x, .int .i64 y, .slice sa sn sc] T w) (hl : RList w (.slice ay u.cells.length cy) u.cells) (hb : Below W.heap.size W w) (hN : W.heap.size ≤ N) :
    RTUN t u n W (.returned (.tuple #[.int .i64 t, .agg #[.int .i64 u.e, .int .i64 u.l, .slice ay u.cells.length cy], .int .i64 (n : Nat)])) (((w.setCell ⟨N, 0, none⟩ (.int .i64 u.e)).setCell ⟨N, 1, none⟩ (.int .i64 u.l)).setCell ⟨N, 2, none⟩ (.slice ay u.cells.length cy)) :=
  ⟨ay, cy, rfl, rl3 h hl _ _ _, ((hb.setCell (by simpa using hN) _).setCell (by simpa using hN) _).setCell (by simpa using hN) _⟩
set_option maxHeartbeats 8000000 in
theorem rapply_any {A : Nat → Prop} {bu bm : Nat} {u : U} (x : Ac) (a : Option Addr) (c : Nat) (w : World) (h : UnitAt A w bu bm u) (hA : ∀ k, A k → k < w.heap.size) (hlen : u.cells.length ≤ 1048576) (hB : Bytes w (.slice a x.d.length c) x.d) :
    Calls Tryz.prog 31 #[.pointer (some ⟨bu, 0, none⟩), ac9V x a c] w (UnitR (.tuple #[.int .i64 (apU u x).2.1, errV (apU u x).1]) A bu bm (apU u x).2.2 w) := by
  have HU := Lib.hid' h
  have HB := Lib.hid' hB
  have HA := Lib.hid' hA
  have hl := bytes_len hB
  have HCK := Lib.hid' (fun wq => rcheck9_any x a c hl wq)
  obtain ⟨p, hp⟩ : ∃ p, p = apU u x := ⟨_, rfl⟩
  rw [← hp]
  unfold apU at hp
  have HAP := Lib.hid' hp
  clear hp
  have hOK := @Ac.check_ok x
  obtain ⟨ck, hck⟩ : ∃ ck, ck = x.check := ⟨_, rfl⟩
  rw [← hck] at HCK HAP hOK
  clear hck h hB hA
  unfold ac9V at HCK ⊢
  by_cases h0 : ck = 0
  rotate_left
  · skip
    have HV := Lib.hid' (HAP.out.trans (if_pos h0))
    rw [HV.out]
    clear HV HAP hOK
    have HE := Lib.hid' (errV_pos h0)
    go_enter Tryz.func31, Tryz.ntmps31
    go_wp2_with fail
    have H0 : Sep w NoF [] w := Sep.start _
    have H1 : Sep w NoF [.box (w.heap.size) [.int .i64 x.k, .int .i64 x.e, .int .i64 x.a, .slice a x.d.length c] 41] ((w.alloc (.cells #[.int .i64 x.k, .int .i64 x.e, .int .i64 x.a, .slice a x.d.length c] 41))) := (H0.allocAt (w.heap.size) [.int .i64 x.k, .int .i64 x.e, .int .i64 x.a, .slice a x.d.length c] 41 (by simp))
    clear H0
    generalize (w.alloc (.cells #[.int .i64 x.k, .int .i64 x.e, .int .i64 x.a, .slice a x.d.length c] 41)) = w1 at *
    go_wp2_with fail
    refine (HCK.out w1).mono ?_
    rintro e w2 ⟨rfl, hb2⟩
    have H2 : Sep w NoF [.box (w.heap.size) [.int .i64 x.k, .int .i64 x.e, .int .i64 x.a, .slice a x.d.length c] 41] (w2) := (H1.below hb2)
    clear H1 hb2
    have HU2 := Lib.hid' (HU.out.below (Nat.le_refl _) H2.toBelow)
    have hA2 : ∀ k, A k → k < w2.heap.size := fun k hk => Nat.lt_of_lt_of_le (HA.out k hk) H2.toBelow.size
    rw [HE.out]
    clear h0
    go_wp2
    go_ret2
    exact ⟨by rw [HE.out]; rfl, HU2.out, Fr.of_below H2.toBelow⟩
  have g1 := (hOK h0).1
  have g2 := (hOK h0).2.1
  have HQ := Lib.hid' (HAP.out.trans (if_neg (by simpa using h0)))
  subst h0
  clear HAP hOK
  by_cases hk : x.k = 1
  · skip
    skip
    have HV := Lib.hid' (HQ.out.trans (if_pos hk))
    rw [HV.out]
    clear HV HQ
    have b1 : (x.k == 1) = true := by rw [beq_iff_eq]; omega
    clear hk
    go_enter Tryz.func31, Tryz.ntmps31
    go_wp2_with fail
    have H0 : Sep w NoF [] w := Sep.start _
    have H1 : Sep w NoF [.box (w.heap.size) [.int .i64 x.k, .int .i64 x.e, .int .i64 x.a, .slice a x.d.length c] 41] ((w.alloc (.cells #[.int .i64 x.k, .int .i64 x.e, .int .i64 x.a, .slice a x.d.length c] 41))) := (H0.allocAt (w.heap.size) [.int .i64 x.k, .int .i64 x.e, .int .i64 x.a, .slice a x.d.length c] 41 (by simp))
    clear H0
    generalize (w.alloc (.cells #[.int .i64 x.k, .int .i64 x.e, .int .i64 x.a, .slice a x.d.length c] 41)) = w1 at *
    go_wp2_with fail
    refine (HCK.out w1).mono ?_
    rintro e w2 ⟨rfl, hb2⟩
    have H2 : Sep w NoF [.box (w.heap.size) [.int .i64 x.k, .int .i64 x.e, .int .i64 x.a, .slice a x.d.length c] 41] (w2) := (H1.below hb2)
    clear H1 hb2
    have HU2 := Lib.hid' (HU.out.below (Nat.le_refl _) H2.toBelow)
    have hA2 : ∀ k, A k → k < w2.heap.size := fun k hk => Nat.lt_of_lt_of_le (HA.out k hk) H2.toBelow.size
    rw [errV_0]
    have Xc0 := H2.cell 0 rfl 0 rfl
    have Xc1 := H2.cell 0 rfl 1 rfl
    have Xc2 := H2.cell 0 rfl 2 rfl
    have Xc3 := H2.cell 0 rfl 3 rfl
    have Xl := H2.lt 0 rfl
    go_wp2_with fail
    refine (seal_any x.e _ HU2.out).mono ?_
    rintro en w3 ⟨rfl, hu, hf⟩
    have HU3 := Lib.hid' hu
    have HF3 := Lib.hid' ((Fr.of_below H2.toBelow).trans hf (fun i hi => .inl hi))
    clear hu hf Xc0 Xc1 Xc2 Xc3 Xl
    go_wp2
    go_ret2
    exact ⟨rfl, HU3.out, HF3.out⟩
  have HQ1 := Lib.hid' (HQ.out.trans (if_neg hk))
  clear HQ
  have HQ := HQ1
  clear HQ1
  have hk1 := hk
  clear hk
  by_cases hk : x.k = 2
  · skip
    skip
    have HV := Lib.hid' (HQ.out.trans (if_pos hk))
    rw [HV.out]
    clear HV HQ
    have b1 : (x.k == 1) = false := by rw [beq_eq_false_iff_ne]; omega
    have b2 : (x.k == 2) = true := by rw [beq_iff_eq]; omega
    clear hk
    go_enter Tryz.func31, Tryz.ntmps31
    go_wp2_with fail
    have H0 : Sep w NoF [] w := Sep.start _
    have H1 : Sep w NoF [.box (w.heap.size) [.int .i64 x.k, .int .i64 x.e, .int .i64 x.a, .slice a x.d.length c] 41] ((w.alloc (.cells #[.int .i64 x.k, .int .i64 x.e, .int .i64 x.a, .slice a x.d.length c] 41))) := (H0.allocAt (w.heap.size) [.int .i64 x.k, .int .i64 x.e, .int .i64 x.a, .slice a x.d.length c] 41 (by simp))
    clear H0
    generalize (w.alloc (.cells #[.int .i64 x.k, .int .i64 x.e, .int .i64 x.a, .slice a x.d.length c] 41)) = w1 at *
    go_wp2_with fail
    refine (HCK.out w1).mono ?_
    rintro e w2 ⟨rfl, hb2⟩
    have H2 : Sep w NoF [.box (w.heap.size) [.int .i64 x.k, .int .i64 x.e, .int .i64 x.a, .slice a x.d.length c] 41] (w2) := (H1.below hb2)
    clear H1 hb2
    have HU2 := Lib.hid' (HU.out.below (Nat.le_refl _) H2.toBelow)
    have hA2 : ∀ k, A k → k < w2.heap.size := fun k hk => Nat.lt_of_lt_of_le (HA.out k hk) H2.toBelow.size
    rw [errV_0]
    have Xc0 := H2.cell 0 rfl 0 rfl
    have Xc1 := H2.cell 0 rfl 1 rfl
    have Xc2 := H2.cell 0 rfl 2 rfl
    have Xc3 := H2.cell 0 rfl 3 rfl
    have Xl := H2.lt 0 rfl
    go_wp2_with fail
    refine (write_any x.e x.a (.slice a x.d.length c) x.d _ HU2.out hA2 (H2.oldBytes HB.out)).mono ?_
    rintro en w3 ⟨rfl, hu, hf⟩
    have HU3 := Lib.hid' hu
    have HF3 := Lib.hid' ((Fr.of_below H2.toBelow).trans hf (fun i hi => .inl hi))
    clear hu hf Xc0 Xc1 Xc2 Xc3 Xl
    go_wp2
    go_ret2
    exact ⟨rfl, HU3.out, HF3.out⟩
  have HQ2 := Lib.hid' (HQ.out.trans (if_neg hk))
  clear HQ
  have HQ := HQ2
  clear HQ2
  have hk2 := hk
  clear hk
  by_cases hk : x.k = 3
  · skip
    skip
    have HV := Lib.hid' (HQ.out.trans (if_pos hk))
    rw [HV.out]
    clear HV HQ
    have b1 : (x.k == 1) = false := by rw [beq_eq_false_iff_ne]; omega
    have b2 : (x.k == 2) = false := by rw [beq_eq_false_iff_ne]; omega
    have b3 : (x.k == 3) = true := by rw [beq_iff_eq]; omega
    clear hk
    go_enter Tryz.func31, Tryz.ntmps31
    go_wp2_with fail
    have H0 : Sep w NoF [] w := Sep.start _
    have H1 : Sep w NoF [.box (w.heap.size) [.int .i64 x.k, .int .i64 x.e, .int .i64 x.a, .slice a x.d.length c] 41] ((w.alloc (.cells #[.int .i64 x.k, .int .i64 x.e, .int .i64 x.a, .slice a x.d.length c] 41))) := (H0.allocAt (w.heap.size) [.int .i64 x.k, .int .i64 x.e, .int .i64 x.a, .slice a x.d.length c] 41 (by simp))
    clear H0
    generalize (w.alloc (.cells #[.int .i64 x.k, .int .i64 x.e, .int .i64 x.a, .slice a x.d.length c] 41)) = w1 at *
    go_wp2_with fail
    refine (HCK.out w1).mono ?_
    rintro e w2 ⟨rfl, hb2⟩
    have H2 : Sep w NoF [.box (w.heap.size) [.int .i64 x.k, .int .i64 x.e, .int .i64 x.a, .slice a x.d.length c] 41] (w2) := (H1.below hb2)
    clear H1 hb2
    have HU2 := Lib.hid' (HU.out.below (Nat.le_refl _) H2.toBelow)
    have hA2 : ∀ k, A k → k < w2.heap.size := fun k hk => Nat.lt_of_lt_of_le (HA.out k hk) H2.toBelow.size
    rw [errV_0]
    have Xc0 := H2.cell 0 rfl 0 rfl
    have Xc1 := H2.cell 0 rfl 1 rfl
    have Xc2 := H2.cell 0 rfl 2 rfl
    have Xc3 := H2.cell 0 rfl 3 rfl
    have Xl := H2.lt 0 rfl
    go_wp2_with fail
    refine (fill_any x.e x.a _ HU2.out hA2).mono ?_
    rintro en w3 ⟨rfl, hu, hf⟩
    have HU3 := Lib.hid' hu
    have HF3 := Lib.hid' ((Fr.of_below H2.toBelow).trans hf (fun i hi => .inl hi))
    clear hu hf Xc0 Xc1 Xc2 Xc3 Xl
    go_wp2
    go_ret2
    exact ⟨rfl, HU3.out, HF3.out⟩
  have HQ3 := Lib.hid' (HQ.out.trans (if_neg hk))
  clear HQ
  have HQ := HQ3
  clear HQ3
  have hk3 := hk
  clear hk
  by_cases hk : x.k = 4
  · skip
    skip
    have HV := Lib.hid' (HQ.out.trans (if_pos hk))
    rw [HV.out]
    clear HV HQ
    have b1 : (x.k == 1) = false := by rw [beq_eq_false_iff_ne]; omega
    have b2 : (x.k == 2) = false := by rw [beq_eq_false_iff_ne]; omega
    have b3 : (x.k == 3) = false := by rw [beq_eq_false_iff_ne]; omega
    have b4 : (x.k == 4) = true := by rw [beq_iff_eq]; omega
    clear hk
    go_enter Tryz.func31, Tryz.ntmps31
    go_wp2_with fail
    have H0 : Sep w NoF [] w := Sep.start _
    have H1 : Sep w NoF [.box (w.heap.size) [.int .i64 x.k, .int .i64 x.e, .int .i64 x.a, .slice a x.d.length c] 41] ((w.alloc (.cells #[.int .i64 x.k, .int .i64 x.e, .int .i64 x.a, .slice a x.d.length c] 41))) := (H0.allocAt (w.heap.size) [.int .i64 x.k, .int .i64 x.e, .int .i64 x.a, .slice a x.d.length c] 41 (by simp))
    clear H0
    generalize (w.alloc (.cells #[.int .i64 x.k, .int .i64 x.e, .int .i64 x.a, .slice a x.d.length c] 41)) = w1 at *
    go_wp2_with fail
    refine (HCK.out w1).mono ?_
    rintro e w2 ⟨rfl, hb2⟩
    have H2 : Sep w NoF [.box (w.heap.size) [.int .i64 x.k, .int .i64 x.e, .int .i64 x.a, .slice a x.d.length c] 41] (w2) := (H1.below hb2)
    clear H1 hb2
    have HU2 := Lib.hid' (HU.out.below (Nat.le_refl _) H2.toBelow)
    have hA2 : ∀ k, A k → k < w2.heap.size := fun k hk => Nat.lt_of_lt_of_le (HA.out k hk) H2.toBelow.size
    rw [errV_0]
    have Xc0 := H2.cell 0 rfl 0 rfl
    have Xc1 := H2.cell 0 rfl 1 rfl
    have Xc2 := H2.cell 0 rfl 2 rfl
    have Xc3 := H2.cell 0 rfl 3 rfl
    have Xl := H2.lt 0 rfl
    go_wp2_with fail
    refine (trim_any x.e x.a _ HU2.out hA2).mono ?_
    rintro en w3 ⟨rfl, hu, hf⟩
    have HU3 := Lib.hid' hu
    have HF3 := Lib.hid' ((Fr.of_below H2.toBelow).trans hf (fun i hi => .inl hi))
    clear hu hf Xc0 Xc1 Xc2 Xc3 Xl
    go_wp2
    go_ret2
    exact ⟨rfl, HU3.out, HF3.out⟩
  have HQ4 := Lib.hid' (HQ.out.trans (if_neg hk))
  clear HQ
  have HQ := HQ4
  clear HQ4
  have hk4 := hk
  clear hk
  have HV := HQ
  rw [HV.out]
  clear HV HQ
  have b1 : (x.k == 1) = false := by rw [beq_eq_false_iff_ne]; omega
  have b2 : (x.k == 2) = false := by rw [beq_eq_false_iff_ne]; omega
  have b3 : (x.k == 3) = false := by rw [beq_eq_false_iff_ne]; omega
  have b4 : (x.k == 4) = false := by rw [beq_eq_false_iff_ne]; omega
  go_enter Tryz.func31, Tryz.ntmps31
  go_wp2_with fail
  have H0 : Sep w NoF [] w := Sep.start _
  have H1 : Sep w NoF [.box (w.heap.size) [.int .i64 x.k, .int .i64 x.e, .int .i64 x.a, .slice a x.d.length c] 41] ((w.alloc (.cells #[.int .i64 x.k, .int .i64 x.e, .int .i64 x.a, .slice a x.d.length c] 41))) := (H0.allocAt (w.heap.size) [.int .i64 x.k, .int .i64 x.e, .int .i64 x.a, .slice a x.d.length c] 41 (by simp))
  clear H0
  generalize (w.alloc (.cells #[.int .i64 x.k, .int .i64 x.e, .int .i64 x.a, .slice a x.d.length c] 41)) = w1 at *
  go_wp2_with fail
  refine (HCK.out w1).mono ?_
  rintro e w2 ⟨rfl, hb2⟩
  have H2 : Sep w NoF [.box (w.heap.size) [.int .i64 x.k, .int .i64 x.e, .int .i64 x.a, .slice a x.d.length c] 41] (w2) := (H1.below hb2)
  clear H1 hb2
  have HU2 := Lib.hid' (HU.out.below (Nat.le_refl _) H2.toBelow)
  have hA2 : ∀ k, A k → k < w2.heap.size := fun k hk => Nat.lt_of_lt_of_le (HA.out k hk) H2.toBelow.size
  rw [errV_0]
  have Xc0 := H2.cell 0 rfl 0 rfl
  have Xc1 := H2.cell 0 rfl 1 rfl
  have Xc2 := H2.cell 0 rfl 2 rfl
  have Xc3 := H2.cell 0 rfl 3 rfl
  have Xl := H2.lt 0 rfl
  go_wp2_with fail
  refine (cut_any x.e x.a _ HU2.out hA2 hlen).mono ?_
  rintro en w3 ⟨rfl, hu, hf⟩
  have HU3 := Lib.hid' hu
  have HF3 := Lib.hid' ((Fr.of_below H2.toBelow).trans hf (fun i hi => .inl hi))
  clear hu hf Xc0 Xc1 Xc2 Xc3 Xl
  go_wp2
  go_ret2
  exact ⟨rfl, HU3.out, HF3.out⟩

set_option maxHeartbeats 8000000 in
theorem rapply09_any (m : U) (ad : Option Addr) (cap : Nat) (x : Ac) (w : World) (h : RList w (.slice ad m.cells.length cap) m.cells) (hc : m.cells.length ≤ 4194304) (hu : ∀ p ∈ m.cells, 0 ≤ p.1 ∧ p.1 < 1048576) (hl : x.d.length ≤ 1099511627776) :
    Calls Tryz.prog 32 #[ruV m ad cap, d9V x] w (RTUN (apR m x).2.1 (apR m x).2.2 (apR m x).1 w) := by
  have HL := Lib.hid' h
  have HUB := Lib.hid' hu
  have HCK := Lib.hid' (fun wq => refcheck_any x (by omega) wq)
  obtain ⟨p, hp⟩ : ∃ p, p = apR m x := ⟨_, rfl⟩
  rw [← hp]
  unfold apR at hp
  have HAP := Lib.hid' hp
  clear hp
  have hOK := @Ac.check_ok x
  obtain ⟨ck, hck⟩ : ∃ ck, ck = x.check := ⟨_, rfl⟩
  rw [← hck] at HCK HAP hOK
  clear hck h hu
  unfold d9V at HCK ⊢
  unfold ruV
  by_cases h0 : ck = 0
  rotate_left
  · skip
    have HV := Lib.hid' (HAP.out.trans (if_pos h0))
    rw [HV.out]
    clear HV HAP hOK
    go_enter Tryz.func32, Tryz.ntmps32
    go_wp2_with fail
    have H0 : Sep w NoF [] w := Sep.start _
    have H1 : Sep w NoF [.box (w.heap.size + 2) [.int .i64 0, .int .i64 0, .slice none 0 0] 54, .box (w.heap.size + 1) [.int .i64 x.k, .int .i64 x.e, .int .i64 x.a, .string (strOf x.d)] 45, .box (w.heap.size) [.int .i64 m.e, .int .i64 m.l, .slice ad m.cells.length cap] 54] ((((w.alloc (.cells #[.int .i64 m.e, .int .i64 m.l, .slice ad m.cells.length cap] 54)).alloc (.cells #[.int .i64 x.k, .int .i64 x.e, .int .i64 x.a, .string (strOf x.d)] 45)).alloc (.cells #[.int .i64 0, .int .i64 0, .slice none 0 0] 54))) := (((H0.allocAt (w.heap.size) [.int .i64 m.e, .int .i64 m.l, .slice ad m.cells.length cap] 54 (by simp)).allocAt (w.heap.size + 1) [.int .i64 x.k, .int .i64 x.e, .int .i64 x.a, .string (strOf x.d)] 45 (by simp)).allocAt (w.heap.size + 2) [.int .i64 0, .int .i64 0, .slice none 0 0] 54 (by simp))
    clear H0
    generalize (((w.alloc (.cells #[.int .i64 m.e, .int .i64 m.l, .slice ad m.cells.length cap] 54)).alloc (.cells #[.int .i64 x.k, .int .i64 x.e, .int .i64 x.a, .string (strOf x.d)] 45)).alloc (.cells #[.int .i64 0, .int .i64 0, .slice none 0 0] 54)) = w1 at *
    have Xc0 := H1.cell 1 rfl 0 rfl
    have Xc1 := H1.cell 1 rfl 1 rfl
    have Xc2 := H1.cell 1 rfl 2 rfl
    have Xc3 := H1.cell 1 rfl 3 rfl
    have Xl := H1.lt 1 rfl
    go_wp2_with fail
    refine (HCK.out w1).mono ?_
    rintro e w2 ⟨rfl, hb2⟩
    have H2 : Sep w NoF [.box (w.heap.size + 2) [.int .i64 0, .int .i64 0, .slice none 0 0] 54, .box (w.heap.size + 1) [.int .i64 x.k, .int .i64 x.e, .int .i64 x.a, .string (strOf x.d)] 45, .box (w.heap.size) [.int .i64 m.e, .int .i64 m.l, .slice ad m.cells.length cap] 54] (w2) := (H1.below hb2)
    clear Xc0 Xc1 Xc2 Xc3 Xl
    clear H1 hb2
    have HL2 := Lib.hid' (HL.out.below (Nat.le_refl _) H2.toBelow)
    have hcb : ((ck : Int) != 0) = true := by rw [bne_iff_ne]; omega
    clear h0
    have Mc0 := H2.cell 2 rfl 0 rfl
    have Mc1 := H2.cell 2 rfl 1 rfl
    have Mc2 := H2.cell 2 rfl 2 rfl
    have Ml := H2.lt 2 rfl
    have Rc0 := H2.cell 0 rfl 0 rfl
    have Rc1 := H2.cell 0 rfl 1 rfl
    have Rc2 := H2.cell 0 rfl 2 rfl
    have Rf0 := H2.free 0 rfl 0
    have Rf1 := H2.free 0 rfl 1
    have Rf2 := H2.free 0 rfl 2
    have Rl := H2.lt 0 rfl
    have MnR := H2.ne 2 0 rfl rfl (by decide)
    have RnM := H2.ne 0 2 rfl rfl (by decide)
    go_upto_region 3 with fail
    have HBB := Lib.hid' H2.toBelow
    have HLZ := Lib.hid' HL2.out
    have HBX := Lib.hid' (H2.box 0 rfl)
    go_region
    all_goals
      go_wp2
      refine bodyPost_ret (v := .tuple #[.int .i64 0, .agg #[.int .i64 m.e, .int .i64 m.l, .slice ad m.cells.length cap], .int .i64 (ck : Nat)]) (by simp [results, Tryz.results32, go_sem, Mc0, Mc1, Mc2, Rc0, Rc1, Rc2]) rfl ?_
      first
        | exact res3 HBX.out HLZ.out HBB.out (by omega)
        | exact res3 HBX.out.drew (rl_drew HLZ.out) HBB.out.drew (by omega)
  have g1 := (hOK h0).1
  have g2 := (hOK h0).2.1
  have HQ := Lib.hid' (HAP.out.trans (if_neg (by simpa using h0)))
  have hcb : ((ck : Int) != 0) = false := by rw [bne_eq_false_iff_eq]; omega
  clear h0
  clear HAP hOK
  by_cases hk : x.k = 1
  · skip
    skip
    have HV := Lib.hid' (HQ.out.trans (if_pos hk))
    rw [HV.out]
    clear HV HQ
    have b1 : (x.k == 1) = true := by rw [beq_iff_eq]; omega
    clear hk
    have HCT := Lib.hid' (fun wq hq => rSeal_any m ad cap x.e wq hq HUB.out)
    obtain ⟨y, hy⟩ : ∃ y, y = m.rSeal x.e := ⟨_, rfl⟩
    rw [← hy] at HCT ⊢
    clear hy
    obtain ⟨yt, yu, yn⟩ := y
    simp only at HCT ⊢
    go_enter Tryz.func32, Tryz.ntmps32
    go_wp2_with fail
    have H0 : Sep w NoF [] w := Sep.start _
    have H1 : Sep w NoF [.box (w.heap.size + 2) [.int .i64 0, .int .i64 0, .slice none 0 0] 54, .box (w.heap.size + 1) [.int .i64 x.k, .int .i64 x.e, .int .i64 x.a, .string (strOf x.d)] 45, .box (w.heap.size) [.int .i64 m.e, .int .i64 m.l, .slice ad m.cells.length cap] 54] ((((w.alloc (.cells #[.int .i64 m.e, .int .i64 m.l, .slice ad m.cells.length cap] 54)).alloc (.cells #[.int .i64 x.k, .int .i64 x.e, .int .i64 x.a, .string (strOf x.d)] 45)).alloc (.cells #[.int .i64 0, .int .i64 0, .slice none 0 0] 54))) := (((H0.allocAt (w.heap.size) [.int .i64 m.e, .int .i64 m.l, .slice ad m.cells.length cap] 54 (by simp)).allocAt (w.heap.size + 1) [.int .i64 x.k, .int .i64 x.e, .int .i64 x.a, .string (strOf x.d)] 45 (by simp)).allocAt (w.heap.size + 2) [.int .i64 0, .int .i64 0, .slice none 0 0] 54 (by simp))
    clear H0
    generalize (((w.alloc (.cells #[.int .i64 m.e, .int .i64 m.l, .slice ad m.cells.length cap] 54)).alloc (.cells #[.int .i64 x.k, .int .i64 x.e, .int .i64 x.a, .string (strOf x.d)] 45)).alloc (.cells #[.int .i64 0, .int .i64 0, .slice none 0 0] 54)) = w1 at *
    have Xc0 := H1.cell 1 rfl 0 rfl
    have Xc1 := H1.cell 1 rfl 1 rfl
    have Xc2 := H1.cell 1 rfl 2 rfl
    have Xc3 := H1.cell 1 rfl 3 rfl
    have Xl := H1.lt 1 rfl
    go_wp2_with fail
    refine (HCK.out w1).mono ?_
    rintro e w2 ⟨rfl, hb2⟩
    have H2 : Sep w NoF [.box (w.heap.size + 2) [.int .i64 0, .int .i64 0, .slice none 0 0] 54, .box (w.heap.size + 1) [.int .i64 x.k, .int .i64 x.e, .int .i64 x.a, .string (strOf x.d)] 45, .box (w.heap.size) [.int .i64 m.e, .int .i64 m.l, .slice ad m.cells.length cap] 54] (w2) := (H1.below hb2)
    clear Xc0 Xc1 Xc2 Xc3 Xl
    clear H1 hb2
    have HL2 := Lib.hid' (HL.out.below (Nat.le_refl _) H2.toBelow)
    have Mc0 := H2.cell 2 rfl 0 rfl
    have Mc1 := H2.cell 2 rfl 1 rfl
    have Mc2 := H2.cell 2 rfl 2 rfl
    have Mf0 := H2.free 2 rfl 0
    have Mf1 := H2.free 2 rfl 1
    have Mf2 := H2.free 2 rfl 2
    have Ml := H2.lt 2 rfl
    have Xc0 := H2.cell 1 rfl 0 rfl
    have Xc1 := H2.cell 1 rfl 1 rfl
    have Xc2 := H2.cell 1 rfl 2 rfl
    have Xc3 := H2.cell 1 rfl 3 rfl
    have Xl := H2.lt 1 rfl
    have Rc0 := H2.cell 0 rfl 0 rfl
    have Rc1 := H2.cell 0 rfl 1 rfl
    have Rc2 := H2.cell 0 rfl 2 rfl
    have Rf0 := H2.free 0 rfl 0
    have Rf1 := H2.free 0 rfl 1
    have Rf2 := H2.free 0 rfl 2
    have Rl := H2.lt 0 rfl
    have MnX := H2.ne 2 1 rfl rfl (by decide)
    have MnR := H2.ne 2 0 rfl rfl (by decide)
    have XnM := H2.ne 1 2 rfl rfl (by decide)
    have XnR := H2.ne 1 0 rfl rfl (by decide)
    have RnM := H2.ne 0 2 rfl rfl (by decide)
    have RnX := H2.ne 0 1 rfl rfl (by decide)
    go_wp2_with fail
    refine (HCT.out _ HL2.out).mono ?_
    rintro en w3 ⟨ay, cy, rfl, hly, hb3⟩
    have HLY := Lib.hid' hly
    clear hly
    unfold ruV
    have H3 : Sep w NoF [.box (w.heap.size + 2) [.int .i64 0, .int .i64 0, .slice none 0 0] 54, .box (w.heap.size + 1) [.int .i64 x.k, .int .i64 x.e, .int .i64 x.a, .string (strOf x.d)] 45, .box (w.heap.size) [.int .i64 m.e, .int .i64 m.l, .slice ad m.cells.length cap] 54] (w3) := (H2.below hb3)
    clear Mc0 Mc1 Mc2 Mf0 Mf1 Mf2 Ml Xc0 Xc1 Xc2 Xc3 Xl Rc0 Rc1 Rc2 Rf0 Rf1 Rf2 Rl MnX MnR XnM XnR RnM RnX
    clear H2 hb3
    have Mc0 := H3.cell 2 rfl 0 rfl
    have Mc1 := H3.cell 2 rfl 1 rfl
    have Mc2 := H3.cell 2 rfl 2 rfl
    have Ml := H3.lt 2 rfl
    have Rc0 := H3.cell 0 rfl 0 rfl
    have Rc1 := H3.cell 0 rfl 1 rfl
    have Rc2 := H3.cell 0 rfl 2 rfl
    have Rf0 := H3.free 0 rfl 0
    have Rf1 := H3.free 0 rfl 1
    have Rf2 := H3.free 0 rfl 2
    have Rl := H3.lt 0 rfl
    have MnR := H3.ne 2 0 rfl rfl (by decide)
    have RnM := H3.ne 0 2 rfl rfl (by decide)
    have HBX := Lib.hid' (H3.box 0 rfl)
    have HBB := Lib.hid' H3.toBelow
    go_wp2
    refine bodyPost_ret (v := .tuple #[.int .i64 yt, .agg #[.int .i64 yu.e, .int .i64 yu.l, .slice ay yu.cells.length cy], .int .i64 (yn : Nat)]) (by simp [results, Tryz.results32, go_sem, Rc0, Rc1, Rc2]) rfl ?_
    exact res3 HBX.out HLY.out HBB.out (by omega)
  have HQ1 := Lib.hid' (HQ.out.trans (if_neg hk))
  clear HQ
  have HQ := HQ1
  clear HQ1
  have hk1 := hk
  clear hk
  by_cases hk : x.k = 2
  · skip
    skip
    have HV := Lib.hid' (HQ.out.trans (if_pos hk))
    rw [HV.out]
    clear HV HQ
    have b1 : (x.k == 1) = false := by rw [beq_eq_false_iff_ne]; omega
    have b2 : (x.k == 2) = true := by rw [beq_iff_eq]; omega
    clear hk
    have HCT := Lib.hid' (fun wq hq => rWrite_any m ad cap x.e x.a x.d wq hq hc hl)
    obtain ⟨y, hy⟩ : ∃ y, y = m.rWrite x.e x.a x.d := ⟨_, rfl⟩
    rw [← hy] at HCT ⊢
    clear hy
    obtain ⟨yu, yn⟩ := y
    simp only at HCT ⊢
    go_enter Tryz.func32, Tryz.ntmps32
    go_wp2_with fail
    have H0 : Sep w NoF [] w := Sep.start _
    have H1 : Sep w NoF [.box (w.heap.size + 2) [.int .i64 0, .int .i64 0, .slice none 0 0] 54, .box (w.heap.size + 1) [.int .i64 x.k, .int .i64 x.e, .int .i64 x.a, .string (strOf x.d)] 45, .box (w.heap.size) [.int .i64 m.e, .int .i64 m.l, .slice ad m.cells.length cap] 54] ((((w.alloc (.cells #[.int .i64 m.e, .int .i64 m.l, .slice ad m.cells.length cap] 54)).alloc (.cells #[.int .i64 x.k, .int .i64 x.e, .int .i64 x.a, .string (strOf x.d)] 45)).alloc (.cells #[.int .i64 0, .int .i64 0, .slice none 0 0] 54))) := (((H0.allocAt (w.heap.size) [.int .i64 m.e, .int .i64 m.l, .slice ad m.cells.length cap] 54 (by simp)).allocAt (w.heap.size + 1) [.int .i64 x.k, .int .i64 x.e, .int .i64 x.a, .string (strOf x.d)] 45 (by simp)).allocAt (w.heap.size + 2) [.int .i64 0, .int .i64 0, .slice none 0 0] 54 (by simp))
    clear H0
    generalize (((w.alloc (.cells #[.int .i64 m.e, .int .i64 m.l, .slice ad m.cells.length cap] 54)).alloc (.cells #[.int .i64 x.k, .int .i64 x.e, .int .i64 x.a, .string (strOf x.d)] 45)).alloc (.cells #[.int .i64 0, .int .i64 0, .slice none 0 0] 54)) = w1 at *
    have Xc0 := H1.cell 1 rfl 0 rfl
    have Xc1 := H1.cell 1 rfl 1 rfl
    have Xc2 := H1.cell 1 rfl 2 rfl
    have Xc3 := H1.cell 1 rfl 3 rfl
    have Xl := H1.lt 1 rfl
    go_wp2_with fail
    refine (HCK.out w1).mono ?_
    rintro e w2 ⟨rfl, hb2⟩
    have H2 : Sep w NoF [.box (w.heap.size + 2) [.int .i64 0, .int .i64 0, .slice none 0 0] 54, .box (w.heap.size + 1) [.int .i64 x.k, .int .i64 x.e, .int .i64 x.a, .string (strOf x.d)] 45, .box (w.heap.size) [.int .i64 m.e, .int .i64 m.l, .slice ad m.cells.length cap] 54] (w2) := (H1.below hb2)
    clear Xc0 Xc1 Xc2 Xc3 Xl
    clear H1 hb2
    have HL2 := Lib.hid' (HL.out.below (Nat.le_refl _) H2.toBelow)
    have Mc0 := H2.cell 2 rfl 0 rfl
    have Mc1 := H2.cell 2 rfl 1 rfl
    have Mc2 := H2.cell 2 rfl 2 rfl
    have Mf0 := H2.free 2 rfl 0
    have Mf1 := H2.free 2 rfl 1
    have Mf2 := H2.free 2 rfl 2
    have Ml := H2.lt 2 rfl
    have Xc0 := H2.cell 1 rfl 0 rfl
    have Xc1 := H2.cell 1 rfl 1 rfl
    have Xc2 := H2.cell 1 rfl 2 rfl
    have Xc3 := H2.cell 1 rfl 3 rfl
    have Xl := H2.lt 1 rfl
    have Rc0 := H2.cell 0 rfl 0 rfl
    have Rc1 := H2.cell 0 rfl 1 rfl
    have Rc2 := H2.cell 0 rfl 2 rfl
    have Rf0 := H2.free 0 rfl 0
    have Rf1 := H2.free 0 rfl 1
    have Rf2 := H2.free 0 rfl 2
    have Rl := H2.lt 0 rfl
    have MnX := H2.ne 2 1 rfl rfl (by decide)
    have MnR := H2.ne 2 0 rfl rfl (by decide)
    have XnM := H2.ne 1 2 rfl rfl (by decide)
    have XnR := H2.ne 1 0 rfl rfl (by decide)
    have RnM := H2.ne 0 2 rfl rfl (by decide)
    have RnX := H2.ne 0 1 rfl rfl (by decide)
    go_wp2_with fail
    refine (HCT.out _ HL2.out).mono ?_
    rintro en w3 ⟨ay, cy, rfl, hly, hb3⟩
    have HLY := Lib.hid' hly
    clear hly
    unfold ruV
    have H3 : Sep w NoF [.box (w.heap.size + 2) [.int .i64 0, .int .i64 0, .slice none 0 0] 54, .box (w.heap.size + 1) [.int .i64 x.k, .int .i64 x.e, .int .i64 x.a, .string (strOf x.d)] 45, .box (w.heap.size) [.int .i64 m.e, .int .i64 m.l, .slice ad m.cells.length cap] 54] (w3) := (H2.below hb3)
    clear Mc0 Mc1 Mc2 Mf0 Mf1 Mf2 Ml Xc0 Xc1 Xc2 Xc3 Xl Rc0 Rc1 Rc2 Rf0 Rf1 Rf2 Rl MnX MnR XnM XnR RnM RnX
    clear H2 hb3
    have Mc0 := H3.cell 2 rfl 0 rfl
    have Mc1 := H3.cell 2 rfl 1 rfl
    have Mc2 := H3.cell 2 rfl 2 rfl
    have Mf0 := H3.free 2 rfl 0
    have Mf1 := H3.free 2 rfl 1
    have Mf2 := H3.free 2 rfl 2
    have Ml := H3.lt 2 rfl
    have Rc0 := H3.cell 0 rfl 0 rfl
    have Rc1 := H3.cell 0 rfl 1 rfl
    have Rc2 := H3.cell 0 rfl 2 rfl
    have Rf0 := H3.free 0 rfl 0
    have Rf1 := H3.free 0 rfl 1
    have Rf2 := H3.free 0 rfl 2
    have Rl := H3.lt 0 rfl
    have MnR := H3.ne 2 0 rfl rfl (by decide)
    have RnM := H3.ne 0 2 rfl rfl (by decide)
    have HBM := Lib.hid' (H3.box 2 rfl)
    go_upto_region 15 with fail
    have H4 : Sep w NoF [.box (w.heap.size) [.int .i64 yu.e, .int .i64 yu.l, .slice ay yu.cells.length cy] 54, .box (w.heap.size + 2) [.int .i64 0, .int .i64 0, .slice none 0 0] 54, .box (w.heap.size + 1) [.int .i64 x.k, .int .i64 x.e, .int .i64 x.a, .string (strOf x.d)] 45] ((((w3.setCell ⟨w.heap.size, 0, none⟩ (.int .i64 yu.e)).setCell ⟨w.heap.size, 1, none⟩ (.int .i64 yu.l)).setCell ⟨w.heap.size, 2, none⟩ (.slice ay yu.cells.length cy))) := (((H3.set 2 rfl 0 (.int .i64 yu.e)).set 0 rfl 1 (.int .i64 yu.l)).set 0 rfl 2 (.slice ay yu.cells.length cy))
    clear Mc0 Mc1 Mc2 Mf0 Mf1 Mf2 Ml Rc0 Rc1 Rc2 Rf0 Rf1 Rf2 Rl MnR RnM
    clear H3
    have HLZ := Lib.hid' (rl3 HBM.out HLY.out (.int .i64 yu.e) (.int .i64 yu.l) (.slice ay yu.cells.length cy))
    clear HLY HBM
    have H5 : Sep w NoF [.box (w.heap.size) [.int .i64 yu.e, .int .i64 yu.l, .slice ay yu.cells.length cy] 54, .box (w.heap.size + 2) [.int .i64 0, .int .i64 0, .slice none 0 0] 54, .box (w.heap.size + 1) [.int .i64 x.k, .int .i64 x.e, .int .i64 x.a, .string (strOf x.d)] 45] ((((w3.setCell ⟨w.heap.size, 0, none⟩ (.int .i64 yu.e)).setCell ⟨w.heap.size, 1, none⟩ (.int .i64 yu.l)).setCell ⟨w.heap.size, 2, none⟩ (.slice ay yu.cells.length cy))) := H4
    clear H4
    generalize (((w3.setCell ⟨w.heap.size, 0, none⟩ (.int .i64 yu.e)).setCell ⟨w.heap.size, 1, none⟩ (.int .i64 yu.l)).setCell ⟨w.heap.size, 2, none⟩ (.slice ay yu.cells.length cy)) = w4 at *
    have Mc0 := H5.cell 0 rfl 0 rfl
    have Mc1 := H5.cell 0 rfl 1 rfl
    have Mc2 := H5.cell 0 rfl 2 rfl
    have Ml := H5.lt 0 rfl
    have Rc0 := H5.cell 1 rfl 0 rfl
    have Rc1 := H5.cell 1 rfl 1 rfl
    have Rc2 := H5.cell 1 rfl 2 rfl
    have Rf0 := H5.free 1 rfl 0
    have Rf1 := H5.free 1 rfl 1
    have Rf2 := H5.free 1 rfl 2
    have Rl := H5.lt 1 rfl
    have MnR := H5.ne 0 1 rfl rfl (by decide)
    have RnM := H5.ne 1 0 rfl rfl (by decide)
    have HBX := Lib.hid' (H5.box 1 rfl)
    have HBB := Lib.hid' H5.toBelow
    go_region
    all_goals
      go_wp2
      refine bodyPost_ret (v := .tuple #[.int .i64 0, .agg #[.int .i64 yu.e, .int .i64 yu.l, .slice ay yu.cells.length cy], .int .i64 (yn : Nat)]) (by simp [results, Tryz.results32, go_sem, Mc0, Mc1, Mc2, Rc0, Rc1, Rc2]) rfl ?_
      first
        | exact res3 HBX.out HLZ.out HBB.out (by omega)
        | exact res3 HBX.out.drew (rl_drew HLZ.out) HBB.out.drew (by omega)
  have HQ2 := Lib.hid' (HQ.out.trans (if_neg hk))
  clear HQ
  have HQ := HQ2
  clear HQ2
  have hk2 := hk
  clear hk
  by_cases hk : x.k = 3
  · skip
    skip
    have HV := Lib.hid' (HQ.out.trans (if_pos hk))
    rw [HV.out]
    clear HV HQ
    have b1 : (x.k == 1) = false := by rw [beq_eq_false_iff_ne]; omega
    have b2 : (x.k == 2) = false := by rw [beq_eq_false_iff_ne]; omega
    have b3 : (x.k == 3) = true := by rw [beq_iff_eq]; omega
    clear hk
    have HCT := Lib.hid' (fun wq hq => rFill_any m ad cap x.e x.a wq hq hc)
    obtain ⟨y, hy⟩ : ∃ y, y = m.rFill x.e x.a := ⟨_, rfl⟩
    rw [← hy] at HCT ⊢
    clear hy
    obtain ⟨yu, yn⟩ := y
    simp only at HCT ⊢
    go_enter Tryz.func32, Tryz.ntmps32
    go_wp2_with fail
    have H0 : Sep w NoF [] w := Sep.start _
    have H1 : Sep w NoF [.box (w.heap.size + 2) [.int .i64 0, .int .i64 0, .slice none 0 0] 54, .box (w.heap.size + 1) [.int .i64 x.k, .int .i64 x.e, .int .i64 x.a, .string (strOf x.d)] 45, .box (w.heap.size) [.int .i64 m.e, .int .i64 m.l, .slice ad m.cells.length cap] 54] ((((w.alloc (.cells #[.int .i64 m.e, .int .i64 m.l, .slice ad m.cells.length cap] 54)).alloc (.cells #[.int .i64 x.k, .int .i64 x.e, .int .i64 x.a, .string (strOf x.d)] 45)).alloc (.cells #[.int .i64 0, .int .i64 0, .slice none 0 0] 54))) := (((H0.allocAt (w.heap.size) [.int .i64 m.e, .int .i64 m.l, .slice ad m.cells.length cap] 54 (by simp)).allocAt (w.heap.size + 1) [.int .i64 x.k, .int .i64 x.e, .int .i64 x.a, .string (strOf x.d)] 45 (by simp)).allocAt (w.heap.size + 2) [.int .i64 0, .int .i64 0, .slice none 0 0] 54 (by simp))
    clear H0
    generalize (((w.alloc (.cells #[.int .i64 m.e, .int .i64 m.l, .slice ad m.cells.length cap] 54)).alloc (.cells #[.int .i64 x.k, .int .i64 x.e, .int .i64 x.a, .string (strOf x.d)] 45)).alloc (.cells #[.int .i64 0, .int .i64 0, .slice none 0 0] 54)) = w1 at *
    have Xc0 := H1.cell 1 rfl 0 rfl
    have Xc1 := H1.cell 1 rfl 1 rfl
    have Xc2 := H1.cell 1 rfl 2 rfl
    have Xc3 := H1.cell 1 rfl 3 rfl
    have Xl := H1.lt 1 rfl
    go_wp2_with fail
    refine (HCK.out w1).mono ?_
    rintro e w2 ⟨rfl, hb2⟩
    have H2 : Sep w NoF [.box (w.heap.size + 2) [.int .i64 0, .int .i64 0, .slice none 0 0] 54, .box (w.heap.size + 1) [.int .i64 x.k, .int .i64 x.e, .int .i64 x.a, .string (strOf x.d)] 45, .box (w.heap.size) [.int .i64 m.e, .int .i64 m.l, .slice ad m.cells.length cap] 54] (w2) := (H1.below hb2)
    clear Xc0 Xc1 Xc2 Xc3 Xl
    clear H1 hb2
    have HL2 := Lib.hid' (HL.out.below (Nat.le_refl _) H2.toBelow)
    have Mc0 := H2.cell 2 rfl 0 rfl
    have Mc1 := H2.cell 2 rfl 1 rfl
    have Mc2 := H2.cell 2 rfl 2 rfl
    have Mf0 := H2.free 2 rfl 0
    have Mf1 := H2.free 2 rfl 1
    have Mf2 := H2.free 2 rfl 2
    have Ml := H2.lt 2 rfl
    have Xc0 := H2.cell 1 rfl 0 rfl
    have Xc1 := H2.cell 1 rfl 1 rfl
    have Xc2 := H2.cell 1 rfl 2 rfl
    have Xc3 := H2.cell 1 rfl 3 rfl
    have Xl := H2.lt 1 rfl
    have Rc0 := H2.cell 0 rfl 0 rfl
    have Rc1 := H2.cell 0 rfl 1 rfl
    have Rc2 := H2.cell 0 rfl 2 rfl
    have Rf0 := H2.free 0 rfl 0
    have Rf1 := H2.free 0 rfl 1
    have Rf2 := H2.free 0 rfl 2
    have Rl := H2.lt 0 rfl
    have MnX := H2.ne 2 1 rfl rfl (by decide)
    have MnR := H2.ne 2 0 rfl rfl (by decide)
    have XnM := H2.ne 1 2 rfl rfl (by decide)
    have XnR := H2.ne 1 0 rfl rfl (by decide)
    have RnM := H2.ne 0 2 rfl rfl (by decide)
    have RnX := H2.ne 0 1 rfl rfl (by decide)
    go_wp2_with fail
    refine (HCT.out _ HL2.out).mono ?_
    rintro en w3 ⟨ay, cy, rfl, hly, hb3⟩
    have HLY := Lib.hid' hly
    clear hly
    unfold ruV
    have H3 : Sep w NoF [.box (w.heap.size + 2) [.int .i64 0, .int .i64 0, .slice none 0 0] 54, .box (w.heap.size + 1) [.int .i64 x.k, .int .i64 x.e, .int .i64 x.a, .string (strOf x.d)] 45, .box (w.heap.size) [.int .i64 m.e, .int .i64 m.l, .slice ad m.cells.length cap] 54] (w3) := (H2.below hb3)
    clear Mc0 Mc1 Mc2 Mf0 Mf1 Mf2 Ml Xc0 Xc1 Xc2 Xc3 Xl Rc0 Rc1 Rc2 Rf0 Rf1 Rf2 Rl MnX MnR XnM XnR RnM RnX
    clear H2 hb3
    have Mc0 := H3.cell 2 rfl 0 rfl
    have Mc1 := H3.cell 2 rfl 1 rfl
    have Mc2 := H3.cell 2 rfl 2 rfl
    have Mf0 := H3.free 2 rfl 0
    have Mf1 := H3.free 2 rfl 1
    have Mf2 := H3.free 2 rfl 2
    have Ml := H3.lt 2 rfl
    have Rc0 := H3.cell 0 rfl 0 rfl
    have Rc1 := H3.cell 0 rfl 1 rfl
    have Rc2 := H3.cell 0 rfl 2 rfl
    have Rf0 := H3.free 0 rfl 0
    have Rf1 := H3.free 0 rfl 1
    have Rf2 := H3.free 0 rfl 2
    have Rl := H3.lt 0 rfl
    have MnR := H3.ne 2 0 rfl rfl (by decide)
    have RnM := H3.ne 0 2 rfl rfl (by decide)
    have HBM := Lib.hid' (H3.box 2 rfl)
    go_upto_region 15 with fail
    have H4 : Sep w NoF [.box (w.heap.size) [.int .i64 yu.e, .int .i64 yu.l, .slice ay yu.cells.length cy] 54, .box (w.heap.size + 2) [.int .i64 0, .int .i64 0, .slice none 0 0] 54, .box (w.heap.size + 1) [.int .i64 x.k, .int .i64 x.e, .int .i64 x.a, .string (strOf x.d)] 45] ((((w3.setCell ⟨w.heap.size, 0, none⟩ (.int .i64 yu.e)).setCell ⟨w.heap.size, 1, none⟩ (.int .i64 yu.l)).setCell ⟨w.heap.size, 2, none⟩ (.slice ay yu.cells.length cy))) := (((H3.set 2 rfl 0 (.int .i64 yu.e)).set 0 rfl 1 (.int .i64 yu.l)).set 0 rfl 2 (.slice ay yu.cells.length cy))
    clear Mc0 Mc1 Mc2 Mf0 Mf1 Mf2 Ml Rc0 Rc1 Rc2 Rf0 Rf1 Rf2 Rl MnR RnM
    clear H3
    have HLZ := Lib.hid' (rl3 HBM.out HLY.out (.int .i64 yu.e) (.int .i64 yu.l) (.slice ay yu.cells.length cy))
    clear HLY HBM
    have H5 : Sep w NoF [.box (w.heap.size) [.int .i64 yu.e, .int .i64 yu.l, .slice ay yu.cells.length cy] 54, .box (w.heap.size + 2) [.int .i64 0, .int .i64 0, .slice none 0 0] 54, .box (w.heap.size + 1) [.int .i64 x.k, .int .i64 x.e, .int .i64 x.a, .string (strOf x.d)] 45] ((((w3.setCell ⟨w.heap.size, 0, none⟩ (.int .i64 yu.e)).setCell ⟨w.heap.size, 1, none⟩ (.int .i64 yu.l)).setCell ⟨w.heap.size, 2, none⟩ (.slice ay yu.cells.length cy))) := H4
    clear H4
    generalize (((w3.setCell ⟨w.heap.size, 0, none⟩ (.int .i64 yu.e)).setCell ⟨w.heap.size, 1, none⟩ (.int .i64 yu.l)).setCell ⟨w.heap.size, 2, none⟩ (.slice ay yu.cells.length cy)) = w4 at *
    have Mc0 := H5.cell 0 rfl 0 rfl
    have Mc1 := H5.cell 0 rfl 1 rfl
    have Mc2 := H5.cell 0 rfl 2 rfl
    have Ml := H5.lt 0 rfl
    have Rc0 := H5.cell 1 rfl 0 rfl
    have Rc1 := H5.cell 1 rfl 1 rfl
    have Rc2 := H5.cell 1 rfl 2 rfl
    have Rf0 := H5.free 1 rfl 0
    have Rf1 := H5.free 1 rfl 1
    have Rf2 := H5.free 1 rfl 2
    have Rl := H5.lt 1 rfl
    have MnR := H5.ne 0 1 rfl rfl (by decide)
    have RnM := H5.ne 1 0 rfl rfl (by decide)
    have HBX := Lib.hid' (H5.box 1 rfl)
    have HBB := Lib.hid' H5.toBelow
    go_region
    all_goals
      go_wp2
      refine bodyPost_ret (v := .tuple #[.int .i64 0, .agg #[.int .i64 yu.e, .int .i64 yu.l, .slice ay yu.cells.length cy], .int .i64 (yn : Nat)]) (by simp [results, Tryz.results32, go_sem, Mc0, Mc1, Mc2, Rc0, Rc1, Rc2]) rfl ?_
      first
        | exact res3 HBX.out HLZ.out HBB.out (by omega)
        | exact res3 HBX.out.drew (rl_drew HLZ.out) HBB.out.drew (by omega)
  have HQ3 := Lib.hid' (HQ.out.trans (if_neg hk))
  clear HQ
  have HQ := HQ3
  clear HQ3
  have hk3 := hk
  clear hk
  by_cases hk : x.k = 4
  · skip
    skip
    have HV := Lib.hid' (HQ.out.trans (if_pos hk))
    rw [HV.out]
    clear HV HQ
    have b1 : (x.k == 1) = false := by rw [beq_eq_false_iff_ne]; omega
    have b2 : (x.k == 2) = false := by rw [beq_eq_false_iff_ne]; omega
    have b3 : (x.k == 3) = false := by rw [beq_eq_false_iff_ne]; omega
    have b4 : (x.k == 4) = true := by rw [beq_iff_eq]; omega
    clear hk
    have HCT := Lib.hid' (fun wq hq => rTrim_any m ad cap x.e x.a wq hq hc)
    obtain ⟨y, hy⟩ : ∃ y, y = m.rTrim x.e x.a := ⟨_, rfl⟩
    rw [← hy] at HCT ⊢
    clear hy
    obtain ⟨yu, yn⟩ := y
    simp only at HCT ⊢
    go_enter Tryz.func32, Tryz.ntmps32
    go_wp2_with fail
    have H0 : Sep w NoF [] w := Sep.start _
    have H1 : Sep w NoF [.box (w.heap.size + 2) [.int .i64 0, .int .i64 0, .slice none 0 0] 54, .box (w.heap.size + 1) [.int .i64 x.k, .int .i64 x.e, .int .i64 x.a, .string (strOf x.d)] 45, .box (w.heap.size) [.int .i64 m.e, .int .i64 m.l, .slice ad m.cells.length cap] 54] ((((w.alloc (.cells #[.int .i64 m.e, .int .i64 m.l, .slice ad m.cells.length cap] 54)).alloc (.cells #[.int .i64 x.k, .int .i64 x.e, .int .i64 x.a, .string (strOf x.d)] 45)).alloc (.cells #[.int .i64 0, .int .i64 0, .slice none 0 0] 54))) := (((H0.allocAt (w.heap.size) [.int .i64 m.e, .int .i64 m.l, .slice ad m.cells.length cap] 54 (by simp)).allocAt (w.heap.size + 1) [.int .i64 x.k, .int .i64 x.e, .int .i64 x.a, .string (strOf x.d)] 45 (by simp)).allocAt (w.heap.size + 2) [.int .i64 0, .int .i64 0, .slice none 0 0] 54 (by simp))
    clear H0
    generalize (((w.alloc (.cells #[.int .i64 m.e, .int .i64 m.l, .slice ad m.cells.length cap] 54)).alloc (.cells #[.int .i64 x.k, .int .i64 x.e, .int .i64 x.a, .string (strOf x.d)] 45)).alloc (.cells #[.int .i64 0, .int .i64 0, .slice none 0 0] 54)) = w1 at *
    have Xc0 := H1.cell 1 rfl 0 rfl
    have Xc1 := H1.cell 1 rfl 1 rfl
    have Xc2 := H1.cell 1 rfl 2 rfl
    have Xc3 := H1.cell 1 rfl 3 rfl
    have Xl := H1.lt 1 rfl
    go_wp2_with fail
    refine (HCK.out w1).mono ?_
    rintro e w2 ⟨rfl, hb2⟩
    have H2 : Sep w NoF [.box (w.heap.size + 2) [.int .i64 0, .int .i64 0, .slice none 0 0] 54, .box (w.heap.size + 1) [.int .i64 x.k, .int .i64 x.e, .int .i64 x.a, .string (strOf x.d)] 45, .box (w.heap.size) [.int .i64 m.e, .int .i64 m.l, .slice ad m.cells.length cap] 54] (w2) := (H1.below hb2)
    clear Xc0 Xc1 Xc2 Xc3 Xl
    clear H1 hb2
    have HL2 := Lib.hid' (HL.out.below (Nat.le_refl _) H2.toBelow)
    have Mc0 := H2.cell 2 rfl 0 rfl
    have Mc1 := H2.cell 2 rfl 1 rfl
    have Mc2 := H2.cell 2 rfl 2 rfl
    have Mf0 := H2.free 2 rfl 0
    have Mf1 := H2.free 2 rfl 1
    have Mf2 := H2.free 2 rfl 2
    have Ml := H2.lt 2 rfl
    have Xc0 := H2.cell 1 rfl 0 rfl
    have Xc1 := H2.cell 1 rfl 1 rfl
    have Xc2 := H2.cell 1 rfl 2 rfl
    have Xc3 := H2.cell 1 rfl 3 rfl
    have Xl := H2.lt 1 rfl
    have Rc0 := H2.cell 0 rfl 0 rfl
    have Rc1 := H2.cell 0 rfl 1 rfl
    have Rc2 := H2.cell 0 rfl 2 rfl
    have Rf0 := H2.free 0 rfl 0
    have Rf1 := H2.free 0 rfl 1
    have Rf2 := H2.free 0 rfl 2
    have Rl := H2.lt 0 rfl
    have MnX := H2.ne 2 1 rfl rfl (by decide)
    have MnR := H2.ne 2 0 rfl rfl (by decide)
    have XnM := H2.ne 1 2 rfl rfl (by decide)
    have XnR := H2.ne 1 0 rfl rfl (by decide)
    have RnM := H2.ne 0 2 rfl rfl (by decide)
    have RnX := H2.ne 0 1 rfl rfl (by decide)
    go_wp2_with fail
    refine (HCT.out _ HL2.out).mono ?_
    rintro en w3 ⟨ay, cy, rfl, hly, hb3⟩
    have HLY := Lib.hid' hly
    clear hly
    unfold ruV
    have H3 : Sep w NoF [.box (w.heap.size + 2) [.int .i64 0, .int .i64 0, .slice none 0 0] 54, .box (w.heap.size + 1) [.int .i64 x.k, .int .i64 x.e, .int .i64 x.a, .string (strOf x.d)] 45, .box (w.heap.size) [.int .i64 m.e, .int .i64 m.l, .slice ad m.cells.length cap] 54] (w3) := (H2.below hb3)
    clear Mc0 Mc1 Mc2 Mf0 Mf1 Mf2 Ml Xc0 Xc1 Xc2 Xc3 Xl Rc0 Rc1 Rc2 Rf0 Rf1 Rf2 Rl MnX MnR XnM XnR RnM RnX
    clear H2 hb3
    have Mc0 := H3.cell 2 rfl 0 rfl
    have Mc1 := H3.cell 2 rfl 1 rfl
    have Mc2 := H3.cell 2 rfl 2 rfl
    have Mf0 := H3.free 2 rfl 0
    have Mf1 := H3.free 2 rfl 1
    have Mf2 := H3.free 2 rfl 2
    have Ml := H3.lt 2 rfl
    have Rc0 := H3.cell 0 rfl 0 rfl
    have Rc1 := H3.cell 0 rfl 1 rfl
    have Rc2 := H3.cell 0 rfl 2 rfl
    have Rf0 := H3.free 0 rfl 0
    have Rf1 := H3.free 0 rfl 1
    have Rf2 := H3.free 0 rfl 2
    have Rl := H3.lt 0 rfl
    have MnR := H3.ne 2 0 rfl rfl (by decide)
    have RnM := H3.ne 0 2 rfl rfl (by decide)
    have HBM := Lib.hid' (H3.box 2 rfl)
    go_upto_region 15 with fail
    have H4 : Sep w NoF [.box (w.heap.size) [.int .i64 yu.e, .int .i64 yu.l, .slice ay yu.cells.length cy] 54, .box (w.heap.size + 2) [.int .i64 0, .int .i64 0, .slice none 0 0] 54, .box (w.heap.size + 1) [.int .i64 x.k, .int .i64 x.e, .int .i64 x.a, .string (strOf x.d)] 45] ((((w3.setCell ⟨w.heap.size, 0, none⟩ (.int .i64 yu.e)).setCell ⟨w.heap.size, 1, none⟩ (.int .i64 yu.l)).setCell ⟨w.heap.size, 2, none⟩ (.slice ay yu.cells.length cy))) := (((H3.set 2 rfl 0 (.int .i64 yu.e)).set 0 rfl 1 (.int .i64 yu.l)).set 0 rfl 2 (.slice ay yu.cells.length cy))
    clear Mc0 Mc1 Mc2 Mf0 Mf1 Mf2 Ml Rc0 Rc1 Rc2 Rf0 Rf1 Rf2 Rl MnR RnM
    clear H3
    have HLZ := Lib.hid' (rl3 HBM.out HLY.out (.int .i64 yu.e) (.int .i64 yu.l) (.slice ay yu.cells.length cy))
    clear HLY HBM
    have H5 : Sep w NoF [.box (w.heap.size) [.int .i64 yu.e, .int .i64 yu.l, .slice ay yu.cells.length cy] 54, .box (w.heap.size + 2) [.int .i64 0, .int .i64 0, .slice none 0 0] 54, .box (w.heap.size + 1) [.int .i64 x.k, .int .i64 x.e, .int .i64 x.a, .string (strOf x.d)] 45] ((((w3.setCell ⟨w.heap.size, 0, none⟩ (.int .i64 yu.e)).setCell ⟨w.heap.size, 1, none⟩ (.int .i64 yu.l)).setCell ⟨w.heap.size, 2, none⟩ (.slice ay yu.cells.length cy))) := H4
    clear H4
    generalize (((w3.setCell ⟨w.heap.size, 0, none⟩ (.int .i64 yu.e)).setCell ⟨w.heap.size, 1, none⟩ (.int .i64 yu.l)).setCell ⟨w.heap.size, 2, none⟩ (.slice ay yu.cells.length cy)) = w4 at *
    have Mc0 := H5.cell 0 rfl 0 rfl
    have Mc1 := H5.cell 0 rfl 1 rfl
    have Mc2 := H5.cell 0 rfl 2 rfl
    have Ml := H5.lt 0 rfl
    have Rc0 := H5.cell 1 rfl 0 rfl
    have Rc1 := H5.cell 1 rfl 1 rfl
    have Rc2 := H5.cell 1 rfl 2 rfl
    have Rf0 := H5.free 1 rfl 0
    have Rf1 := H5.free 1 rfl 1
    have Rf2 := H5.free 1 rfl 2
    have Rl := H5.lt 1 rfl
    have MnR := H5.ne 0 1 rfl rfl (by decide)
    have RnM := H5.ne 1 0 rfl rfl (by decide)
    have HBX := Lib.hid' (H5.box 1 rfl)
    have HBB := Lib.hid' H5.toBelow
    go_region
    all_goals
      go_wp2
      refine bodyPost_ret (v := .tuple #[.int .i64 0, .agg #[.int .i64 yu.e, .int .i64 yu.l, .slice ay yu.cells.length cy], .int .i64 (yn : Nat)]) (by simp [results, Tryz.results32, go_sem, Mc0, Mc1, Mc2, Rc0, Rc1, Rc2]) rfl ?_
      first
        | exact res3 HBX.out HLZ.out HBB.out (by omega)
        | exact res3 HBX.out.drew (rl_drew HLZ.out) HBB.out.drew (by omega)
  have HQ4 := Lib.hid' (HQ.out.trans (if_neg hk))
  clear HQ
  have HQ := HQ4
  clear HQ4
  have hk4 := hk
  clear hk
  have HV := HQ
  rw [HV.out]
  clear HV HQ
  have b1 : (x.k == 1) = false := by rw [beq_eq_false_iff_ne]; omega
  have b2 : (x.k == 2) = false := by rw [beq_eq_false_iff_ne]; omega
  have b3 : (x.k == 3) = false := by rw [beq_eq_false_iff_ne]; omega
  have b4 : (x.k == 4) = false := by rw [beq_eq_false_iff_ne]; omega
  have HCT := Lib.hid' (fun wq hq => rCut_any m ad cap x.e x.a wq hq hc)
  obtain ⟨y, hy⟩ : ∃ y, y = m.rCut x.e x.a := ⟨_, rfl⟩
  rw [← hy] at HCT ⊢
  clear hy
  obtain ⟨yt, yu, yn⟩ := y
  simp only at HCT ⊢
  go_enter Tryz.func32, Tryz.ntmps32
  go_wp2_with fail
  have H0 : Sep w NoF [] w := Sep.start _
  have H1 : Sep w NoF [.box (w.heap.size + 2) [.int .i64 0, .int .i64 0, .slice none 0 0] 54, .box (w.heap.size + 1) [.int .i64 x.k, .int .i64 x.e, .int .i64 x.a, .string (strOf x.d)] 45, .box (w.heap.size) [.int .i64 m.e, .int .i64 m.l, .slice ad m.cells.length cap] 54] ((((w.alloc (.cells #[.int .i64 m.e, .int .i64 m.l, .slice ad m.cells.length cap] 54)).alloc (.cells #[.int .i64 x.k, .int .i64 x.e, .int .i64 x.a, .string (strOf x.d)] 45)).alloc (.cells #[.int .i64 0, .int .i64 0, .slice none 0 0] 54))) := (((H0.allocAt (w.heap.size) [.int .i64 m.e, .int .i64 m.l, .slice ad m.cells.length cap] 54 (by simp)).allocAt (w.heap.size + 1) [.int .i64 x.k, .int .i64 x.e, .int .i64 x.a, .string (strOf x.d)] 45 (by simp)).allocAt (w.heap.size + 2) [.int .i64 0, .int .i64 0, .slice none 0 0] 54 (by simp))
  clear H0
  generalize (((w.alloc (.cells #[.int .i64 m.e, .int .i64 m.l, .slice ad m.cells.length cap] 54)).alloc (.cells #[.int .i64 x.k, .int .i64 x.e, .int .i64 x.a, .string (strOf x.d)] 45)).alloc (.cells #[.int .i64 0, .int .i64 0, .slice none 0 0] 54)) = w1 at *
  have Xc0 := H1.cell 1 rfl 0 rfl
  have Xc1 := H1.cell 1 rfl 1 rfl
  have Xc2 := H1.cell 1 rfl 2 rfl
  have Xc3 := H1.cell 1 rfl 3 rfl
  have Xl := H1.lt 1 rfl
  go_wp2_with fail
  refine (HCK.out w1).mono ?_
  rintro e w2 ⟨rfl, hb2⟩
  have H2 : Sep w NoF [.box (w.heap.size + 2) [.int .i64 0, .int .i64 0, .slice none 0 0] 54, .box (w.heap.size + 1) [.int .i64 x.k, .int .i64 x.e, .int .i64 x.a, .string (strOf x.d)] 45, .box (w.heap.size) [.int .i64 m.e, .int .i64 m.l, .slice ad m.cells.length cap] 54] (w2) := (H1.below hb2)
  clear Xc0 Xc1 Xc2 Xc3 Xl
  clear H1 hb2
  have HL2 := Lib.hid' (HL.out.below (Nat.le_refl _) H2.toBelow)
  have Mc0 := H2.cell 2 rfl 0 rfl
  have Mc1 := H2.cell 2 rfl 1 rfl
  have Mc2 := H2.cell 2 rfl 2 rfl
  have Mf0 := H2.free 2 rfl 0
  have Mf1 := H2.free 2 rfl 1
  have Mf2 := H2.free 2 rfl 2
  have Ml := H2.lt 2 rfl
  have Xc0 := H2.cell 1 rfl 0 rfl
  have Xc1 := H2.cell 1 rfl 1 rfl
  have Xc2 := H2.cell 1 rfl 2 rfl
  have Xc3 := H2.cell 1 rfl 3 rfl
  have Xl := H2.lt 1 rfl
  have Rc0 := H2.cell 0 rfl 0 rfl
  have Rc1 := H2.cell 0 rfl 1 rfl
  have Rc2 := H2.cell 0 rfl 2 rfl
  have Rf0 := H2.free 0 rfl 0
  have Rf1 := H2.free 0 rfl 1
  have Rf2 := H2.free 0 rfl 2
  have Rl := H2.lt 0 rfl
  have MnX := H2.ne 2 1 rfl rfl (by decide)
  have MnR := H2.ne 2 0 rfl rfl (by decide)
  have XnM := H2.ne 1 2 rfl rfl (by decide)
  have XnR := H2.ne 1 0 rfl rfl (by decide)
  have RnM := H2.ne 0 2 rfl rfl (by decide)
  have RnX := H2.ne 0 1 rfl rfl (by decide)
  go_wp2_with fail
  refine (HCT.out _ HL2.out).mono ?_
  rintro en w3 ⟨ay, cy, rfl, hly, hb3⟩
  have HLY := Lib.hid' hly
  clear hly
  unfold ruV
  have H3 : Sep w NoF [.box (w.heap.size + 2) [.int .i64 0, .int .i64 0, .slice none 0 0] 54, .box (w.heap.size + 1) [.int .i64 x.k, .int .i64 x.e, .int .i64 x.a, .string (strOf x.d)] 45, .box (w.heap.size) [.int .i64 m.e, .int .i64 m.l, .slice ad m.cells.length cap] 54] (w3) := (H2.below hb3)
  clear Mc0 Mc1 Mc2 Mf0 Mf1 Mf2 Ml Xc0 Xc1 Xc2 Xc3 Xl Rc0 Rc1 Rc2 Rf0 Rf1 Rf2 Rl MnX MnR XnM XnR RnM RnX
  clear H2 hb3
  have Mc0 := H3.cell 2 rfl 0 rfl
  have Mc1 := H3.cell 2 rfl 1 rfl
  have Mc2 := H3.cell 2 rfl 2 rfl
  have Ml := H3.lt 2 rfl
  have Rc0 := H3.cell 0 rfl 0 rfl
  have Rc1 := H3.cell 0 rfl 1 rfl
  have Rc2 := H3.cell 0 rfl 2 rfl
  have Rf0 := H3.free 0 rfl 0
  have Rf1 := H3.free 0 rfl 1
  have Rf2 := H3.free 0 rfl 2
  have Rl := H3.lt 0 rfl
  have MnR := H3.ne 2 0 rfl rfl (by decide)
  have RnM := H3.ne 0 2 rfl rfl (by decide)
  have HBX := Lib.hid' (H3.box 0 rfl)
  have HBB := Lib.hid' H3.toBelow
  go_wp2
  refine bodyPost_ret (v := .tuple #[.int .i64 yt, .agg #[.int .i64 yu.e, .int .i64 yu.l, .slice ay yu.cells.length cy], .int .i64 (yn : Nat)]) (by simp [results, Tryz.results32, go_sem, Rc0, Rc1, Rc2]) rfl ?_
  exact res3 HBX.out HLY.out HBB.out (by omega)
end Go.Proofs.YtkljeefncopodaaGreat
