/- Proved here: a part of the proof (14 of 34). -/
import Derived.Test.YtpckcpmohcianaaGreatDoorS11
import Derived.Test.YtpckcpmohcianaaGreatDoorS12
import Derived.Test.YtpckcpmohcianaaGreatDoorS13
set_option linter.unusedSimpArgs false
set_option linter.unusedVariables false
set_option maxRecDepth 100000
namespace Go.Proofs.YtpckcpmohcianaaGreatDoor
open Go.RowKit

def apU (u : U) (x : Ac) : Nat × Int × U :=
 if x.check ≠ 0 then (x.check, 0, u) else if x.k = 1 then u.sealE x.e else if x.k = 2 then ((u.write x.e x.a x.d).1, 0, (u.write x.e x.a x.d).2)
 else if x.k = 3 then ((u.fill x.e x.a).1, 0, (u.fill x.e x.a).2) else if x.k = 4 then ((u.trim x.e x.a).1, 0, (u.trim x.e x.a).2) else u.cut x.e x.a
theorem apU_ok {u : U} (h : u.ok) (x : Ac) : (apU u x).2.2.ok := by
 unfold apU
 split; · exact h
 split; · exact U.ok_sealE h _
 split; · exact U.ok_write h _ _ _
 split; · exact U.ok_fill h _ _
 split; · exact U.ok_trim h _ _
 exact U.ok_cut h _ _
theorem fr3 {N : Nat} {w : World} (a b c : Value) : Fr (fun q => q = N) w (((w.setCell ⟨N, 0, none⟩ a).setCell ⟨N, 1, none⟩ b).setCell ⟨N, 2, none⟩ c) :=
 ((fr_set _ _ _ _).trans (fr_set _ _ _ _) (fun i hi => .inl hi)).trans (fr_set _ _ _ _) (fun i hi => .inl hi)
theorem rl3 {N T : Nat} {w : World} {x y : Int} {sa : Option Addr} {sn sc : Nat} {v : Value} {L : List (Int × C)} (h : BoxW N [.int .i64 x, .int .i64 y, .slice sa sn sc] T w) (hl : RList w v L) (a b c : Value) :
  RList (((w.setCell ⟨N, 0, none⟩ a).setCell ⟨N, 1, none⟩ b).setCell ⟨N, 2, none⟩ c) v L :=
 h.rlist (by intro b hb; simp at hb) hl (fr3 a b c)
theorem res3 {W w : World} {N T : Nat} {x y t : Int} {sa : Option Addr} {sn sc : Nat} {u : U} {ay : Option Addr} {cy n : Nat} (h : BoxW N [.int .i64 x, .int .i64 y, .slice sa sn sc] T w) (hl : RList w (.slice ay u.cells.length cy) u.cells) (hb : Below W.heap.size W w) (hN : W.heap.size ≤ N) :
  RTUN t u n W (.returned (.tuple #[.int .i64 t, .agg #[.int .i64 u.e, .int .i64 u.l, .slice ay u.cells.length cy], .int .i64 (n : Nat)])) (((w.setCell ⟨N, 0, none⟩ (.int .i64 u.e)).setCell ⟨N, 1, none⟩ (.int .i64 u.l)).setCell ⟨N, 2, none⟩ (.slice ay u.cells.length cy)) :=
 ⟨ay, cy, rfl, rl3 h hl _ _ _, ((hb.setCell (by simpa using hN) _).setCell (by simpa using hN) _).setCell (by simpa using hN) _⟩
set_option maxHeartbeats 8000000 in
theorem rapply_any {A : Nat → Prop} {bu bm : Nat} {u : U} (x : Ac) (a : Option Addr) (c : Nat) (w : World) (h : UnitAt A w bu bm u) (hA : ∀ k, A k → k < w.heap.size) (hlen : u.cells.length ≤ 1048576) (hB : Bytes w (.slice a x.d.length c) x.d) :
  Calls Tryz.prog 91 #[.pointer (some ⟨bu, 0, none⟩), ac9V x a c] w (UnitR (.tuple #[.int .i64 (apU u x).2.1, errV (apU u x).1]) A bu bm (apU u x).2.2 w) := by
 have HU := Lib.hid' h
 have HB := Lib.hid' hB
 have HA := Lib.hid' hA
 have hl := bytes_len hB
 have HCK := Zh (fun wq => rcheck9_any x a c hl wq)
 obtain ⟨p, hp⟩ : ∃ p, p = apU u x := ⟨_, rfl⟩
 rw [← hp]
 unfold apU at hp
 have HAP := Lib.hid' hp
 clear hp
 have hOK := @Ac.check_ok x
 obtain ⟨ck, hck⟩ : ∃ ck, ck = x.check := ⟨_, rfl⟩
 rw [← hck] at HCK HAP hOK
 clear hck h hB hA
 unfold ac9V at HCK ⊢
 by_cases h0 : ck = 0
 rotate_left
 ·skip
  have HV := Zh (HAP.out.trans (if_pos h0))
  rw [HV.out]
  clear HV HAP hOK
  have HE := Zh (errV_pos h0)
  go_enter Tryz.func91, Tryz.ntmps91
  go_wp2_with fail
  have H0 : Sep w NoF [] w := Sep.start _
  have H1 : Sep w NoF [.box (w.heap.size) [.int .i64 x.k, .int .i64 x.e, .int .i64 x.a, .slice a x.d.length c] 99] ((w.alloc (.cells #[.int .i64 x.k, .int .i64 x.e, .int .i64 x.a, .slice a x.d.length c] 99))) := (H0.allocAt (w.heap.size) [.int .i64 x.k, .int .i64 x.e, .int .i64 x.a, .slice a x.d.length c] 99 (by simp))
  clear H0
  generalize (w.alloc (.cells #[.int .i64 x.k, .int .i64 x.e, .int .i64 x.a, .slice a x.d.length c] 99)) = w1 at *
  go_wp2_with fail
  refine (HCK.out w1).mono ?_
  rintro e w2 ⟨rfl, hb2⟩
  have H2 : Sep w NoF [.box (w.heap.size) [.int .i64 x.k, .int .i64 x.e, .int .i64 x.a, .slice a x.d.length c] 99] (w2) := (H1.below hb2)
  clear H1 hb2
  have HU2 := Zh (HU.out.below (Nat.le_refl _) H2.toBelow)
  have hA2 : ∀ k, A k → k < w2.heap.size := fun k hk => Nat.lt_of_lt_of_le (HA.out k hk) H2.toBelow.size
  rw [HE.out]
  clear h0
  go_wp2
  go_ret2
  exact ⟨by rw [HE.out]; rfl, HU2.out, Fr.of_below H2.toBelow⟩
 have g1 := (hOK h0).1
 have g2 := (hOK h0).2.1
 have HQ := Zh (HAP.out.trans (if_neg (by simpa using h0)))
 subst h0
 clear HAP hOK
 by_cases hk : x.k = 1
 ·skip
  skip
  have HV := Zh (HQ.out.trans (if_pos hk))
  rw [HV.out]
  clear HV HQ
  have b1 : (x.k == 1) = true := by rw [beq_iff_eq]; omega
  clear hk
  go_enter Tryz.func91, Tryz.ntmps91
  go_wp2_with fail
  have H0 : Sep w NoF [] w := Sep.start _
  have H1 : Sep w NoF [.box (w.heap.size) [.int .i64 x.k, .int .i64 x.e, .int .i64 x.a, .slice a x.d.length c] 99] ((w.alloc (.cells #[.int .i64 x.k, .int .i64 x.e, .int .i64 x.a, .slice a x.d.length c] 99))) := (H0.allocAt (w.heap.size) [.int .i64 x.k, .int .i64 x.e, .int .i64 x.a, .slice a x.d.length c] 99 (by simp))
  clear H0
  generalize (w.alloc (.cells #[.int .i64 x.k, .int .i64 x.e, .int .i64 x.a, .slice a x.d.length c] 99)) = w1 at *
  go_wp2_with fail
  refine (HCK.out w1).mono ?_
  rintro e w2 ⟨rfl, hb2⟩
  have H2 : Sep w NoF [.box (w.heap.size) [.int .i64 x.k, .int .i64 x.e, .int .i64 x.a, .slice a x.d.length c] 99] (w2) := (H1.below hb2)
  clear H1 hb2
  have HU2 := Zh (HU.out.below (Nat.le_refl _) H2.toBelow)
  have hA2 : ∀ k, A k → k < w2.heap.size := fun k hk => Nat.lt_of_lt_of_le (HA.out k hk) H2.toBelow.size
  rw [errV_0]
  have Xc0 := H2.cell 0 rfl 0 rfl
  have Xc1 := H2.cell 0 rfl 1 rfl
  have Xc2 := H2.cell 0 rfl 2 rfl
  have Xc3 := H2.cell 0 rfl 3 rfl
  have Xl := H2.lt 0 rfl
  go_wp2_with fail
  refine (seal_any x.e _ HU2.out).mono ?_
  rintro en w3 ⟨rfl, hu, hf⟩
  have HU3 := Lib.hid' hu
  have HF3 := Zh ((Fr.of_below H2.toBelow).trans hf (fun i hi => .inl hi))
  clear hu hf Xc0 Xc1 Xc2 Xc3 Xl
  go_wp2
  go_ret2
  exact ⟨rfl, HU3.out, HF3.out⟩
 have HQ1 := Zh (HQ.out.trans (if_neg hk))
 clear HQ
 have HQ := HQ1
 clear HQ1
 have hk1 := hk
 clear hk
 by_cases hk : x.k = 2
 ·skip
  skip
  have HV := Zh (HQ.out.trans (if_pos hk))
  rw [HV.out]
  clear HV HQ
  have b1 : (x.k == 1) = false := by rw [beq_eq_false_iff_ne]; omega
  have b2 : (x.k == 2) = true := by rw [beq_iff_eq]; omega
  clear hk
  go_enter Tryz.func91, Tryz.ntmps91
  go_wp2_with fail
  have H0 : Sep w NoF [] w := Sep.start _
  have H1 : Sep w NoF [.box (w.heap.size) [.int .i64 x.k, .int .i64 x.e, .int .i64 x.a, .slice a x.d.length c] 99] ((w.alloc (.cells #[.int .i64 x.k, .int .i64 x.e, .int .i64 x.a, .slice a x.d.length c] 99))) := (H0.allocAt (w.heap.size) [.int .i64 x.k, .int .i64 x.e, .int .i64 x.a, .slice a x.d.length c] 99 (by simp))
  clear H0
  generalize (w.alloc (.cells #[.int .i64 x.k, .int .i64 x.e, .int .i64 x.a, .slice a x.d.length c] 99)) = w1 at *
  go_wp2_with fail
  refine (HCK.out w1).mono ?_
  rintro e w2 ⟨rfl, hb2⟩
  have H2 : Sep w NoF [.box (w.heap.size) [.int .i64 x.k, .int .i64 x.e, .int .i64 x.a, .slice a x.d.length c] 99] (w2) := (H1.below hb2)
  clear H1 hb2
  have HU2 := Zh (HU.out.below (Nat.le_refl _) H2.toBelow)
  have hA2 : ∀ k, A k → k < w2.heap.size := fun k hk => Nat.lt_of_lt_of_le (HA.out k hk) H2.toBelow.size
  rw [errV_0]
  have Xc0 := H2.cell 0 rfl 0 rfl
  have Xc1 := H2.cell 0 rfl 1 rfl
  have Xc2 := H2.cell 0 rfl 2 rfl
  have Xc3 := H2.cell 0 rfl 3 rfl
  have Xl := H2.lt 0 rfl
  go_wp2_with fail
  refine (write_any x.e x.a (.slice a x.d.length c) x.d _ HU2.out hA2 (H2.oldBytes HB.out)).mono ?_
  rintro en w3 ⟨rfl, hu, hf⟩
  have HU3 := Lib.hid' hu
  have HF3 := Zh ((Fr.of_below H2.toBelow).trans hf (fun i hi => .inl hi))
  clear hu hf Xc0 Xc1 Xc2 Xc3 Xl
  go_wp2
  go_ret2
  exact ⟨rfl, HU3.out, HF3.out⟩
 have HQ2 := Zh (HQ.out.trans (if_neg hk))
 clear HQ
 have HQ := HQ2
 clear HQ2
 have hk2 := hk
 clear hk
 by_cases hk : x.k = 3
 ·skip
  skip
  have HV := Zh (HQ.out.trans (if_pos hk))
  rw [HV.out]
  clear HV HQ
  have b1 : (x.k == 1) = false := by rw [beq_eq_false_iff_ne]; omega
  have b2 : (x.k == 2) = false := by rw [beq_eq_false_iff_ne]; omega
  have b3 : (x.k == 3) = true := by rw [beq_iff_eq]; omega
  clear hk
  go_enter Tryz.func91, Tryz.ntmps91
  go_wp2_with fail
  have H0 : Sep w NoF [] w := Sep.start _
  have H1 : Sep w NoF [.box (w.heap.size) [.int .i64 x.k, .int .i64 x.e, .int .i64 x.a, .slice a x.d.length c] 99] ((w.alloc (.cells #[.int .i64 x.k, .int .i64 x.e, .int .i64 x.a, .slice a x.d.length c] 99))) := (H0.allocAt (w.heap.size) [.int .i64 x.k, .int .i64 x.e, .int .i64 x.a, .slice a x.d.length c] 99 (by simp))
  clear H0
  generalize (w.alloc (.cells #[.int .i64 x.k, .int .i64 x.e, .int .i64 x.a, .slice a x.d.length c] 99)) = w1 at *
  go_wp2_with fail
  refine (HCK.out w1).mono ?_
  rintro e w2 ⟨rfl, hb2⟩
  have H2 : Sep w NoF [.box (w.heap.size) [.int .i64 x.k, .int .i64 x.e, .int .i64 x.a, .slice a x.d.length c] 99] (w2) := (H1.below hb2)
  clear H1 hb2
  have HU2 := Zh (HU.out.below (Nat.le_refl _) H2.toBelow)
  have hA2 : ∀ k, A k → k < w2.heap.size := fun k hk => Nat.lt_of_lt_of_le (HA.out k hk) H2.toBelow.size
  rw [errV_0]
  have Xc0 := H2.cell 0 rfl 0 rfl
  have Xc1 := H2.cell 0 rfl 1 rfl
  have Xc2 := H2.cell 0 rfl 2 rfl
  have Xc3 := H2.cell 0 rfl 3 rfl
  have Xl := H2.lt 0 rfl
  go_wp2_with fail
  refine (fill_any x.e x.a _ HU2.out hA2).mono ?_
  rintro en w3 ⟨rfl, hu, hf⟩
  have HU3 := Lib.hid' hu
  have HF3 := Zh ((Fr.of_below H2.toBelow).trans hf (fun i hi => .inl hi))
  clear hu hf Xc0 Xc1 Xc2 Xc3 Xl
  go_wp2
  go_ret2
  exact ⟨rfl, HU3.out, HF3.out⟩
 have HQ3 := Zh (HQ.out.trans (if_neg hk))
 clear HQ
 have HQ := HQ3
 clear HQ3
 have hk3 := hk
 clear hk
 by_cases hk : x.k = 4
 ·skip
  skip
  have HV := Zh (HQ.out.trans (if_pos hk))
  rw [HV.out]
  clear HV HQ
  have b1 : (x.k == 1) = false := by rw [beq_eq_false_iff_ne]; omega
  have b2 : (x.k == 2) = false := by rw [beq_eq_false_iff_ne]; omega
  have b3 : (x.k == 3) = false := by rw [beq_eq_false_iff_ne]; omega
  have b4 : (x.k == 4) = true := by rw [beq_iff_eq]; omega
  clear hk
  go_enter Tryz.func91, Tryz.ntmps91
  go_wp2_with fail
  have H0 : Sep w NoF [] w := Sep.start _
  have H1 : Sep w NoF [.box (w.heap.size) [.int .i64 x.k, .int .i64 x.e, .int .i64 x.a, .slice a x.d.length c] 99] ((w.alloc (.cells #[.int .i64 x.k, .int .i64 x.e, .int .i64 x.a, .slice a x.d.length c] 99))) := (H0.allocAt (w.heap.size) [.int .i64 x.k, .int .i64 x.e, .int .i64 x.a, .slice a x.d.length c] 99 (by simp))
  clear H0
  generalize (w.alloc (.cells #[.int .i64 x.k, .int .i64 x.e, .int .i64 x.a, .slice a x.d.length c] 99)) = w1 at *
  go_wp2_with fail
  refine (HCK.out w1).mono ?_
  rintro e w2 ⟨rfl, hb2⟩
  have H2 : Sep w NoF [.box (w.heap.size) [.int .i64 x.k, .int .i64 x.e, .int .i64 x.a, .slice a x.d.length c] 99] (w2) := (H1.below hb2)
  clear H1 hb2
  have HU2 := Zh (HU.out.below (Nat.le_refl _) H2.toBelow)
  have hA2 : ∀ k, A k → k < w2.heap.size := fun k hk => Nat.lt_of_lt_of_le (HA.out k hk) H2.toBelow.size
  rw [errV_0]
  have Xc0 := H2.cell 0 rfl 0 rfl
  have Xc1 := H2.cell 0 rfl 1 rfl
  have Xc2 := H2.cell 0 rfl 2 rfl
  have Xc3 := H2.cell 0 rfl 3 rfl
  have Xl := H2.lt 0 rfl
  go_wp2_with fail
  refine (trim_any x.e x.a _ HU2.out hA2).mono ?_
  rintro en w3 ⟨rfl, hu, hf⟩
  have HU3 := Lib.hid' hu
  have HF3 := Zh ((Fr.of_below H2.toBelow).trans hf (fun i hi => .inl hi))
  clear hu hf Xc0 Xc1 Xc2 Xc3 Xl
  go_wp2
  go_ret2
  exact ⟨rfl, HU3.out, HF3.out⟩
 have HQ4 := Zh (HQ.out.trans (if_neg hk))
 clear HQ
 have HQ := HQ4
 clear HQ4
 have hk4 := hk
 clear hk
 have HV := HQ
 rw [HV.out]
 clear HV HQ
 have b1 : (x.k == 1) = false := by rw [beq_eq_false_iff_ne]; omega
 have b2 : (x.k == 2) = false := by rw [beq_eq_false_iff_ne]; omega
 have b3 : (x.k == 3) = false := by rw [beq_eq_false_iff_ne]; omega
 have b4 : (x.k == 4) = false := by rw [beq_eq_false_iff_ne]; omega
 go_enter Tryz.func91, Tryz.ntmps91
 go_wp2_with fail
 have H0 : Sep w NoF [] w := Sep.start _
 have H1 : Sep w NoF [.box (w.heap.size) [.int .i64 x.k, .int .i64 x.e, .int .i64 x.a, .slice a x.d.length c] 99] ((w.alloc (.cells #[.int .i64 x.k, .int .i64 x.e, .int .i64 x.a, .slice a x.d.length c] 99))) := (H0.allocAt (w.heap.size) [.int .i64 x.k, .int .i64 x.e, .int .i64 x.a, .slice a x.d.length c] 99 (by simp))
 clear H0
 generalize (w.alloc (.cells #[.int .i64 x.k, .int .i64 x.e, .int .i64 x.a, .slice a x.d.length c] 99)) = w1 at *
 go_wp2_with fail
 refine (HCK.out w1).mono ?_
 rintro e w2 ⟨rfl, hb2⟩
 have H2 : Sep w NoF [.box (w.heap.size) [.int .i64 x.k, .int .i64 x.e, .int .i64 x.a, .slice a x.d.length c] 99] (w2) := (H1.below hb2)
 clear H1 hb2
 have HU2 := Zh (HU.out.below (Nat.le_refl _) H2.toBelow)
 have hA2 : ∀ k, A k → k < w2.heap.size := fun k hk => Nat.lt_of_lt_of_le (HA.out k hk) H2.toBelow.size
 rw [errV_0]
 have Xc0 := H2.cell 0 rfl 0 rfl
 have Xc1 := H2.cell 0 rfl 1 rfl
 have Xc2 := H2.cell 0 rfl 2 rfl
 have Xc3 := H2.cell 0 rfl 3 rfl
 have Xl := H2.lt 0 rfl
 go_wp2_with fail
 refine (cut_any x.e x.a _ HU2.out hA2 hlen).mono ?_
 rintro en w3 ⟨rfl, hu, hf⟩
 have HU3 := Lib.hid' hu
 have HF3 := Zh ((Fr.of_below H2.toBelow).trans hf (fun i hi => .inl hi))
 clear hu hf Xc0 Xc1 Xc2 Xc3 Xl
 go_wp2
 go_ret2
 exact ⟨rfl, HU3.out, HF3.out⟩

end Go.Proofs.YtpckcpmohcianaaGreatDoor

namespace Go.Proofs.YtpckcpmohcianaaGreatDoor
namespace SH
structure Ueq (u v : U) : Prop where
 e : u.e = v.e
 l : u.l = v.l
 cells : u.cells.Perm v.cells
theorem Ueq.refl (u : U) : Ueq u u := ⟨rfl, rfl, List.Perm.refl _⟩
theorem Ueq.symm {u v : U} (h : Ueq u v) : Ueq v u := ⟨h.e.symm, h.l.symm, h.cells.symm⟩
theorem Ueq.trans {u v x : U} (h : Ueq u v) (k : Ueq v x) : Ueq u x := ⟨h.e.trans k.e, h.l.trans k.l, h.cells.trans k.cells⟩
theorem lookC_mem {L : List (Int × C)} (hn : (L.map (·.1)).Nodup) {a : Int} {c : C} (h : (a, c) ∈ L) : lookC L a = c := by
 unfold lookC
 induction L with
 | nil => simp at h
 | cons x L ih =>
  simp only [List.map_cons, List.nodup_cons] at hn
  rcases List.mem_cons.1 h with e | h
  ·rw [← e, List.find?_cons_of_pos (by simp)]; rfl
  ·have hx : x.1 ≠ a := fun e => hn.1 (by rw [e]; exact List.mem_map_of_mem (f := (·.1)) h)
   rw [List.find?_cons_of_neg (by simpa using hx)]
   exact ih hn.2 h
theorem lookC_none {L : List (Int × C)} {a : Int} (h : ∀ c, (a, c) ∉ L) : lookC L a = ⟨0, []⟩ := by
 unfold lookC
 have : L.find? (·.1 == a) = none := by
  rw [List.find?_eq_none]
  intro x hx hxa
  have : x.1 = a := by simpa using hxa
  exact h x.2 (by rw [← this]; exact hx)
 rw [this]; rfl
theorem lookC_perm {L M : List (Int × C)} (h : L.Perm M) (hn : (L.map (·.1)).Nodup) (a : Int) : lookC L a = lookC M a := by
 have hm : (M.map (·.1)).Nodup := (h.map _).nodup_iff.1 hn
 by_cases hx : ∃ c, (a, c) ∈ L
 ·obtain ⟨c, hc⟩ := hx
  rw [lookC_mem hn hc, lookC_mem hm (h.mem_iff.1 hc)]
 ·rw [lookC_none (fun c hc => hx ⟨c, hc⟩), lookC_none (fun c hc => hx ⟨c, h.mem_iff.2 hc⟩)]
theorem tail_perm {L M : List (Int × C)} (h : L.Perm M) (m : Int) : L.foldl tailF m = M.foldl tailF m := by
 induction h generalizing m with
 | nil => rfl
 | cons x _ ih => simp only [List.foldl_cons]; exact ih _
 | swap x y l => simp only [List.foldl_cons]; rw [tailF_comm]
 | trans _ _ ih1 ih2 => rw [ih1, ih2]
theorem any_perm {L M : List (Int × C)} (h : L.Perm M) (f : Int × C → Bool) : L.any f = M.any f := by
 rw [Bool.eq_iff_iff, List.any_eq_true, List.any_eq_true]
 exact ⟨fun ⟨x, hx, hf⟩ => ⟨x, h.mem_iff.1 hx, hf⟩, fun ⟨x, hx, hf⟩ => ⟨x, h.mem_iff.2 hx, hf⟩⟩
theorem putC_perm {L M : List (Int × C)} (h : L.Perm M) (a : Int) (c : C) : (putC L a c).Perm (putC M a c) := by
 unfold putC
 rw [any_perm h]
 split
 ·exact h.map _
 ·exact h.append (List.Perm.refl _)
theorem at_eq {u v : U} (h : Ueq u v) (hn : (u.cells.map (·.1)).Nodup) (a : Int) : u.at a = v.at a := by
 unfold U.at; rw [h.l, lookC_perm h.cells hn]
theorem cur_eq {u v : U} (h : Ueq u v) (e : Int) : u.cur e = v.cur e := by unfold U.cur; rw [h.e]
theorem asks_eq {u v : U} (h : Ueq u v) (e : Int) (f : Bool) : u.asks e f = v.asks e f := by unfold U.asks; rw [cur_eq h]
theorem utail_eq {u v : U} (h : Ueq u v) : u.tail = v.tail := by unfold U.tail; rw [h.l, tail_perm h.cells]
theorem seal_eq {u v : U} (h : Ueq u v) (e : Int) : (u.sealE e).1 = (v.sealE e).1 ∧ (u.sealE e).2.1 = (v.sealE e).2.1 ∧ Ueq (u.sealE e).2.2 (v.sealE e).2.2 := by
 unfold U.sealE
 rw [h.e, utail_eq h]
 split
 ·exact ⟨rfl, rfl, h⟩
 ·split
  ·exact ⟨rfl, rfl, h⟩
  ·exact ⟨rfl, rfl, rfl, h.l, h.cells⟩
theorem write_eq {u v : U} (h : Ueq u v) (hn : (u.cells.map (·.1)).Nodup) (e a : Int) (d : List UInt8) : (u.write e a d).1 = (v.write e a d).1 ∧ Ueq (u.write e a d).2 (v.write e a d).2 := by
 unfold U.write
 rw [cur_eq h, at_eq h hn]
 repeat' split
 all_goals first | exact ⟨rfl, h⟩ | exact ⟨rfl, h.e, h.l, putC_perm h.cells _ _⟩
theorem fill_eq {u v : U} (h : Ueq u v) (hn : (u.cells.map (·.1)).Nodup) (e a : Int) : (u.fill e a).1 = (v.fill e a).1 ∧ Ueq (u.fill e a).2 (v.fill e a).2 := by
 unfold U.fill
 rw [asks_eq h, at_eq h hn]
 repeat' split
 all_goals first | exact ⟨rfl, h⟩ | exact ⟨rfl, h.e, h.l, putC_perm h.cells _ _⟩
theorem trim_eq {u v : U} (h : Ueq u v) (e b : Int) : (u.trim e b).1 = (v.trim e b).1 ∧ Ueq (u.trim e b).2 (v.trim e b).2 := by
 unfold U.trim
 rw [asks_eq h, h.l]
 split
 ·exact ⟨rfl, h⟩
 ·exact ⟨rfl, h.e, rfl, h.cells.filter _⟩
theorem cut_eq {u v : U} (h : Ueq u v) (e f : Int) : (u.cut e f).1 = (v.cut e f).1 ∧ (u.cut e f).2.1 = (v.cut e f).2.1 ∧ Ueq (u.cut e f).2.2 (v.cut e f).2.2 := by
 unfold U.cut
 rw [asks_eq h, h.l]
 split
 ·exact ⟨rfl, rfl, h⟩
 ·split
  ·exact ⟨rfl, rfl, h⟩
  ·refine ⟨rfl, ?_, h.e, rfl, h.cells.filter _⟩
   show (u.cells.length : Int) - _ = (v.cells.length : Int) - _
   rw [h.cells.length_eq, (h.cells.filter _).length_eq]
theorem ap_eq {u v : U} (h : Ueq u v) (hn : (u.cells.map (·.1)).Nodup) (x : Ac) : (apU u x).1 = (apU v x).1 ∧ (apU u x).2.1 = (apU v x).2.1 ∧ Ueq (apU u x).2.2 (apU v x).2.2 := by
 have h1 := seal_eq h x.e
 have h2 := write_eq h hn x.e x.a x.d
 have h3 := fill_eq h hn x.e x.a
 have h4 := trim_eq h x.e x.a
 have h5 := cut_eq h x.e x.a
 unfold apU
 repeat' split
 all_goals first | exact ⟨rfl, rfl, h⟩ | exact h1 | exact h5 | exact ⟨h2.1, rfl, h2.2⟩ | exact ⟨h3.1, rfl, h3.2⟩ | exact ⟨h4.1, rfl, h4.2⟩
end SH
end Go.Proofs.YtpckcpmohcianaaGreatDoor

namespace Go.Proofs.YtpckcpmohcianaaGreatDoor
open Go.RowKit
set_option maxHeartbeats 8000000 in
theorem rapply1_any (m : U) (ad : Option Addr) (cap : Nat) (x : Ac) (w : World) (h : RList w (.slice ad m.cells.length cap) m.cells) (hu : ∀ p ∈ m.cells, 0 ≤ p.1 ∧ p.1 < 1048576) (hl : x.d.length ≤ 1099511627776) (hck : x.check = 0) (hk : x.k = 1) :
  Calls Tryz.prog 86 #[ruV m ad cap, d9V x] w (RTUN (m.rSeal x.e).1 (m.rSeal x.e).2.1 (m.rSeal x.e).2.2 w) := by
 have HL := Lib.hid' h
 have HUB := Lib.hid' hu
 have HCK := Zh (fun wq => refcheck_any x (by omega) wq)
 obtain ⟨ck, hck2⟩ : ∃ ck, ck = x.check := ⟨_, rfl⟩
 rw [← hck2] at HCK
 have h0 : ck = 0 := hck2.trans hck
 have g1 := (Ac.check_ok (x := x) hck).1
 have g2 := (Ac.check_ok (x := x) hck).2.1
 clear hck2 hck h hu
 unfold d9V at HCK ⊢
 unfold ruV
 have hcb : ((ck : Int) != 0) = false := by rw [bne_eq_false_iff_eq]; omega
 clear h0
 have b1 : (x.k == 1) = true := by rw [beq_iff_eq]; omega
 clear hk
 have HCT := Zh (fun wq hq => rSeal_any m ad cap x.e wq hq HUB.out)
 obtain ⟨y, hy⟩ : ∃ y, y = m.rSeal x.e := ⟨_, rfl⟩
 rw [← hy] at HCT ⊢
 clear hy
 obtain ⟨yt, yu, yn⟩ := y
 simp only at HCT ⊢
 go_enter Tryz.func86, Tryz.ntmps86
 go_wp2_with fail
 have H0 : Sep w NoF [] w := Sep.start _
 have H1 : Sep w NoF [.box (w.heap.size + 2) [.int .i64 0, .int .i64 0, .slice none 0 0] 128, .box (w.heap.size + 1) [.int .i64 x.k, .int .i64 x.e, .int .i64 x.a, .string (strOf x.d)] 136, .box (w.heap.size) [.int .i64 m.e, .int .i64 m.l, .slice ad m.cells.length cap] 128] ((((w.alloc (.cells #[.int .i64 m.e, .int .i64 m.l, .slice ad m.cells.length cap] 128)).alloc (.cells #[.int .i64 x.k, .int .i64 x.e, .int .i64 x.a, .string (strOf x.d)] 136)).alloc (.cells #[.int .i64 0, .int .i64 0, .slice none 0 0] 128))) := (((H0.allocAt (w.heap.size) [.int .i64 m.e, .int .i64 m.l, .slice ad m.cells.length cap] 128 (by simp)).allocAt (w.heap.size + 1) [.int .i64 x.k, .int .i64 x.e, .int .i64 x.a, .string (strOf x.d)] 136 (by simp)).allocAt (w.heap.size + 2) [.int .i64 0, .int .i64 0, .slice none 0 0] 128 (by simp))
 clear H0
 generalize (((w.alloc (.cells #[.int .i64 m.e, .int .i64 m.l, .slice ad m.cells.length cap] 128)).alloc (.cells #[.int .i64 x.k, .int .i64 x.e, .int .i64 x.a, .string (strOf x.d)] 136)).alloc (.cells #[.int .i64 0, .int .i64 0, .slice none 0 0] 128)) = w1 at *
 have Xc0 := H1.cell 1 rfl 0 rfl
 have Xc1 := H1.cell 1 rfl 1 rfl
 have Xc2 := H1.cell 1 rfl 2 rfl
 have Xc3 := H1.cell 1 rfl 3 rfl
 have Xl := H1.lt 1 rfl
 go_wp2_with fail
 refine (HCK.out w1).mono ?_
 rintro e w2 ⟨rfl, hb2⟩
 have H2 : Sep w NoF [.box (w.heap.size + 2) [.int .i64 0, .int .i64 0, .slice none 0 0] 128, .box (w.heap.size + 1) [.int .i64 x.k, .int .i64 x.e, .int .i64 x.a, .string (strOf x.d)] 136, .box (w.heap.size) [.int .i64 m.e, .int .i64 m.l, .slice ad m.cells.length cap] 128] (w2) := (H1.below hb2)
 clear Xc0 Xc1 Xc2 Xc3 Xl
 clear H1 hb2
 have HL2 := Zh (HL.out.below (Nat.le_refl _) H2.toBelow)
 have Mc0 := H2.cell 2 rfl 0 rfl
 have Mc1 := H2.cell 2 rfl 1 rfl
 have Mc2 := H2.cell 2 rfl 2 rfl
 have Mf0 := H2.free 2 rfl 0
 have Mf1 := H2.free 2 rfl 1
 have Mf2 := H2.free 2 rfl 2
 have Ml := H2.lt 2 rfl
 have Xc0 := H2.cell 1 rfl 0 rfl
 have Xc1 := H2.cell 1 rfl 1 rfl
 have Xc2 := H2.cell 1 rfl 2 rfl
 have Xc3 := H2.cell 1 rfl 3 rfl
 have Xl := H2.lt 1 rfl
 have Rc0 := H2.cell 0 rfl 0 rfl
 have Rc1 := H2.cell 0 rfl 1 rfl
 have Rc2 := H2.cell 0 rfl 2 rfl
 have Rf0 := H2.free 0 rfl 0
 have Rf1 := H2.free 0 rfl 1
 have Rf2 := H2.free 0 rfl 2
 have Rl := H2.lt 0 rfl
 have MnX := H2.ne 2 1 rfl rfl (by decide)
 have MnR := H2.ne 2 0 rfl rfl (by decide)
 have XnM := H2.ne 1 2 rfl rfl (by decide)
 have XnR := H2.ne 1 0 rfl rfl (by decide)
 have RnM := H2.ne 0 2 rfl rfl (by decide)
 have RnX := H2.ne 0 1 rfl rfl (by decide)
 go_wp2_with fail
 refine (HCT.out _ HL2.out).mono ?_
 rintro en w3 ⟨ay, cy, rfl, hly, hb3⟩
 have HLY := Lib.hid' hly
 clear hly
 unfold ruV
 have H3 : Sep w NoF [.box (w.heap.size + 2) [.int .i64 0, .int .i64 0, .slice none 0 0] 128, .box (w.heap.size + 1) [.int .i64 x.k, .int .i64 x.e, .int .i64 x.a, .string (strOf x.d)] 136, .box (w.heap.size) [.int .i64 m.e, .int .i64 m.l, .slice ad m.cells.length cap] 128] (w3) := (H2.below hb3)
 clear Mc0 Mc1 Mc2 Mf0 Mf1 Mf2 Ml Xc0 Xc1 Xc2 Xc3 Xl Rc0 Rc1 Rc2 Rf0 Rf1 Rf2 Rl MnX MnR XnM XnR RnM RnX
 clear H2 hb3
 have Mc0 := H3.cell 2 rfl 0 rfl
 have Mc1 := H3.cell 2 rfl 1 rfl
 have Mc2 := H3.cell 2 rfl 2 rfl
 have Ml := H3.lt 2 rfl
 have Rc0 := H3.cell 0 rfl 0 rfl
 have Rc1 := H3.cell 0 rfl 1 rfl
 have Rc2 := H3.cell 0 rfl 2 rfl
 have Rf0 := H3.free 0 rfl 0
 have Rf1 := H3.free 0 rfl 1
 have Rf2 := H3.free 0 rfl 2
 have Rl := H3.lt 0 rfl
 have MnR := H3.ne 2 0 rfl rfl (by decide)
 have RnM := H3.ne 0 2 rfl rfl (by decide)
 have HBX := Zh (H3.box 0 rfl)
 have HBB := Lib.hid' H3.toBelow
 go_wp2
 refine bodyPost_ret (v := .tuple #[.int .i64 yt, .agg #[.int .i64 yu.e, .int .i64 yu.l, .slice ay yu.cells.length cy], .int .i64 (yn : Nat)]) (by simp [results, Tryz.results86, go_sem, Rc0, Rc1, Rc2]) rfl ?_
 exact res3 HBX.out HLY.out HBB.out (by omega)
theorem refput1_any (x : Ac) (hc : x.check = 0) (hk0 : x.k = 1) (w : World) : Calls Tryz.prog 88 #[d9V x] w (OwnR w.heap.size 5 1 x.put.length (byteVs x.put) w) := by
 obtain ⟨g1, g2, g3, g4, g5, g6, g7, g8, g9⟩ := Ac.check_ok hc
 have htl := Ac.text_len hc
 have HTX := Zh (show x.put = frameB x.text from rfl)
 have HTY := Zh (show x.text = vb x.k.toNat ++ vb x.e.toNat ++ (if 1 < x.k then vb x.a.toNat else []) ++ (if x.k = 2 then headB x.d else []) from rfl)
 clear hc
 have HF := Zh (fun (a : Option Addr) (c : Nat) (w : World) (h : Bytes w (.slice a x.text.length c) x.text) => rFrame_any x.text a c w h (by omega))
 rw [← HTX.out] at HF
 clear HTX
 obtain ⟨tx, htx⟩ : ∃ t, t = x.text := ⟨_, rfl⟩
 obtain ⟨pb, hpb⟩ : ∃ p, p = x.put := ⟨_, rfl⟩
 rw [← htx] at HF htl HTY
 rw [← hpb] at HF ⊢
 clear htx hpb
 have hkx := Lib.hid' hk0
 clear hk0
 obtain ⟨k, e, ad, d⟩ := x
 unfold d9V
 simp only at g1 g2 g3 g4 g5 g6 g7 g8 g9 HTY hkx ⊢
 obtain ⟨kn, rfl⟩ : ∃ n : Nat, k = n := ⟨k.toNat, by omega⟩
 obtain ⟨en, rfl⟩ : ∃ n : Nat, e = n := ⟨e.toNat, by omega⟩
 obtain ⟨an, rfl⟩ : ∃ n : Nat, ad = n := ⟨ad.toNat, by omega⟩
 clear g8 g9
 simp only [Int.toNat_natCast] at HTY
 have kc := fun (w : World) (s : ByteArray) => Lib.run_convert_string_bytes (P := Tryz.prog) w 9 45 5 s Tryz.underlying9 Tryz.underlying45 Tryz.underlying5
 go_enter Tryz.func88, Tryz.ntmps88
 go_wp2_with fail
 have hz0 : (w.alloc (.cells #[.int .i64 (kn : Int), .int .i64 (en : Int), .int .i64 (an : Int), .string (strOf d)] 136)).heap.size = w.heap.size + 1 := by simp
 have HG0 := Zh (show Below w.heap.size w (w.alloc (.cells #[.int .i64 (kn : Int), .int .i64 (en : Int), .int .i64 (an : Int), .string (strOf d)] 136)) by go_grown)
 have HX0 := Zh (BoxW.start w [.int .i64 (kn : Int), .int .i64 (en : Int), .int .i64 (an : Int), .string (strOf d)] 136)
 generalize (w.alloc (.cells #[.int .i64 (kn : Int), .int .i64 (en : Int), .int .i64 (an : Int), .string (strOf d)] 136)) = w0 at *
 refine wp_region_held_drew (S := (fun w' => w'.cell? ⟨w.heap.size, 0, none⟩ = some (.int .i64 (kn : Int)) ∧ w'.cell? ⟨w.heap.size, 1, none⟩ = some (.int .i64 (en : Int)))) (by kernel_rfl) ⟨HX0.out.box.1 0 _ rfl, HX0.out.box.1 1 _ rfl⟩ (fun hH0 => ?_)
 refine tA 0 (.pointer (some ⟨w.heap.size, 0, none⟩)) rfl hH0 ?_ ?_
 ·intro w hSw; go_simp
 simp only [Act.put, gA, gZ, gS, sA, sZ, sS]
 refine tA 1 (.int .i64 (kn : Int)) rfl hH0 ?_ ?_
 ·intro w hSw; go_simp
 simp only [Act.put, gA, gZ, gS, sA, sZ, sS]
 refine tA 2 (.int .u64 (kn : Int)) rfl hH0 ?_ ?_
 ·intro w hSw; go_simp; exact wraps_u64 _ (by omega) (by omega)
 simp only [Act.put, gA, gZ, gS, sA, sZ, sS]
 refine tA 4 (.pointer (some ⟨w.heap.size, 1, none⟩)) rfl hH0 ?_ ?_
 ·intro w hSw; go_simp
 simp only [Act.put, gA, gZ, gS, sA, sZ, sS]
 refine tA 5 (.int .i64 (en : Int)) rfl hH0 ?_ ?_
 ·intro w hSw; go_simp
 simp only [Act.put, gA, gZ, gS, sA, sZ, sS]
 refine tA 6 (.int .u64 (en : Int)) rfl hH0 ?_ ?_
 ·intro w hSw; go_simp; exact wraps_u64 _ (by omega) (by omega)
 simp only [Act.put, gA, gZ, gS, sA, sZ, sS]
 refine rD 3 rfl (fun K hK => ?_)
 go_simp
 refine (rBytes_any kn (by omega) w0.drew).mono ?_
 rintro e1 w1 ⟨a1, c1, rfl, ho1, hb1⟩
 have HX1 := Zh (HX0.out.drew.below (Nat.le_refl _) hb1)
 have hz1 : w.heap.size + 1 ≤ w1.heap.size := by have := hb1.size; rw [← hz0]; exact this
 have hle0 : w.heap.size ≤ w0.heap.size := by omega
 have hd0 : Below w0.heap.size w0 w0.drew := Below.drew (Below.refl _ w0)
 have HG1 := Zh (show Below w.heap.size w w1 from HG0.out.trans ((hd0.mono hle0).trans (hb1.mono hle0)))
 clear hle0 hd0
 have HO1 := Zh (own_base (B' := w.heap.size + 1) ho1 (by show w.heap.size + 1 ≤ w0.heap.size; omega))
 clear ho1 hb1 HX0 HG0
 refine hK.out _ _ ?_ (fun hH1 => ?_)
 ·exact ⟨HX1.out.box.1 0 _ rfl, HX1.out.box.1 1 _ rfl⟩
 clear hK K
 refine rD 7 rfl (fun K hK => ?_)
 go_simp
 refine (rBytes_any en (by omega) w1).mono ?_
 rintro e2 w2 ⟨a2, c2, rfl, ho2, hb2⟩
 have HX2 := Zh (HX1.out.below (Nat.le_refl _) hb2)
 have hz2 : w.heap.size + 1 ≤ w2.heap.size := by have := hb2.size; omega
 have HG2 := Zh (HG1.out.trans (hb2.mono (by omega)))
 have HO2 := Zh (own_below HO1.out (Nat.le_refl _) hb2)
 have HE2 := Zh (show Bytes w2 (.slice a2 (vb en).length c2) (vb en) from SlV.of_own ho2)
 clear ho2 hb2 HX1 HG1 HO1
 have hlk := vb_len10 (n := kn) (by omega)
 have hle := vb_len10 (n := en) (by omega)
 have hpe := pos_vb en
 refine hK.out _ _ ?_ (fun hH2 => ?_)
 ·exact ⟨HX2.out.box.1 0 _ rfl, HX2.out.box.1 1 _ rfl⟩
 clear hK K
 refine rD 8 rfl (fun K hK => ?_)
 refine step_sl etBytes rfl (.tmp 7) (.tmp 11) rfl (w.heap.size + 1) (vb kn).length (byteVs (vb kn)) _ rfl HO2.out (vb en).length (byteVs (vb en)) _ rfl HE2.out (by simp [byteVs]) (byteVs_one _) hpe (by omega) hz2 ?_
 intro a3 c3 w3 ho3 hf3
 have HX3 := Zh (HX2.out.fr hf3 (own_not_box HO2.out HX2.out (by decide)))
 have HG3 := Zh (hf3.row HO2.out (by omega) (by omega) HG2.out)
 have hz3 : w.heap.size + 1 ≤ w3.heap.size := by have := hf3.size; omega
 obtain ⟨r3, hr3⟩ : ∃ r, r = vb kn ++ vb en := ⟨_, rfl⟩
 have HR3 := Lib.hid' hr3
 have HL3 := Zh (show (vb kn).length + (vb en).length = r3.length by rw [hr3, List.length_append])
 rw [← byteVs_append, ← hr3, HL3.out] at ho3
 rw [HL3.out]
 have hl3 : r3.length ≤ 20 := by rw [← HL3.out]; omega
 have HO3 := Lib.hid' ho3
 clear ho3 hf3 hr3 HX2 HG2 HO2 HE2 HL3 hlk hle hpe
 refine hK.out _ _ ?_ (fun hH3 => ?_)
 ·exact ⟨HX3.out.box.1 0 _ rfl, HX3.out.box.1 1 _ rfl⟩
 clear hK K
 refine tA 9 (.slice a3 r3.length c3) rfl hH3 ?_ ?_
 ·intro w hSw; go_simp
 simp only [Act.put, gA, gZ, gS, sA, sZ, sS]
 refine wpAnyH_done (by kernel_rfl) ?_ _
 have hx0 := HX3.out.box.1 0 _ rfl
 have hx1 := HX3.out.box.1 1 _ rfl
 have hx2 := HX3.out.box.1 2 _ rfl
 have hx3 := HX3.out.box.1 3 _ rfl
 have hk1 : ¬ (1 : Int) < kn := by have := hkx.out; omega
 have b2 : ((kn : Int) == 2) = false := by rw [beq_eq_false_iff_ne]; omega
 have HK1 := Lib.hid' hk1
 go_wp2_with fail
 have HTT := Zh (show tx = r3 from by rw [HTY.out, HR3.out, if_neg (by have := HK1.out; omega), if_neg (by have := HK1.out; omega)]; simp)
 rw [HTT.out] at HF
 refine (HF.out a3 c3 w3 (SlV.of_own HO3.out)).mono ?_
 rintro e8 w8 ⟨a8, c8, rfl, ho8, hb8⟩
 have HO8 := Zh (own_base (B' := w.heap.size) ho8 (by omega))
 have HG8 := Zh (HG3.out.trans (hb8.mono (by omega)))
 clear ho8 hb8
 go_wp2_with fail
 go_ret
 exact ⟨a8, c8, rfl, HO8.out, HG8.out⟩
end Go.Proofs.YtpckcpmohcianaaGreatDoor
