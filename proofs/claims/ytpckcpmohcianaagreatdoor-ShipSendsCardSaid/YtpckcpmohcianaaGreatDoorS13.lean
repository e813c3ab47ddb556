/- Proved here: a part of the proof (13 of 34). -/
import Derived.Test.YtpckcpmohcianaaGreatDoorS7
import Derived.Lib.ConvBytes
import Derived.Lib.AtoiErrMem
set_option linter.unusedSimpArgs false
set_option linter.unusedVariables false
set_option maxRecDepth 100000
namespace Go.Proofs.YtpckcpmohcianaaGreatDoor
open Go.RowKit

theorem fr_own {w w' : World} {row : Option Nat} (hg : w.grownBy w' row) : Fr (fun k => row = some k) w w' := ⟨hg.os, hg.tape, hg.output, hg.size, fun k hk hn => hg.block k hk (fun e => hn e.symm)⟩
/-- 'append(out, xs...)' as one step of a region that draws its order -/
theorem step_sl {P : Program} {t e size bytes : Nat} (T : ElemT P t e size bytes) {w : World} {ops : Array Oper} {o : Oper} {a : Act} {K : Act → World → Prop} {Q : Exit → Act → World → Prop} {Z : Prop} (hgd : o.guard = none) (s x : Operand)
  (ho : o.op = .call { callee := .builtin .append, args := #[s, x], argTypes := #[t, t] })
  (base n : Nat) (xs : List Value) (v : Value) (hs : a.eval s = v) (hown : w.ownsRow base e size v n xs)
  (m : Nat) (news : List Value) (y : Value) (hx : a.eval x = y) (hsrc : SlV w y m news) (hl : news.length = m * size) (h1 : ∀ u ∈ news, u.oneCell' = true) (hm : 0 < m)
  (hbytes : (n + m) * bytes ≤ 140737488355328) (hbase : base ≤ w.heap.size)
  (h : ∀ a' c' w', w'.ownsRow base e size (.slice a' (n + m) c') (n + m) (xs ++ news) → Fr (fun k => v.ownBlock = some k) w w' → K (a.put o.dst (.slice a' (n + m) c')) w') :
  if Region.wanted o (yielded ops a.tmps) = true then Oper.wp P o a w K Q else Z := by
 obtain ⟨i, z, a1, a2, a3, a4, a5⟩ := T.info
 have hpos := T.posb
 have hml : n + m ≤ maxLen := by
  have : (n + m) * 1 ≤ (n + m) * bytes := Nat.mul_le_mul_left _ hpos
  unfold maxLen; omega
 obtain ⟨ao, c, rfl, k1, k2, k0, k3⟩ := hsrc
 have hn0 : 0 < news.length := by rw [hl]; exact Nat.mul_pos hm T.pos
 obtain ⟨ad, rfl, _⟩ := k3 0 news[0] (by simp)
 exact step_append_lies w hgd s x t ho base e i z size bytes T.under a1 a2 a3 a4 a5 T.pos v n xs hs hown ad m c news hx hl
  (fun j u hu => by obtain ⟨p, hp, hc⟩ := k3 j u hu; cases hp; exact hc) h1 hm hml hbytes hbase _ rfl (fun g cap w' r1 r2 _ _ => h _ _ w' r1 (fr_own r2))

def d9V (x : Ac) : Value := .agg #[.int .i64 x.k, .int .i64 x.e, .int .i64 x.a, .string (strOf x.d)]
set_option maxHeartbeats 4000000 in
theorem refcheck_any (x : Ac) (hl : x.d.length ≤ 9223372036854775807) (w : World) : Calls Tryz.prog 119 #[d9V x] w fun e w' => e = .returned (.int .i64 x.check) ∧ Below w.heap.size w w' := by
 obtain ⟨k, e, ad, d⟩ := x
 unfold d9V
 simp only at hl ⊢
 have hs := strOf_size d
 by_cases g0 : k < 1
 ·skip
  have HV := Zh (show (Ac.mk k e ad d).check = 1 from if_pos (by show k < 1 ∨ 5 < k ∨ e < 0 ∨ 1099511627776 < e ∨ ad < 0 ∨ 1048576 < ad; omega))
  go_enter Tryz.func119, Tryz.ntmps119
  go_wp2
  go_ret
  exact ⟨ret_eq (by rw [HV.out]; rfl), by go_grown⟩
 by_cases g1 : 5 < k
 ·skip
  have HV := Zh (show (Ac.mk k e ad d).check = 1 from if_pos (by show k < 1 ∨ 5 < k ∨ e < 0 ∨ 1099511627776 < e ∨ ad < 0 ∨ 1048576 < ad; omega))
  go_enter Tryz.func119, Tryz.ntmps119
  go_wp2
  go_ret
  exact ⟨ret_eq (by rw [HV.out]; rfl), by go_grown⟩
 by_cases g2 : e < 0
 ·skip
  have HV := Zh (show (Ac.mk k e ad d).check = 1 from if_pos (by show k < 1 ∨ 5 < k ∨ e < 0 ∨ 1099511627776 < e ∨ ad < 0 ∨ 1048576 < ad; omega))
  go_enter Tryz.func119, Tryz.ntmps119
  go_wp2
  go_ret
  exact ⟨ret_eq (by rw [HV.out]; rfl), by go_grown⟩
 by_cases g3 : 1099511627776 < e
 ·skip
  have HV := Zh (show (Ac.mk k e ad d).check = 1 from if_pos (by show k < 1 ∨ 5 < k ∨ e < 0 ∨ 1099511627776 < e ∨ ad < 0 ∨ 1048576 < ad; omega))
  go_enter Tryz.func119, Tryz.ntmps119
  go_wp2
  go_ret
  exact ⟨ret_eq (by rw [HV.out]; rfl), by go_grown⟩
 by_cases g4 : ad < 0
 ·skip
  have HV := Zh (show (Ac.mk k e ad d).check = 1 from if_pos (by show k < 1 ∨ 5 < k ∨ e < 0 ∨ 1099511627776 < e ∨ ad < 0 ∨ 1048576 < ad; omega))
  go_enter Tryz.func119, Tryz.ntmps119
  go_wp2
  go_ret
  exact ⟨ret_eq (by rw [HV.out]; rfl), by go_grown⟩
 by_cases g5 : 1048576 < ad
 ·skip
  have HV := Zh (show (Ac.mk k e ad d).check = 1 from if_pos (by show k < 1 ∨ 5 < k ∨ e < 0 ∨ 1099511627776 < e ∨ ad < 0 ∨ 1048576 < ad; omega))
  go_enter Tryz.func119, Tryz.ntmps119
  go_wp2
  go_ret
  exact ⟨ret_eq (by rw [HV.out]; rfl), by go_grown⟩
 have HG := Zh (show (Ac.mk k e ad d).check = if (k = 2 ∨ k = 3) ∧ ad = 1048576 then 1 else if 64 < d.length then 3 else if k = 1 ∧ ad ≠ 0 ∨ k ≠ 2 ∧ 0 < d.length then 2 else 0 from if_neg (by show ¬ (k < 1 ∨ 5 < k ∨ e < 0 ∨ 1099511627776 < e ∨ ad < 0 ∨ 1048576 < ad); omega))
 have hmx : (ad == 1048576) = decide (ad = 1048576) := by by_cases h : ad = 1048576 <;> simp [h]
 have hz : (ad != 0) = decide (ad ≠ 0) := by by_cases h : ad = 0 <;> simp [h]
 by_cases hk : k = 1
 ·skip
  have b1 : (k == 1) = true := by rw [beq_iff_eq]; omega
  have b2 : (k == 2) = false := by rw [beq_eq_false_iff_ne]; omega
  have b3 : (k == 3) = false := by rw [beq_eq_false_iff_ne]; omega
  have c2 : (k != 2) = true := by rw [bne_iff_ne]; omega
  have HG2 := Zh (HG.out.trans (if_neg (by rintro ⟨h, _⟩; omega)))
  by_cases h64 : 64 < d.length
  ·have h64b : 64 < ((strOf d).size : Int) := by rw [hs]; omega
   have HV := Zh (show (Ac.mk k e ad d).check = 3 from HG2.out.trans (if_pos h64))
   clear hmx hz hk
   go_enter Tryz.func119, Tryz.ntmps119
   go_wp2
   go_ret
   exact ⟨ret_eq (by rw [HV.out]; rfl), by go_grown⟩
  have h64b : ¬ 64 < ((strOf d).size : Int) := by rw [hs]; omega
  have HG3 := Zh (HG2.out.trans (if_neg h64))
  by_cases h0 : ad = 0
  rotate_left
  ·have h0b : (ad != 0) = true := by rw [bne_iff_ne]; exact h0
   have HV := Zh (show (Ac.mk k e ad d).check = 2 from HG3.out.trans (if_pos (.inl ⟨by omega, h0⟩)))
   clear hmx hz h0 hk
   go_enter Tryz.func119, Tryz.ntmps119
   go_wp2
   go_ret
   exact ⟨ret_eq (by rw [HV.out]; rfl), by go_grown⟩
  have h0b : (ad != 0) = false := by rw [bne_eq_false_iff_eq]; exact h0
  by_cases hd : 0 < d.length
  ·have hdb : 0 < ((strOf d).size : Int) := by rw [hs]; omega
   have HV := Zh (show (Ac.mk k e ad d).check = 2 from HG3.out.trans (if_pos (.inr ⟨by omega, hd⟩)))
   clear hmx hz hk h0
   go_enter Tryz.func119, Tryz.ntmps119
   go_wp2
   go_ret
   exact ⟨ret_eq (by rw [HV.out]; rfl), by go_grown⟩
  have hdb : ¬ 0 < ((strOf d).size : Int) := by rw [hs]; omega
  have HV := Zh (show (Ac.mk k e ad d).check = 0 from HG3.out.trans (if_neg (by rintro (h | h); exact h.2 h0; exact hd h.2)))
  clear hmx hz hk h0
  go_enter Tryz.func119, Tryz.ntmps119
  go_wp2
  go_ret
  exact ⟨ret_eq (by rw [HV.out]; rfl), by go_grown⟩
 have hk1 := hk
 clear hk
 by_cases hk : k = 2
 ·skip
  have b1 : (k == 1) = false := by rw [beq_eq_false_iff_ne]; omega
  have b2 : (k == 2) = true := by rw [beq_iff_eq]; omega
  have b3 : (k == 3) = false := by rw [beq_eq_false_iff_ne]; omega
  have c2 : (k != 2) = false := by rw [bne_eq_false_iff_eq]; omega
  by_cases hm : ad = 1048576
  ·have hmb : (ad == 1048576) = true := by rw [beq_iff_eq]; exact hm
   have HV := Zh (show (Ac.mk k e ad d).check = 1 from HG.out.trans (if_pos ⟨by omega, hm⟩))
   clear hm hmx hz hk
   go_enter Tryz.func119, Tryz.ntmps119
   go_wp2
   go_ret
   exact ⟨ret_eq (by rw [HV.out]; rfl), by go_grown⟩
  have hmb : (ad == 1048576) = false := by rw [beq_eq_false_iff_ne]; exact hm
  have HG2 := Zh (HG.out.trans (if_neg (by rintro ⟨_, h⟩; exact hm h)))
  by_cases h64 : 64 < d.length
  ·have h64b : 64 < ((strOf d).size : Int) := by rw [hs]; omega
   have HV := Zh (show (Ac.mk k e ad d).check = 3 from HG2.out.trans (if_pos h64))
   clear hmx hz hk hm
   go_enter Tryz.func119, Tryz.ntmps119
   go_wp2
   go_ret
   exact ⟨ret_eq (by rw [HV.out]; rfl), by go_grown⟩
  have h64b : ¬ 64 < ((strOf d).size : Int) := by rw [hs]; omega
  have HG3 := Zh (HG2.out.trans (if_neg h64))
  have HV := Zh (show (Ac.mk k e ad d).check = 0 from HG3.out.trans (if_neg (by rintro (h | h); omega; exact h.1 hk)))
  clear hmx hz hk hm
  go_enter Tryz.func119, Tryz.ntmps119
  go_wp2
  go_ret
  exact ⟨ret_eq (by rw [HV.out]; rfl), by go_grown⟩
 have hk2 := hk
 clear hk
 by_cases hk : k = 3
 ·skip
  have b1 : (k == 1) = false := by rw [beq_eq_false_iff_ne]; omega
  have b2 : (k == 2) = false := by rw [beq_eq_false_iff_ne]; omega
  have b3 : (k == 3) = true := by rw [beq_iff_eq]; omega
  have c2 : (k != 2) = true := by rw [bne_iff_ne]; omega
  by_cases hm : ad = 1048576
  ·have hmb : (ad == 1048576) = true := by rw [beq_iff_eq]; exact hm
   have HV := Zh (show (Ac.mk k e ad d).check = 1 from HG.out.trans (if_pos ⟨by omega, hm⟩))
   clear hm hmx hz hk
   go_enter Tryz.func119, Tryz.ntmps119
   go_wp2
   go_ret
   exact ⟨ret_eq (by rw [HV.out]; rfl), by go_grown⟩
  have hmb : (ad == 1048576) = false := by rw [beq_eq_false_iff_ne]; exact hm
  have HG2 := Zh (HG.out.trans (if_neg (by rintro ⟨_, h⟩; exact hm h)))
  by_cases h64 : 64 < d.length
  ·have h64b : 64 < ((strOf d).size : Int) := by rw [hs]; omega
   have HV := Zh (show (Ac.mk k e ad d).check = 3 from HG2.out.trans (if_pos h64))
   clear hmx hz hk hm
   go_enter Tryz.func119, Tryz.ntmps119
   go_wp2
   go_ret
   exact ⟨ret_eq (by rw [HV.out]; rfl), by go_grown⟩
  have h64b : ¬ 64 < ((strOf d).size : Int) := by rw [hs]; omega
  have HG3 := Zh (HG2.out.trans (if_neg h64))
  by_cases hd : 0 < d.length
  ·have hdb : 0 < ((strOf d).size : Int) := by rw [hs]; omega
   have HV := Zh (show (Ac.mk k e ad d).check = 2 from HG3.out.trans (if_pos (.inr ⟨by omega, hd⟩)))
   clear hmx hz hk hm
   go_enter Tryz.func119, Tryz.ntmps119
   go_wp2
   go_ret
   exact ⟨ret_eq (by rw [HV.out]; rfl), by go_grown⟩
  have hdb : ¬ 0 < ((strOf d).size : Int) := by rw [hs]; omega
  have HV := Zh (show (Ac.mk k e ad d).check = 0 from HG3.out.trans (if_neg (by rintro (h | h); omega; exact hd h.2)))
  clear hmx hz hk hm
  go_enter Tryz.func119, Tryz.ntmps119
  go_wp2
  go_ret
  exact ⟨ret_eq (by rw [HV.out]; rfl), by go_grown⟩
 have hk3 := hk
 clear hk
 have hk : True := trivial
 have b1 : (k == 1) = false := by rw [beq_eq_false_iff_ne]; omega
 have b2 : (k == 2) = false := by rw [beq_eq_false_iff_ne]; omega
 have b3 : (k == 3) = false := by rw [beq_eq_false_iff_ne]; omega
 have c2 : (k != 2) = true := by rw [bne_iff_ne]; omega
 have HG2 := Zh (HG.out.trans (if_neg (by rintro ⟨h, _⟩; omega)))
 by_cases h64 : 64 < d.length
 ·have h64b : 64 < ((strOf d).size : Int) := by rw [hs]; omega
  have HV := Zh (show (Ac.mk k e ad d).check = 3 from HG2.out.trans (if_pos h64))
  clear hmx hz hk
  go_enter Tryz.func119, Tryz.ntmps119
  go_wp2
  go_ret
  exact ⟨ret_eq (by rw [HV.out]; rfl), by go_grown⟩
 have h64b : ¬ 64 < ((strOf d).size : Int) := by rw [hs]; omega
 have HG3 := Zh (HG2.out.trans (if_neg h64))
 by_cases hd : 0 < d.length
 ·have hdb : 0 < ((strOf d).size : Int) := by rw [hs]; omega
  have HV := Zh (show (Ac.mk k e ad d).check = 2 from HG3.out.trans (if_pos (.inr ⟨by omega, hd⟩)))
  clear hmx hz hk
  go_enter Tryz.func119, Tryz.ntmps119
  go_wp2
  go_ret
  exact ⟨ret_eq (by rw [HV.out]; rfl), by go_grown⟩
 have hdb : ¬ 0 < ((strOf d).size : Int) := by rw [hs]; omega
 have HV := Zh (show (Ac.mk k e ad d).check = 0 from HG3.out.trans (if_neg (by rintro (h | h); omega; exact hd h.2)))
 clear hmx hz hk
 go_enter Tryz.func119, Tryz.ntmps119
 go_wp2
 go_ret
 exact ⟨ret_eq (by rw [HV.out]; rfl), by go_grown⟩
theorem pos_vb (n : Nat) : 0 < (vb n).length := List.length_pos_iff.2 (vb_ne n)
end Go.Proofs.YtpckcpmohcianaaGreatDoor
