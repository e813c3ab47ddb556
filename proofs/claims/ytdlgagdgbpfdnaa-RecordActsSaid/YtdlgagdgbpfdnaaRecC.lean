/- Layer 9 (record): the document's Check, Put; holdfastlaw09.Document. -/
import Derived.Test.YtdlgagdgbpfdnaaRecB
import Derived.Lib.ConvBytes
import Derived.Lib.AtoiErrMem
namespace Go.Proofs.Ytdlgagdgbpfdnaa
open Go.RowKit
set_option linter.unusedSimpArgs false
set_option linter.unusedVariables false
set_option maxRecDepth 100000

theorem fr_own {w w' : World} {row : Option Nat} (hg : w.grownBy w' row) : Fr (fun k => row = some k) w w' := ⟨hg.os, hg.tape, hg.output, hg.size, fun k hk hn => hg.block k hk (fun e => hn e.symm)⟩
/-- 'append(out, xs...)' as one step of a region that draws its order -/
theorem step_sl {P : Program} {t e size bytes : Nat} (T : ElemT P t e size bytes) {w : World} {ops : Array Oper} {o : Oper} {a : Act} {K : Act → World → Prop} {Q : Exit → Act → World → Prop} {Z : Prop} (hgd : o.guard = none) (s x : Operand)
    (ho : o.op = .call { callee := .builtin .append, args := #[s, x], argTypes := #[t, t] })
    (base n : Nat) (xs : List Value) (v : Value) (hs : a.eval s = v) (hown : w.ownsRow base e size v n xs)
    (m : Nat) (news : List Value) (y : Value) (hx : a.eval x = y) (hsrc : SlV w y m news) (hl : news.length = m * size) (h1 : ∀ u ∈ news, u.oneCell' = true) (hm : 0 < m)
    (hbytes : (n + m) * bytes ≤ 140737488355328) (hbase : base ≤ w.heap.size)
    (h : ∀ a' c' w', w'.ownsRow base e size (.slice a' (n + m) c') (n + m) (xs ++ news) → Fr (fun k => v.ownBlock = some k) w w' → K (a.put o.dst (.slice a' (n + m) c')) w') :
    if Region.wanted o (yielded ops a.tmps) = true then Oper.wp P o a w K Q else Z := by
  obtain ⟨i, z, a1, a2, a3, a4, a5⟩ := T.info
  have hpos := T.posb
  have hml : n + m ≤ maxLen := by
    have : (n + m) * 1 ≤ (n + m) * bytes := Nat.mul_le_mul_left _ hpos
    unfold maxLen; omega
  obtain ⟨ao, c, rfl, k1, k2, k0, k3⟩ := hsrc
  have hn0 : 0 < news.length := by rw [hl]; exact Nat.mul_pos hm T.pos
  obtain ⟨ad, rfl, _⟩ := k3 0 news[0] (by simp)
  exact step_append_lies w hgd s x t ho base e i z size bytes T.under a1 a2 a3 a4 a5 T.pos v n xs hs hown ad m c news hx hl
    (fun j u hu => by obtain ⟨p, hp, hc⟩ := k3 j u hu; cases hp; exact hc) h1 hm hml hbytes hbase _ rfl (fun g cap w' r1 r2 _ _ => h _ _ w' r1 (fr_own r2))

def d9V (x : Ac) : Value := .agg #[.int .i64 x.k, .int .i64 x.e, .int .i64 x.a, .string (strOf x.d)]
theorem doc9_any (x : Ac) (a : Option Addr) (c : Nat) (w : World) (h : Bytes w (.slice a x.d.length c) x.d) : Calls Try.prog 9 #[ac9V x a c] w fun e w' => e = .returned (d9V x) ∧ Below w.heap.size w w' := by
  obtain ⟨k, e, ad, d⟩ := x
  unfold ac9V d9V
  simp only at h ⊢
  have HH := Lib.hid' h
  have h1 := fun o o' => run_string_of (P := Try.prog) 22 5 9 Try.underlying22 Try.underlying5 Try.underlying9 (w := (w.alloc o).alloc o') (SlV.below HH.out (Nat.le_refl _) (by go_grown))
  clear h
  go_enter Try.func9, Try.ntmps9
  go_wp2
  refine bodyPost_ret (v := .agg #[.int .i64 k, .int .i64 e, .int .i64 ad, .string (strOf d)]) (by simp [results, Try.results9, go_sem]) rfl ⟨rfl, ?_⟩
  go_grown
theorem bytes_conv (w : World) (d : List UInt8) (n : Nat) (hn : n = d.length) (hd : d.length ≤ 1073741824) : Bytes (Lib.bytesWorld w 5 (strOf d)) (.slice (some ⟨w.heap.size, 0, none⟩) n (grownCap w n 0 5)) d := by
  subst hn
  refine ⟨_, _, rfl, grownCap_ge _ _ _ _, grownCap_le_maxLen _ _ _ _ (by unfold maxLen; omega), by simp, fun j u hu => ⟨_, rfl, ?_⟩⟩
  have e1 : (Addr.add ⟨w.heap.size, 0, none⟩ j) = ⟨w.heap.size, j, none⟩ := by unfold Addr.add; split <;> simp_all
  have hj : j < d.length := by
    have := (List.getElem?_eq_some_iff.1 hu).1
    simpa [byteVs] using this
  rw [e1, Lib.bytesWorld_cell _ _ _ _ (by rw [strOf_size]; exact hj)]
  have e2 : (byteVs d)[j]? = some (byteV d[j]) := by simp [byteVs, hj]
  rw [e2] at hu
  rw [← hu]
  simp [strOf, List.getD, hj, byteV]

set_option maxHeartbeats 4000000 in
theorem refcheck_any (x : Ac) (hl : x.d.length ≤ 9223372036854775807) (w : World) : Calls Try.prog 10 #[d9V x] w fun e w' => e = .returned (.int .i64 x.check) ∧ Below w.heap.size w w' := by
  obtain ⟨k, e, ad, d⟩ := x
  unfold d9V
  simp only at hl ⊢
  have hs := strOf_size d
  by_cases g0 : k < 1
  · skip
    have HV := Lib.hid' (show (Ac.mk k e ad d).check = 1 from if_pos (by show k < 1 ∨ 5 < k ∨ e < 0 ∨ 1099511627776 < e ∨ ad < 0 ∨ 1048576 < ad; omega))
    go_enter Try.func10, Try.ntmps10
    go_wp2
    go_ret
    exact ⟨ret_eq (by rw [HV.out]; rfl), by go_grown⟩
  by_cases g1 : 5 < k
  · skip
    have HV := Lib.hid' (show (Ac.mk k e ad d).check = 1 from if_pos (by show k < 1 ∨ 5 < k ∨ e < 0 ∨ 1099511627776 < e ∨ ad < 0 ∨ 1048576 < ad; omega))
    go_enter Try.func10, Try.ntmps10
    go_wp2
    go_ret
    exact ⟨ret_eq (by rw [HV.out]; rfl), by go_grown⟩
  by_cases g2 : e < 0
  · skip
    have HV := Lib.hid' (show (Ac.mk k e ad d).check = 1 from if_pos (by show k < 1 ∨ 5 < k ∨ e < 0 ∨ 1099511627776 < e ∨ ad < 0 ∨ 1048576 < ad; omega))
    go_enter Try.func10, Try.ntmps10
    go_wp2
    go_ret
    exact ⟨ret_eq (by rw [HV.out]; rfl), by go_grown⟩
  by_cases g3 : 1099511627776 < e
  · skip
    have HV := Lib.hid' (show (Ac.mk k e ad d).check = 1 from if_pos (by show k < 1 ∨ 5 < k ∨ e < 0 ∨ 1099511627776 < e ∨ ad < 0 ∨ 1048576 < ad; omega))
    go_enter Try.func10, Try.ntmps10
    go_wp2
    go_ret
    exact ⟨ret_eq (by rw [HV.out]; rfl), by go_grown⟩
  by_cases g4 : ad < 0
  · skip
    have HV := Lib.hid' (show (Ac.mk k e ad d).check = 1 from if_pos (by show k < 1 ∨ 5 < k ∨ e < 0 ∨ 1099511627776 < e ∨ ad < 0 ∨ 1048576 < ad; omega))
    go_enter Try.func10, Try.ntmps10
    go_wp2
    go_ret
    exact ⟨ret_eq (by rw [HV.out]; rfl), by go_grown⟩
  by_cases g5 : 1048576 < ad
  · skip
    have HV := Lib.hid' (show (Ac.mk k e ad d).check = 1 from if_pos (by show k < 1 ∨ 5 < k ∨ e < 0 ∨ 1099511627776 < e ∨ ad < 0 ∨ 1048576 < ad; omega))
    go_enter Try.func10, Try.ntmps10
    go_wp2
    go_ret
    exact ⟨ret_eq (by rw [HV.out]; rfl), by go_grown⟩
  have HG := Lib.hid' (show (Ac.mk k e ad d).check = if (k = 2 ∨ k = 3) ∧ ad = 1048576 then 1 else if 64 < d.length then 3 else if k = 1 ∧ ad ≠ 0 ∨ k ≠ 2 ∧ 0 < d.length then 2 else 0 from if_neg (by show ¬ (k < 1 ∨ 5 < k ∨ e < 0 ∨ 1099511627776 < e ∨ ad < 0 ∨ 1048576 < ad); omega))
  have hmx : (ad == 1048576) = decide (ad = 1048576) := by by_cases h : ad = 1048576 <;> simp [h]
  have hz : (ad != 0) = decide (ad ≠ 0) := by by_cases h : ad = 0 <;> simp [h]
  by_cases hk : k = 1
  · skip
    have b1 : (k == 1) = true := by rw [beq_iff_eq]; omega
    have b2 : (k == 2) = false := by rw [beq_eq_false_iff_ne]; omega
    have b3 : (k == 3) = false := by rw [beq_eq_false_iff_ne]; omega
    have c2 : (k != 2) = true := by rw [bne_iff_ne]; omega
    have HG2 := Lib.hid' (HG.out.trans (if_neg (by rintro ⟨h, _⟩; omega)))
    by_cases h64 : 64 < d.length
    · have h64b : 64 < ((strOf d).size : Int) := by rw [hs]; omega
      have HV := Lib.hid' (show (Ac.mk k e ad d).check = 3 from HG2.out.trans (if_pos h64))
      clear hmx hz hk
      go_enter Try.func10, Try.ntmps10
      go_wp2
      go_ret
      exact ⟨ret_eq (by rw [HV.out]; rfl), by go_grown⟩
    have h64b : ¬ 64 < ((strOf d).size : Int) := by rw [hs]; omega
    have HG3 := Lib.hid' (HG2.out.trans (if_neg h64))
    by_cases h0 : ad = 0
    rotate_left
    · have h0b : (ad != 0) = true := by rw [bne_iff_ne]; exact h0
      have HV := Lib.hid' (show (Ac.mk k e ad d).check = 2 from HG3.out.trans (if_pos (.inl ⟨by omega, h0⟩)))
      clear hmx hz h0 hk
      go_enter Try.func10, Try.ntmps10
      go_wp2
      go_ret
      exact ⟨ret_eq (by rw [HV.out]; rfl), by go_grown⟩
    have h0b : (ad != 0) = false := by rw [bne_eq_false_iff_eq]; exact h0
    by_cases hd : 0 < d.length
    · have hdb : 0 < ((strOf d).size : Int) := by rw [hs]; omega
      have HV := Lib.hid' (show (Ac.mk k e ad d).check = 2 from HG3.out.trans (if_pos (.inr ⟨by omega, hd⟩)))
      clear hmx hz hk h0
      go_enter Try.func10, Try.ntmps10
      go_wp2
      go_ret
      exact ⟨ret_eq (by rw [HV.out]; rfl), by go_grown⟩
    have hdb : ¬ 0 < ((strOf d).size : Int) := by rw [hs]; omega
    have HV := Lib.hid' (show (Ac.mk k e ad d).check = 0 from HG3.out.trans (if_neg (by rintro (h | h); exact h.2 h0; exact hd h.2)))
    clear hmx hz hk h0
    go_enter Try.func10, Try.ntmps10
    go_wp2
    go_ret
    exact ⟨ret_eq (by rw [HV.out]; rfl), by go_grown⟩
  have hk1 := hk
  clear hk
  by_cases hk : k = 2
  · skip
    have b1 : (k == 1) = false := by rw [beq_eq_false_iff_ne]; omega
    have b2 : (k == 2) = true := by rw [beq_iff_eq]; omega
    have b3 : (k == 3) = false := by rw [beq_eq_false_iff_ne]; omega
    have c2 : (k != 2) = false := by rw [bne_eq_false_iff_eq]; omega
    by_cases hm : ad = 1048576
    · have hmb : (ad == 1048576) = true := by rw [beq_iff_eq]; exact hm
      have HV := Lib.hid' (show (Ac.mk k e ad d).check = 1 from HG.out.trans (if_pos ⟨by omega, hm⟩))
      clear hm hmx hz hk
      go_enter Try.func10, Try.ntmps10
      go_wp2
      go_ret
      exact ⟨ret_eq (by rw [HV.out]; rfl), by go_grown⟩
    have hmb : (ad == 1048576) = false := by rw [beq_eq_false_iff_ne]; exact hm
    have HG2 := Lib.hid' (HG.out.trans (if_neg (by rintro ⟨_, h⟩; exact hm h)))
    by_cases h64 : 64 < d.length
    · have h64b : 64 < ((strOf d).size : Int) := by rw [hs]; omega
      have HV := Lib.hid' (show (Ac.mk k e ad d).check = 3 from HG2.out.trans (if_pos h64))
      clear hmx hz hk hm
      go_enter Try.func10, Try.ntmps10
      go_wp2
      go_ret
      exact ⟨ret_eq (by rw [HV.out]; rfl), by go_grown⟩
    have h64b : ¬ 64 < ((strOf d).size : Int) := by rw [hs]; omega
    have HG3 := Lib.hid' (HG2.out.trans (if_neg h64))
    have HV := Lib.hid' (show (Ac.mk k e ad d).check = 0 from HG3.out.trans (if_neg (by rintro (h | h); omega; exact h.1 hk)))
    clear hmx hz hk hm
    go_enter Try.func10, Try.ntmps10
    go_wp2
    go_ret
    exact ⟨ret_eq (by rw [HV.out]; rfl), by go_grown⟩
  have hk2 := hk
  clear hk
  by_cases hk : k = 3
  · skip
    have b1 : (k == 1) = false := by rw [beq_eq_false_iff_ne]; omega
    have b2 : (k == 2) = false := by rw [beq_eq_false_iff_ne]; omega
    have b3 : (k == 3) = true := by rw [beq_iff_eq]; omega
    have c2 : (k != 2) = true := by rw [bne_iff_ne]; omega
    by_cases hm : ad = 1048576
    · have hmb : (ad == 1048576) = true := by rw [beq_iff_eq]; exact hm
      have HV := Lib.hid' (show (Ac.mk k e ad d).check = 1 from HG.out.trans (if_pos ⟨by omega, hm⟩))
      clear hm hmx hz hk
      go_enter Try.func10, Try.ntmps10
      go_wp2
      go_ret
      exact ⟨ret_eq (by rw [HV.out]; rfl), by go_grown⟩
    have hmb : (ad == 1048576) = false := by rw [beq_eq_false_iff_ne]; exact hm
    have HG2 := Lib.hid' (HG.out.trans (if_neg (by rintro ⟨_, h⟩; exact hm h)))
    by_cases h64 : 64 < d.length
    · have h64b : 64 < ((strOf d).size : Int) := by rw [hs]; omega
      have HV := Lib.hid' (show (Ac.mk k e ad d).check = 3 from HG2.out.trans (if_pos h64))
      clear hmx hz hk hm
      go_enter Try.func10, Try.ntmps10
      go_wp2
      go_ret
      exact ⟨ret_eq (by rw [HV.out]; rfl), by go_grown⟩
    have h64b : ¬ 64 < ((strOf d).size : Int) := by rw [hs]; omega
    have HG3 := Lib.hid' (HG2.out.trans (if_neg h64))
    by_cases hd : 0 < d.length
    · have hdb : 0 < ((strOf d).size : Int) := by rw [hs]; omega
      have HV := Lib.hid' (show (Ac.mk k e ad d).check = 2 from HG3.out.trans (if_pos (.inr ⟨by omega, hd⟩)))
      clear hmx hz hk hm
      go_enter Try.func10, Try.ntmps10
      go_wp2
      go_ret
      exact ⟨ret_eq (by rw [HV.out]; rfl), by go_grown⟩
    have hdb : ¬ 0 < ((strOf d).size : Int) := by rw [hs]; omega
    have HV := Lib.hid' (show (Ac.mk k e ad d).check = 0 from HG3.out.trans (if_neg (by rintro (h | h); omega; exact hd h.2)))
    clear hmx hz hk hm
    go_enter Try.func10, Try.ntmps10
    go_wp2
    go_ret
    exact ⟨ret_eq (by rw [HV.out]; rfl), by go_grown⟩
  have hk3 := hk
  clear hk
  have hk : True := trivial
  have b1 : (k == 1) = false := by rw [beq_eq_false_iff_ne]; omega
  have b2 : (k == 2) = false := by rw [beq_eq_false_iff_ne]; omega
  have b3 : (k == 3) = false := by rw [beq_eq_false_iff_ne]; omega
  have c2 : (k != 2) = true := by rw [bne_iff_ne]; omega
  have HG2 := Lib.hid' (HG.out.trans (if_neg (by rintro ⟨h, _⟩; omega)))
  by_cases h64 : 64 < d.length
  · have h64b : 64 < ((strOf d).size : Int) := by rw [hs]; omega
    have HV := Lib.hid' (show (Ac.mk k e ad d).check = 3 from HG2.out.trans (if_pos h64))
    clear hmx hz hk
    go_enter Try.func10, Try.ntmps10
    go_wp2
    go_ret
    exact ⟨ret_eq (by rw [HV.out]; rfl), by go_grown⟩
  have h64b : ¬ 64 < ((strOf d).size : Int) := by rw [hs]; omega
  have HG3 := Lib.hid' (HG2.out.trans (if_neg h64))
  by_cases hd : 0 < d.length
  · have hdb : 0 < ((strOf d).size : Int) := by rw [hs]; omega
    have HV := Lib.hid' (show (Ac.mk k e ad d).check = 2 from HG3.out.trans (if_pos (.inr ⟨by omega, hd⟩)))
    clear hmx hz hk
    go_enter Try.func10, Try.ntmps10
    go_wp2
    go_ret
    exact ⟨ret_eq (by rw [HV.out]; rfl), by go_grown⟩
  have hdb : ¬ 0 < ((strOf d).size : Int) := by rw [hs]; omega
  have HV := Lib.hid' (show (Ac.mk k e ad d).check = 0 from HG3.out.trans (if_neg (by rintro (h | h); omega; exact hd h.2)))
  clear hmx hz hk
  go_enter Try.func10, Try.ntmps10
  go_wp2
  go_ret
  exact ⟨ret_eq (by rw [HV.out]; rfl), by go_grown⟩
theorem pos_vb (n : Nat) : 0 < (vb n).length := List.length_pos_iff.2 (vb_ne n)
set_option maxHeartbeats 4000000 in
theorem refput_any (x : Ac) (hc : x.check = 0) (w : World) : Calls Try.prog 15 #[d9V x] w (OwnR w.heap.size 5 1 x.put.length (byteVs x.put) w) := by
  obtain ⟨g1, g2, g3, g4, g5, g6, g7, g8, g9⟩ := Ac.check_ok hc
  have htl := Ac.text_len hc
  have HTX := Lib.hid' (show x.put = frameB x.text from rfl)
  have HTY := Lib.hid' (show x.text = vb x.k.toNat ++ vb x.e.toNat ++ (if 1 < x.k then vb x.a.toNat else []) ++ (if x.k = 2 then headB x.d else []) from rfl)
  clear hc
  have HF := Lib.hid' (fun (a : Option Addr) (c : Nat) (w : World) (h : Bytes w (.slice a x.text.length c) x.text) => rFrame_any x.text a c w h (by omega))
  rw [← HTX.out] at HF
  clear HTX
  obtain ⟨tx, htx⟩ : ∃ t, t = x.text := ⟨_, rfl⟩
  obtain ⟨pb, hpb⟩ : ∃ p, p = x.put := ⟨_, rfl⟩
  rw [← htx] at HF htl HTY
  rw [← hpb] at HF ⊢
  clear htx hpb
  obtain ⟨k, e, ad, d⟩ := x
  unfold d9V
  simp only at g1 g2 g3 g4 g5 g6 g7 g8 g9 HTY ⊢
  obtain ⟨kn, rfl⟩ : ∃ n : Nat, k = n := ⟨k.toNat, by omega⟩
  obtain ⟨en, rfl⟩ : ∃ n : Nat, e = n := ⟨e.toNat, by omega⟩
  obtain ⟨an, rfl⟩ : ∃ n : Nat, ad = n := ⟨ad.toNat, by omega⟩
  clear g8 g9
  simp only [Int.toNat_natCast] at HTY
  have kc := fun (w : World) (s : ByteArray) => Lib.run_convert_string_bytes (P := Try.prog) w 9 22 5 s Try.underlying9 Try.underlying22 Try.underlying5
  go_enter Try.func15, Try.ntmps15
  go_wp2_with fail
  have hz0 : (w.alloc (.cells #[.int .i64 (kn : Int), .int .i64 (en : Int), .int .i64 (an : Int), .string (strOf d)] 31)).heap.size = w.heap.size + 1 := by simp
  have HG0 := Lib.hid' (show Below w.heap.size w (w.alloc (.cells #[.int .i64 (kn : Int), .int .i64 (en : Int), .int .i64 (an : Int), .string (strOf d)] 31)) by go_grown)
  have HX0 := Lib.hid' (BoxW.start w [.int .i64 (kn : Int), .int .i64 (en : Int), .int .i64 (an : Int), .string (strOf d)] 31)
  generalize (w.alloc (.cells #[.int .i64 (kn : Int), .int .i64 (en : Int), .int .i64 (an : Int), .string (strOf d)] 31)) = w0 at *
  refine wp_region_held_drew (S := (fun w' => w'.cell? ⟨w.heap.size, 0, none⟩ = some (.int .i64 (kn : Int)) ∧ w'.cell? ⟨w.heap.size, 1, none⟩ = some (.int .i64 (en : Int)))) (by kernel_rfl) ⟨HX0.out.box.1 0 _ rfl, HX0.out.box.1 1 _ rfl⟩ (fun hH0 => ?_)
  refine wpAnyH_take (i := 0) (oi := _) (v := .pointer (some ⟨w.heap.size, 0, none⟩)) rfl (by kernel_rfl) (by kernel_rfl) (by kernel_rfl) (fun _ _ _ h => h) (Or.inl ⟨by rfl, ?_⟩) hH0 ?_
  · intro w hSw; go_simp
  simp only [Act.put, List.getElem_toArray, List.getElem_cons_zero, List.getElem_cons_succ, List.setIfInBounds_toArray, List.set_cons_zero, List.set_cons_succ]
  refine wpAnyH_take (i := 1) (oi := _) (v := .int .i64 (kn : Int)) rfl (by kernel_rfl) (by kernel_rfl) (by kernel_rfl) (fun _ _ _ h => h) (Or.inl ⟨by rfl, ?_⟩) hH0 ?_
  · intro w hSw; go_simp
  simp only [Act.put, List.getElem_toArray, List.getElem_cons_zero, List.getElem_cons_succ, List.setIfInBounds_toArray, List.set_cons_zero, List.set_cons_succ]
  refine wpAnyH_take (i := 2) (oi := _) (v := .int .u64 (kn : Int)) rfl (by kernel_rfl) (by kernel_rfl) (by kernel_rfl) (fun _ _ _ h => h) (Or.inl ⟨by rfl, ?_⟩) hH0 ?_
  · intro w hSw; go_simp; exact wraps_u64 _ (by omega) (by omega)
  simp only [Act.put, List.getElem_toArray, List.getElem_cons_zero, List.getElem_cons_succ, List.setIfInBounds_toArray, List.set_cons_zero, List.set_cons_succ]
  refine wpAnyH_take (i := 4) (oi := _) (v := .pointer (some ⟨w.heap.size, 1, none⟩)) rfl (by kernel_rfl) (by kernel_rfl) (by kernel_rfl) (fun _ _ _ h => h) (Or.inl ⟨by rfl, ?_⟩) hH0 ?_
  · intro w hSw; go_simp
  simp only [Act.put, List.getElem_toArray, List.getElem_cons_zero, List.getElem_cons_succ, List.setIfInBounds_toArray, List.set_cons_zero, List.set_cons_succ]
  refine wpAnyH_take (i := 5) (oi := _) (v := .int .i64 (en : Int)) rfl (by kernel_rfl) (by kernel_rfl) (by kernel_rfl) (fun _ _ _ h => h) (Or.inl ⟨by rfl, ?_⟩) hH0 ?_
  · intro w hSw; go_simp
  simp only [Act.put, List.getElem_toArray, List.getElem_cons_zero, List.getElem_cons_succ, List.setIfInBounds_toArray, List.set_cons_zero, List.set_cons_succ]
  refine wpAnyH_take (i := 6) (oi := _) (v := .int .u64 (en : Int)) rfl (by kernel_rfl) (by kernel_rfl) (by kernel_rfl) (fun _ _ _ h => h) (Or.inl ⟨by rfl, ?_⟩) hH0 ?_
  · intro w hSw; go_simp; exact wraps_u64 _ (by omega) (by omega)
  simp only [Act.put, List.getElem_toArray, List.getElem_cons_zero, List.getElem_cons_succ, List.setIfInBounds_toArray, List.set_cons_zero, List.set_cons_succ]
  refine wpAnyH_ready (rs := [3]) (by kernel_rfl) (by simp) (AllReadyH.cons (o := _) rfl (fun K hK => ?_) AllReadyH.nil)
  go_simp
  refine (rBytes_any kn (by omega) w0.drew).mono ?_
  rintro e1 w1 ⟨a1, c1, rfl, ho1, hb1⟩
  have HX1 := Lib.hid' (HX0.out.drew.below (Nat.le_refl _) hb1)
  have hz1 : w.heap.size + 1 ≤ w1.heap.size := by have := hb1.size; rw [← hz0]; exact this
  have hle0 : w.heap.size ≤ w0.heap.size := by omega
  have hd0 : Below w0.heap.size w0 w0.drew := Below.drew (Below.refl _ w0)
  have HG1 := Lib.hid' (show Below w.heap.size w w1 from HG0.out.trans ((hd0.mono hle0).trans (hb1.mono hle0)))
  clear hle0 hd0
  have HO1 := Lib.hid' (own_base (B' := w.heap.size + 1) ho1 (by show w.heap.size + 1 ≤ w0.heap.size; omega))
  clear ho1 hb1 HX0 HG0
  refine hK.out _ _ ?_ (fun hH1 => ?_)
  · exact ⟨HX1.out.box.1 0 _ rfl, HX1.out.box.1 1 _ rfl⟩
  clear hK K
  refine wpAnyH_ready (rs := [7]) (by kernel_rfl) (by simp) (AllReadyH.cons (o := _) rfl (fun K hK => ?_) AllReadyH.nil)
  go_simp
  refine (rBytes_any en (by omega) w1).mono ?_
  rintro e2 w2 ⟨a2, c2, rfl, ho2, hb2⟩
  have HX2 := Lib.hid' (HX1.out.below (Nat.le_refl _) hb2)
  have hz2 : w.heap.size + 1 ≤ w2.heap.size := by have := hb2.size; omega
  have HG2 := Lib.hid' (HG1.out.trans (hb2.mono (by omega)))
  have HO2 := Lib.hid' (own_below HO1.out (Nat.le_refl _) hb2)
  have HE2 := Lib.hid' (show Bytes w2 (.slice a2 (vb en).length c2) (vb en) from SlV.of_own ho2)
  clear ho2 hb2 HX1 HG1 HO1
  have hlk := vb_len10 (n := kn) (by omega)
  have hle := vb_len10 (n := en) (by omega)
  have hpe := pos_vb en
  refine hK.out _ _ ?_ (fun hH2 => ?_)
  · exact ⟨HX2.out.box.1 0 _ rfl, HX2.out.box.1 1 _ rfl⟩
  clear hK K
  refine wpAnyH_ready (rs := [8]) (by kernel_rfl) (by simp) (AllReadyH.cons (o := _) rfl (fun K hK => ?_) AllReadyH.nil)
  refine step_sl etBytes rfl (.tmp 7) (.tmp 11) rfl (w.heap.size + 1) (vb kn).length (byteVs (vb kn)) _ rfl HO2.out (vb en).length (byteVs (vb en)) _ rfl HE2.out (by simp [byteVs]) (byteVs_one _) hpe (by omega) hz2 ?_
  intro a3 c3 w3 ho3 hf3
  have HX3 := Lib.hid' (HX2.out.fr hf3 (own_not_box HO2.out HX2.out (by decide)))
  have HG3 := Lib.hid' (hf3.row HO2.out (by omega) (by omega) HG2.out)
  have hz3 : w.heap.size + 1 ≤ w3.heap.size := by have := hf3.size; omega
  obtain ⟨r3, hr3⟩ : ∃ r, r = vb kn ++ vb en := ⟨_, rfl⟩
  have HR3 := Lib.hid' hr3
  have HL3 := Lib.hid' (show (vb kn).length + (vb en).length = r3.length by rw [hr3, List.length_append])
  rw [← byteVs_append, ← hr3, HL3.out] at ho3
  rw [HL3.out]
  have hl3 : r3.length ≤ 20 := by rw [← HL3.out]; omega
  have HO3 := Lib.hid' ho3
  clear ho3 hf3 hr3 HX2 HG2 HO2 HE2 HL3 hlk hle hpe
  refine hK.out _ _ ?_ (fun hH3 => ?_)
  · exact ⟨HX3.out.box.1 0 _ rfl, HX3.out.box.1 1 _ rfl⟩
  clear hK K
  refine wpAnyH_take (i := 9) (oi := _) (v := .slice a3 r3.length c3) rfl (by kernel_rfl) (by kernel_rfl) (by kernel_rfl) (fun _ _ _ h => h) (Or.inl ⟨by rfl, ?_⟩) hH3 ?_
  · intro w hSw; go_simp
  simp only [Act.put, List.getElem_toArray, List.getElem_cons_zero, List.getElem_cons_succ, List.setIfInBounds_toArray, List.set_cons_zero, List.set_cons_succ]
  refine wpAnyH_done (by kernel_rfl) ?_ _
  have hx0 := HX3.out.box.1 0 _ rfl
  have hx1 := HX3.out.box.1 1 _ rfl
  have hx2 := HX3.out.box.1 2 _ rfl
  have hx3 := HX3.out.box.1 3 _ rfl
  by_cases hk1 : (1 : Int) < kn
  rotate_left
  · have b2 : ((kn : Int) == 2) = false := by rw [beq_eq_false_iff_ne]; omega
    have HK1 := Lib.hid' hk1
    go_wp2_with fail
    have HTT := Lib.hid' (show tx = r3 from by rw [HTY.out, HR3.out, if_neg (by have := HK1.out; omega), if_neg (by have := HK1.out; omega)]; simp)
    rw [HTT.out] at HF
    refine (HF.out a3 c3 w3 (SlV.of_own HO3.out)).mono ?_
    rintro e8 w8 ⟨a8, c8, rfl, ho8, hb8⟩
    have HO8 := Lib.hid' (own_base (B' := w.heap.size) ho8 (by omega))
    have HG8 := Lib.hid' (HG3.out.trans (hb8.mono (by omega)))
    clear ho8 hb8
    go_wp2_with fail
    go_ret
    exact ⟨a8, c8, rfl, HO8.out, HG8.out⟩
  go_wp2_with fail
  refine (rBytes_any an (by omega) w3).mono ?_
  rintro e4 w4 ⟨a4, c4, rfl, ho4, hb4⟩
  have HX4 := Lib.hid' (HX3.out.below (Nat.le_refl _) hb4)
  have hz4 : w.heap.size + 1 ≤ w4.heap.size := by have := hb4.size; omega
  have HG4 := Lib.hid' (HG3.out.trans (hb4.mono (by omega)))
  have HO4 := Lib.hid' (own_below HO3.out (Nat.le_refl _) hb4)
  have HE4 := Lib.hid' (show Bytes w4 (.slice a4 (vb an).length c4) (vb an) from SlV.of_own ho4)
  clear ho4 hb4 HX3 HG3 HO3 hx0 hx1 hx2 hx3
  have hla := vb_len10 (n := an) (by omega)
  go_wp2_with (at_builtin; refine append_sl etBytes rfl (.tmp 16) (.tmp 20) rfl (w.heap.size + 1) r3.length (byteVs r3) _ rfl HO4.out (vb an).length (byteVs (vb an)) _ rfl HE4.out (by simp [byteVs]) (byteVs_one _) (by omega) hz4 ?_)
  intro a5 c5 w5 ho5 hf5
  have HX5 := Lib.hid' (HX4.out.fr hf5 (own_not_box HO4.out HX4.out (by decide)))
  have HG5 := Lib.hid' (hf5.row HO4.out (by omega) (by omega) HG4.out)
  have hz5 : w.heap.size + 1 ≤ w5.heap.size := by have := hf5.size; omega
  obtain ⟨r5, hr5⟩ : ∃ r, r = r3 ++ vb an := ⟨_, rfl⟩
  have HR5 := Lib.hid' hr5
  have HL5 := Lib.hid' (show r3.length + (vb an).length = r5.length by rw [hr5, List.length_append])
  rw [← byteVs_append, ← hr5, HL5.out] at ho5
  rw [HL5.out]
  have hl5 : r5.length ≤ 30 := by rw [← HL5.out]; omega
  have HO5 := Lib.hid' ho5
  clear ho5 hf5 hr5 HX4 HG4 HO4 HE4 HL5 hla
  have hx0 := HX5.out.box.1 0 _ rfl
  have hx1 := HX5.out.box.1 1 _ rfl
  have hx2 := HX5.out.box.1 2 _ rfl
  have hx3 := HX5.out.box.1 3 _ rfl
  by_cases hk2 : (kn : Int) = 2
  rotate_left
  · have b2 : ((kn : Int) == 2) = false := by rw [beq_eq_false_iff_ne]; omega
    have HK2 := Lib.hid' hk2
    clear hk2
    go_wp2_with fail
    have HTT := Lib.hid' (show tx = r5 from by rw [HTY.out, HR5.out, HR3.out, if_pos hk1, if_neg HK2.out]; simp)
    rw [HTT.out] at HF
    refine (HF.out a5 c5 w5 (SlV.of_own HO5.out)).mono ?_
    rintro e8 w8 ⟨a8, c8, rfl, ho8, hb8⟩
    have HO8 := Lib.hid' (own_base (B' := w.heap.size) ho8 (by omega))
    have HG8 := Lib.hid' (HG5.out.trans (hb8.mono (by omega)))
    clear ho8 hb8
    go_wp2_with fail
    go_ret
    exact ⟨a8, c8, rfl, HO8.out, HG8.out⟩
  have b2 : ((kn : Int) == 2) = true := by rw [beq_iff_eq]; exact hk2
  have HK2 := Lib.hid' hk2
  clear hk2
  have hbw := Lib.hid' (bytes_conv w5 d d.length rfl (by omega))
  have hbg := Lib.hid' (Lib.bytesWorld_below w5 5 (strOf d))
  have hss := strOf_size d
  go_wp2_with fail
  clear hx0 hx1 hx2 hx3 kc
  have hzc : w.heap.size + 1 ≤ (Lib.bytesWorld w5 5 (strOf d)).heap.size := by have := hbg.out.size; omega
  have HGc := Lib.hid' (HG5.out.trans (hbg.out.mono (by omega)))
  have HOc := Lib.hid' (own_below HO5.out (Nat.le_refl _) hbg.out)
  rw [hss] at *
  generalize Lib.bytesWorld w5 5 (strOf d) = wc at *
  generalize grownCap w5 d.length 0 5 = gc at *
  refine (rText_any d _ gc wc hbw.out (by omega)).mono ?_
  rintro e6 w6 ⟨a6, c6, rfl, ho6, hb6⟩
  have hz6 : w.heap.size + 1 ≤ w6.heap.size := by have := hb6.size; omega
  have HG6 := Lib.hid' (HGc.out.trans (hb6.mono (by omega)))
  have HO6 := Lib.hid' (own_below HOc.out (Nat.le_refl _) hb6)
  have HE6 := Lib.hid' (show Bytes w6 (.slice a6 (headB d).length c6) (headB d) from SlV.of_own ho6)
  clear ho6 hb6 HX5 HG5 HO5 HGc HOc hbw hbg
  have hlh : (headB d).length ≤ 80 := by
    have := vb_len10 (n := d.length) (by omega)
    unfold headB; rw [List.length_append]; omega
  go_wp2_with (at_builtin; refine append_sl etBytes rfl (.tmp 25) (.tmp 29) rfl (w.heap.size + 1) r5.length (byteVs r5) _ rfl HO6.out (headB d).length (byteVs (headB d)) _ rfl HE6.out (by simp [byteVs]) (byteVs_one _) (by omega) hz6 ?_)
  intro a7 c7 w7 ho7 hf7
  have HG7 := Lib.hid' (hf7.row HO6.out (by omega) (by omega) HG6.out)
  have hz7 : w.heap.size + 1 ≤ w7.heap.size := by have := hf7.size; omega
  obtain ⟨r7, hr7⟩ : ∃ r, r = r5 ++ headB d := ⟨_, rfl⟩
  have HR7 := Lib.hid' hr7
  have HL7 := Lib.hid' (show r5.length + (headB d).length = r7.length by rw [hr7, List.length_append])
  rw [← byteVs_append, ← hr7, HL7.out] at ho7
  rw [HL7.out]
  have HO7 := Lib.hid' ho7
  clear ho7 hf7 hr7 HG6 HO6 HE6 HL7 hlh
  go_wp2_with fail
  have HTT := Lib.hid' (show tx = r7 from by rw [HTY.out, HR7.out, HR5.out, HR3.out, if_pos hk1, if_pos HK2.out])
  rw [HTT.out] at HF
  refine (HF.out a7 c7 w7 (SlV.of_own HO7.out)).mono ?_
  rintro e8 w8 ⟨a8, c8, rfl, ho8, hb8⟩
  have HO8 := Lib.hid' (own_base (B' := w.heap.size) ho8 (by omega))
  have HG8 := Lib.hid' (HG7.out.trans (hb8.mono (by omega)))
  clear ho8 hb8
  go_wp2_with fail
  go_ret
  exact ⟨a8, c8, rfl, HO8.out, HG8.out⟩
end Go.Proofs.Ytdlgagdgbpfdnaa
