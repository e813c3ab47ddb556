/- Layers 5, 9: bytes of cells and units. -/
import Derived.Test.YtkljeefncopodaaGreatRecN
import Derived.Test.YtkljeefncopodaaGreatBase
import Derived.Test.YtkljeefncopodaaGreatEnt
import Derived.Test.YtkljeefncopodaaGreatFrmB
import Derived.Test.YtkljeefncopodaaGreatRecX
namespace Go.Proofs.YtkljeefncopodaaGreat
open Go.RowKit
set_option linter.unusedSimpArgs false
set_option linter.unusedVariables false
set_option maxRecDepth 100000

def CPutR (t : List UInt8) (w : World) (e : Ending) (w' : World) : Prop :=
  ∃ a c, e = .returned (.tuple #[.slice a t.length c, .nilIface]) ∧ w'.ownsRow w.heap.size 5 1 (.slice a t.length c) t.length (byteVs t) ∧ Below w.heap.size w w'
set_option maxHeartbeats 4000000 in
theorem cput_any (b : List UInt8) (a : Option Addr) (bc : Nat) (c : C) (da : Option Addr) (dc : Nat) (w : World) (h : Bytes w (.slice a b.length bc) b) (hd : Bytes w (.slice da c.d.length dc) c.d) (hc : c.check = 0) (hb : b.length ≤ 536870912) :
    Calls Tryz.prog 72 #[.slice a b.length bc, .agg #[.int .i64 c.k, .slice da c.d.length dc]] w (CPutR (b ++ cellB c) w) := by
  have HD := Lib.hid' h
  have HDD := Lib.hid' hd
  have HCK := Lib.hid' (fun wq hq => check_any (.agg #[.int .i64 c.k, .slice da c.d.length dc]) c wq hq)
  rw [hc] at HCK
  obtain ⟨g1, g2, g3, g4⟩ := check_parts hc
  clear h hd hc
  obtain ⟨k, d⟩ := c
  simp only at HDD HCK g1 g2 g3 g4 ⊢
  obtain ⟨k, rfl⟩ : ∃ n : Nat, k = n := ⟨k.toNat, by omega⟩
  have hvl := vb_len_le (n := k) (k := 1) (by decide) (by omega)
  clear g4
  by_cases hk1 : k = 1
  · skip
    subst hk1
    go_enter Tryz.func72, Tryz.ntmps72
    go_wp2_with fail
    have H0 : Sep w NoF [] w := Sep.start _
    have H1 : Sep w NoF [.box (w.heap.size) [.int .i64 1, .slice da d.length dc] 116] ((w.alloc (.cells #[.int .i64 1, .slice da d.length dc] 116))) := (H0.allocAt (w.heap.size) [.int .i64 1, .slice da d.length dc] 116 (by simp))
    clear H0
    generalize (w.alloc (.cells #[.int .i64 1, .slice da d.length dc] 116)) = w1 at *
    refine (HCK.out w1 ⟨da, dc, rfl, H1.oldBytes HDD.out⟩).mono ?_
    rintro e w2 ⟨rfl, hb2⟩
    have H2 : Sep w NoF [.box (w.heap.size) [.int .i64 1, .slice da d.length dc] 116] (w2) := (H1.below hb2)
    clear H1 hb2
    rw [errV_0]
    have Xc0 := H2.cell 0 rfl 0 rfl
    have Xc1 := H2.cell 0 rfl 1 rfl
    have Xl := H2.lt 0 rfl
    go_wp2_with fail
    have hU := us_one w2 1 86
    have HU := Lib.hid' hU
    clear hU
    have H3 : Sep w NoF [.box (w.heap.size) [.int .i64 1, .slice da d.length dc] 116] ((w2.alloc (.cells #[.int .u64 1] 86))) := (H2.allocX (.cells #[.int .u64 1] 86))
    clear Xc0 Xc1 Xl
    clear H2
    generalize (w2.alloc (.cells #[.int .u64 1] 86)) = w3 at *
    refine (vPut_any b a bc [1] _ _ w3 (H3.oldBytes HD.out) HU.out (by intro n hn; simp only [List.mem_singleton] at hn; omega) (by omega) (by simp)).mono ?_
    rintro e w4 ⟨a4, c4, rfl, ho, hb4⟩
    have HVB := Lib.hid' (show b ++ vbs [1] = b ++ vb 1 by simp [vbs])
    rw [HVB.out] at ho ⊢
    clear HVB HU
    have H4 : Sep w NoF [.row 5 1 (.slice a4 (b ++ vb 1).length c4) ((b ++ vb 1).length) (byteVs (b ++ vb 1)), .box (w.heap.size) [.int .i64 1, .slice da d.length dc] 116] (w4) := (H3.belowRow hb4 ho)
    clear H3 hb4 ho
    obtain ⟨t, ht⟩ : ∃ t, t = b ++ vb 1 := ⟨_, rfl⟩
    have HT := Lib.hid' ht
    have htl : t.length ≤ 536870913 := by rw [ht, List.length_append]; omega
    rw [← ht] at H4 ⊢
    clear ht
    have Xc0 := H4.cell 1 rfl 0 rfl
    have Xc1 := H4.cell 1 rfl 1 rfl
    have Xl := H4.lt 1 rfl
    go_wp2_with fail
    have hbt : Bytes w4 (.slice a4 t.length c4) t := SlV.of_own (H4.row 0 rfl)
    refine (vPutText_any t d a4 da c4 dc w4 hbt (H4.oldBytes HDD.out) (by omega) (by omega)).mono ?_
    rintro e w5 ⟨a5, c5, rfl, ho, hb5⟩
    have HRR := Lib.hid' (show t ++ headB d = b ++ cellB ⟨((1 : Nat) : Int), d⟩ by rw [HT.out]; unfold cellB; simp)
    rw [HRR.out] at ho ⊢
    have H5 : Sep w NoF [.row 5 1 (.slice a5 (b ++ cellB ⟨((1 : Nat) : Int), d⟩).length c5) ((b ++ cellB ⟨((1 : Nat) : Int), d⟩).length) (byteVs (b ++ cellB ⟨((1 : Nat) : Int), d⟩)), .row 5 1 (.slice a4 t.length c4) (t.length) (byteVs t), .box (w.heap.size) [.int .i64 1, .slice da d.length dc] 116] (w5) := (H4.belowRow hb5 ho)
    clear Xc0 Xc1 Xl
    clear H4 hbt hb5 ho
    generalize b ++ cellB ⟨((1 : Nat) : Int), d⟩ = x at *
    go_wp2
    go_ret2
    exact ⟨a5, c5, rfl, H5.own 0 rfl, H5.toBelow⟩
  have hkb : ((k : Int) == 1) = false := by rw [beq_eq_false_iff_ne]; omega
  go_enter Tryz.func72, Tryz.ntmps72
  go_wp2_with fail
  have H0 : Sep w NoF [] w := Sep.start _
  have H1 : Sep w NoF [.box (w.heap.size) [.int .i64 (k : Int), .slice da d.length dc] 116] ((w.alloc (.cells #[.int .i64 (k : Int), .slice da d.length dc] 116))) := (H0.allocAt (w.heap.size) [.int .i64 (k : Int), .slice da d.length dc] 116 (by simp))
  clear H0
  generalize (w.alloc (.cells #[.int .i64 (k : Int), .slice da d.length dc] 116)) = w1 at *
  refine (HCK.out w1 ⟨da, dc, rfl, H1.oldBytes HDD.out⟩).mono ?_
  rintro e w2 ⟨rfl, hb2⟩
  have H2 : Sep w NoF [.box (w.heap.size) [.int .i64 (k : Int), .slice da d.length dc] 116] (w2) := (H1.below hb2)
  clear H1 hb2
  rw [errV_0]
  have Xc0 := H2.cell 0 rfl 0 rfl
  have Xc1 := H2.cell 0 rfl 1 rfl
  have Xl := H2.lt 0 rfl
  go_wp2_with fail
  have hU := us_one w2 k 86
  have HU := Lib.hid' hU
  clear hU
  have H3 : Sep w NoF [.box (w.heap.size) [.int .i64 (k : Int), .slice da d.length dc] 116] ((w2.alloc (.cells #[.int .u64 (k : Int)] 86))) := (H2.allocX (.cells #[.int .u64 (k : Int)] 86))
  clear Xc0 Xc1 Xl
  clear H2
  generalize (w2.alloc (.cells #[.int .u64 (k : Int)] 86)) = w3 at *
  refine (vPut_any b a bc [k] _ _ w3 (H3.oldBytes HD.out) HU.out (by intro n hn; simp only [List.mem_singleton] at hn; omega) (by omega) (by simp)).mono ?_
  rintro e w4 ⟨a4, c4, rfl, ho, hb4⟩
  have HVB := Lib.hid' (show b ++ vbs [k] = b ++ vb k by simp [vbs])
  rw [HVB.out] at ho ⊢
  clear HVB HU
  have H4 : Sep w NoF [.row 5 1 (.slice a4 (b ++ vb k).length c4) ((b ++ vb k).length) (byteVs (b ++ vb k)), .box (w.heap.size) [.int .i64 (k : Int), .slice da d.length dc] 116] (w4) := (H3.belowRow hb4 ho)
  clear H3 hb4 ho
  obtain ⟨t, ht⟩ : ∃ t, t = b ++ vb k := ⟨_, rfl⟩
  have HT := Lib.hid' ht
  have htl : t.length ≤ 536870913 := by rw [ht, List.length_append]; omega
  rw [← ht] at H4 ⊢
  clear ht
  have Xc0 := H4.cell 1 rfl 0 rfl
  have Xc1 := H4.cell 1 rfl 1 rfl
  have Xl := H4.lt 1 rfl
  have HRR := Lib.hid' (show t = b ++ cellB ⟨(k : Int), d⟩ by rw [HT.out]; unfold cellB; simp; omega)
  go_wp2
  go_ret2
  rw [← HRR.out]
  exact ⟨a4, c4, rfl, H4.own 0 rfl, H4.toBelow⟩
/-- what follows behind entries -/
def nextF (f : Int) (L : List (Int × C)) : Int := match L.getLast? with | none => f | some p => p.1 + 1
theorem entsB_snoc : ∀ (L : List (Int × C)) (f : Int) (p : Int × C), entsB f (L ++ [p]) = entsB f L ++ (vb (p.1 - nextF f L).toNat ++ cellB p.2)
  | [], f, p => by simp [entsB, nextF]
  | q :: L, f, p => by
    simp only [List.cons_append, entsB]
    rw [entsB_snoc L (q.1 + 1) p]
    have : nextF f (q :: L) = nextF (q.1 + 1) L := by
      unfold nextF
      cases L with
      | nil => rfl
      | cons r L => rw [List.getLast?_cons_cons]; cases h : (r :: L).getLast? with
        | none => simp at h
        | some x => rfl
    rw [this]
    simp only [List.append_assoc]
theorem nextF_snoc (L : List (Int × C)) (f : Int) (p : Int × C) : nextF f (L ++ [p]) = p.1 + 1 := by unfold nextF; simp
theorem right_take {f : Int} {L : List (Int × C)} (h : RightL f L) (k : Nat) : RightL f (L.take k) := ⟨fun p hp => h.1 p (List.mem_of_mem_take hp), h.2.sublist (List.take_sublist _ _)⟩
theorem nextF_le {f : Int} {L : List (Int × C)} (h : RightL f L) {k : Nat} (hk : k < L.length) : f ≤ nextF f (L.take k) ∧ nextF f (L.take k) ≤ L[k].1 := by
  cases k with
  | zero => exact ⟨by simp [nextF], by simp only [List.take_zero]; exact (h.1 _ (List.getElem_mem hk)).1⟩
  | succ j =>
    rw [List.take_succ_eq_append_getElem (by omega), nextF_snoc]
    have h1 := (h.1 _ (List.getElem_mem (l := L) (n := j) (by omega))).1
    have h2 := List.pairwise_iff_getElem.1 h.2 j (j + 1) (by omega) hk (by omega)
    omega
def PutUR (p : Nat × List UInt8) (w : World) (en : Ending) (w' : World) : Prop :=
  ∃ a c, en = .returned (.tuple #[.slice a p.2.length c, errV p.1]) ∧ w'.ownsRow w.heap.size 5 1 (.slice a p.2.length c) p.2.length (byteVs p.2) ∧ Below w.heap.size w w'
theorem us_three (w : World) (x y z : Nat) (t : Nat) : Us (w.alloc (.cells #[.int .u64 (x : Int), .int .u64 (y : Int), .int .u64 (z : Int)] t)) (.slice (some ⟨w.heap.size, 0, none⟩) 3 3) [x, y, z] :=
  SlV.new w [.int .u64 (x : Int), .int .u64 (y : Int), .int .u64 (z : Int)] 3 t (by decide)
theorem rputu_nil (w : World) : Calls Tryz.prog 27 #[.pointer none] w fun en w' => en = .returned (.tuple #[.slice none 0 0, errV 4]) ∧ w = w' := by
  go_enter Tryz.func27, Tryz.ntmps27
  go_wp2
  go_ret2
  exact ⟨rfl, rfl⟩
set_option maxHeartbeats 8000000 in
theorem rputu_any {A : Nat → Prop} {bu bm : Nat} {u : U} (w : World) (h : UnitAt A w bu bm u) (hof : ofErr u.e u.l (sortC u.cells) = 0) (hlen : u.cells.length ≤ 65536) :
    Calls Tryz.prog 27 #[.pointer (some ⟨bu, 0, none⟩)] w (PutUR (putU u.e u.l (sortC u.cells)) w) := by
  obtain ⟨r1, r2, r3, r4, hR, _⟩ := right_of hof
  have HU := Lib.hid' h
  have HEN := Lib.hid' (entries_any w h (by omega))
  have hml : (sortC u.cells).length ≤ 65536 := by rw [sortC_len]; exact hlen
  clear h hof hlen
  obtain ⟨M, hM⟩ : ∃ M, M = sortC u.cells := ⟨_, rfl⟩
  have HMM := Lib.hid' hM
  rw [← hM] at hR hml ⊢
  clear hM
  obtain ⟨en', hen⟩ : ∃ n : Nat, u.e = n := ⟨u.e.toNat, by omega⟩
  obtain ⟨ln, hln⟩ : ∃ n : Nat, u.l = n := ⟨u.l.toNat, by omega⟩
  have HE1 := Lib.hid' (fun wq hq => epoch_any (u := u) (A := A) (bu := bu) (bm := bm) wq hq)
  have HL1 := Lib.hid' (fun wq hq => low_any (u := u) (A := A) (bu := bu) (bm := bm) wq hq)
  rw [hen] at HE1 r1 r2 ⊢
  rw [hln] at HL1 hR r3 r4 ⊢
  have HRL := Lib.hid' hR
  clear hR hen hln
  go_enter Tryz.func27, Tryz.ntmps27
  go_wp2_with fail
  refine HEN.out.mono ?_
  clear HEN
  rintro en w1 ⟨E, ea, ec, rfl, hem, ho, hoe, hb1⟩
  have HEM := Lib.hid' (show E.map noAd = M from hem.trans HMM.out.symm)
  have hel : E.length = M.length := by rw [← HEM.out, List.length_map]
  have HELM := Lib.hid' hel
  have hel2 : E.length ≤ 65536 := by omega
  have HEL := Lib.hid' (show EL w1 ea ec E from ⟨SlV.of_own ho, fun x hx => SlV.of_own (hoe x hx)⟩)
  have HU1 := Lib.hid' (HU.out.below (Nat.le_refl _) hb1)
  have HB1 := Lib.hid' hb1
  clear hem ho hoe hb1 HU HMM hel
  go_wp2_with fail
  refine (HE1.out _ HU1.out).mono ?_
  rintro en wz ⟨rfl, rfl⟩
  go_wp2_with fail
  refine (HL1.out _ HU1.out).mono ?_
  rintro en wz ⟨rfl, rfl⟩
  go_wp2_with fail
  have HUS := Lib.hid' (us_three w1 en' ln E.length 86)
  have H0 : Sep w1 NoF [] w1 := Sep.start _
  have H1 : Sep w1 NoF [] ((w1.alloc (.cells #[.int .u64 (en' : Int), .int .u64 (ln : Int), .int .u64 (E.length : Int)] 86))) := (H0.allocX (.cells #[.int .u64 (en' : Int), .int .u64 (ln : Int), .int .u64 (E.length : Int)] 86))
  clear H0
  generalize (w1.alloc (.cells #[.int .u64 (en' : Int), .int .u64 (ln : Int), .int .u64 (E.length : Int)] 86)) = w2 at *
  refine (vPut_any [] none 0 [en', ln, E.length] _ _ w2 (SlV.empty _ _ _ (Nat.zero_le _) (fun _ => rfl)) HUS.out (by intro n hn; simp only [List.mem_cons, List.not_mem_nil, or_false] at hn; omega) (by simp) (by simp)).mono ?_
  rintro e w3 ⟨a3, c3, rfl, ho, hb3⟩
  obtain ⟨t0, ht0⟩ : ∃ t0, t0 = [] ++ vbs [en', ln, E.length] := ⟨_, rfl⟩
  have htl : t0.length ≤ 30 := by rw [ht0, List.nil_append]; exact Nat.le_trans (vbs_len (by intro n hn; simp only [List.mem_cons, List.not_mem_nil, or_false] at hn; omega)) (by simp)
  have HT0 := Lib.hid' (show t0 ++ entsB (ln : Int) M = unitB (en' : Int) (ln : Int) M by
    rw [ht0]; unfold unitB vbs; rw [HELM.out]; simp)
  rw [← ht0] at ho ⊢
  clear ht0 HUS
  have H2 : Sep w1 NoF [.row 5 1 (.slice a3 t0.length c3) (t0.length) (byteVs t0)] (w3) := (H1.belowRow hb3 ho)
  clear H1 hb3 ho
  go_wp2_with fail
  refine (HL1.out w3 (HU1.out.below (Nat.le_refl _) H2.toBelow)).mono ?_
  rintro en wz ⟨rfl, rfl⟩
  go_wp2_with fail
  go_loopw [31, 5, 6] (fun v31 v5 v6 wr => ∃ (k : Nat) (t : List UInt8) (ba : Option Addr) (bc : Nat) (f : Int), v31 = .int .i64 k ∧ k ≤ E.length ∧ v5 = .slice ba t.length bc ∧ v6 = .int .i64 f ∧ Hid (t = t0 ++ entsB (ln : Int) (M.take k)) ∧ Hid (f = nextF (ln : Int) (M.take k)) ∧ Sep w1 NoF [.row 5 1 (.slice ba t.length bc) t.length (byteVs t)] wr) (fun v31 _ _ _ => E.length - (intOf v31).toNat)
  case atStart => exact ⟨0, t0, a3, c3, ln, rfl, Nat.zero_le _, rfl, rfl, Lib.hid' (by simp [entsB]), Lib.hid' (by simp [nextF]), H2⟩
  case round =>
    clear H2
    obtain ⟨k, t, ba, bc, f, rfl, hk, rfl, rfl, HT, HF, H0⟩ := hrel
    have htl2 : t.length ≤ 30 + 90 * k := by
      rw [HT.out, List.length_append]
      have := entsB_len (M.take k) (ln : Int) r3 (right_take HRL.out k)
      have h2 : (M.take k).length ≤ k := by rw [List.length_take]; omega
      omega
    by_cases hlt : k < E.length
    · skip
      have hkm : k < M.length := by have := HELM.out; omega
      obtain ⟨eb, off, rfl, hebl, c0, c1, c2, hdl⟩ := (HEL.out.below (Nat.le_refl _) H0.toBelow).at hlt
      have HBY := Lib.hid' (HEL.out.2 _ (List.getElem_mem hlt))
      have HX := Lib.hid' (show M[k] = noAd E[k] by
        have h5 := HEM.out
        subst h5
        simp)
      obtain ⟨n1, n2⟩ := nextF_le HRL.out hkm
      obtain ⟨x1, x2, x3⟩ := HRL.out.1 _ (List.getElem_mem hkm)
      have HSN := Lib.hid' (show entsB (ln : Int) (M.take (k + 1)) = entsB (ln : Int) (M.take k) ++ (vb (M[k].1 - nextF (ln : Int) (M.take k)).toNat ++ cellB M[k].2) by rw [List.take_succ_eq_append_getElem hkm, entsB_snoc])
      have HNN := Lib.hid' (show nextF (ln : Int) (M.take (k + 1)) = M[k].1 + 1 by rw [List.take_succ_eq_append_getElem hkm, nextF_snoc])
      rw [HX.out] at HSN HNN n2 x1 x2 x3
      rw [← HF.out] at HSN n1 n2
      clear HX
      generalize E[k] = x at *
      obtain ⟨xa, xc, xd, xn⟩ := x
      unfold noAd at HSN HNN n2 x1 x2 x3
      simp only at HSN HNN n2 x1 x2 x3 c0 c1 c2 hdl HBY
      obtain ⟨dn, hdn⟩ : ∃ n : Nat, xa - f = n := ⟨(xa - f).toNat, by omega⟩
      have HDN := Lib.hid' (show (xa - f).toNat = dn by omega)
      rw [HDN.out] at HSN
      have hdn2 : dn < 1048576 := by omega
      have HDD := Lib.hid' hdn
      clear hdn
      go_upto_region 9 with fail
      have H1 : Sep w1 NoF [.box (wr.heap.size) [.int .i64 xa, .int .i64 xc.k, .slice xd xc.d.length xn] 118, .row 5 1 (.slice ba t.length bc) (t.length) (byteVs t)] ((wr.alloc (.cells #[.int .i64 xa, .int .i64 xc.k, .slice xd xc.d.length xn] 118))) := (H0.allocAt (wr.heap.size) [.int .i64 xa, .int .i64 xc.k, .slice xd xc.d.length xn] 118 (by simp))
      clear H0 c0 c1 c2
      generalize (wr.alloc (.cells #[.int .i64 xa, .int .i64 xc.k, .slice xd xc.d.length xn] 118)) = w4 at *
      have Xc0 := H1.cell 0 rfl 0 rfl
      have Xc1 := H1.cell 0 rfl 1 rfl
      have Xc2 := H1.cell 0 rfl 2 rfl
      have Xl := H1.lt 0 rfl
      have hs1 : IntKind.i64.wrap (xa - f) = (dn : Int) := by rw [HDD.out]; exact IntWalk.i64_in _ (by omega)
      have hs2 : IntKind.i64.wrap (xa + -f) = (dn : Int) := by rw [show xa + -f = xa - f by omega]; exact hs1
      go_wp2_with fail
      have HU2 := Lib.hid' (us_one w4 dn 86)
      have H2 : Sep w1 NoF [.box (wr.heap.size) [.int .i64 xa, .int .i64 xc.k, .slice xd xc.d.length xn] 118, .row 5 1 (.slice ba t.length bc) (t.length) (byteVs t)] ((w4.alloc (.cells #[.int .u64 (dn : Int)] 86))) := (H1.allocX (.cells #[.int .u64 (dn : Int)] 86))
      clear Xc0 Xc1 Xc2 Xl
      clear H1
      generalize (w4.alloc (.cells #[.int .u64 (dn : Int)] 86)) = w5 at *
      have hbt : Bytes w5 (.slice ba t.length bc) t := SlV.of_own (H2.row 1 rfl)
      refine (vPut_any t ba bc [dn] _ _ w5 hbt HU2.out (by intro n hn; simp only [List.mem_singleton] at hn; omega) (by omega) (by simp)).mono ?_
      rintro en w6 ⟨a6, c6, rfl, ho, hb6⟩
      have hvl := vb_len_le (n := dn) (k := 3) (by decide) (by omega)
      have HVB := Lib.hid' (show t ++ vbs [dn] = t ++ vb dn by simp [vbs])
      rw [HVB.out] at ho ⊢
      clear HVB HU2 hs1 hs2
      have H3 : Sep w1 NoF [.row 5 1 (.slice a6 (t ++ vb dn).length c6) ((t ++ vb dn).length) (byteVs (t ++ vb dn)), .box (wr.heap.size) [.int .i64 xa, .int .i64 xc.k, .slice xd xc.d.length xn] 118, .row 5 1 (.slice ba t.length bc) (t.length) (byteVs t)] (w6) := (H2.belowRow hb6 ho)
      clear H2 hbt hb6 ho
      have HT2 := Lib.hid' (show (t ++ vb dn).length ≤ 536870912 by rw [List.length_append]; omega)
      obtain ⟨t2, ht2⟩ : ∃ t2, t2 = t ++ vb dn := ⟨_, rfl⟩
      rw [← ht2] at H3 HT2 ⊢
      have HTT := Lib.hid' ht2
      clear ht2
      have Xc0 := H3.cell 1 rfl 0 rfl
      have Xc1 := H3.cell 1 rfl 1 rfl
      have Xc2 := H3.cell 1 rfl 2 rfl
      have Xl := H3.lt 1 rfl
      go_wp2_with fail
      have hbt : Bytes w6 (.slice a6 t2.length c6) t2 := SlV.of_own (H3.row 0 rfl)
      refine (cput_any t2 a6 c6 xc xd xn w6 hbt (H3.oldBytes HBY.out) x3 HT2.out).mono ?_
      rintro en w7 ⟨a7, c7, rfl, ho, hb7⟩
      have H4 : Sep w1 NoF [.row 5 1 (.slice a7 (t2 ++ cellB xc).length c7) ((t2 ++ cellB xc).length) (byteVs (t2 ++ cellB xc)), .row 5 1 (.slice a6 t2.length c6) (t2.length) (byteVs t2), .box (wr.heap.size) [.int .i64 xa, .int .i64 xc.k, .slice xd xc.d.length xn] 118, .row 5 1 (.slice ba t.length bc) (t.length) (byteVs t)] (w7) := (H3.belowRow hb7 ho)
      clear Xc0 Xc1 Xc2 Xl
      clear H3 hbt hb7 ho
      obtain ⟨t3, ht3⟩ : ∃ t3, t3 = t2 ++ cellB xc := ⟨_, rfl⟩
      rw [← ht3] at H4 ⊢
      have HT3 := Lib.hid' (show t3 = t0 ++ entsB (ln : Int) (M.take (k + 1)) by rw [ht3, HTT.out, HT.out, HSN.out]; simp only [List.append_assoc])
      clear ht3
      have Xc0 := H4.cell 2 rfl 0 rfl
      have Xc1 := H4.cell 2 rfl 1 rfl
      have Xc2 := H4.cell 2 rfl 2 rfl
      have Xl := H4.lt 2 rfl
      go_upto_region 13 with fail
      go_region
      go_wp2_with fail
      have H5 : Sep w1 NoF [.row 5 1 (.slice a7 t3.length c7) (t3.length) (byteVs t3)] (w7) := ((((H4.drop 1).drop 1).drop 1).focus 0 rfl)
      clear Xc0 Xc1 Xc2 Xl
      clear H4
      go_roundw
      case rel => exact ⟨k + 1, t3, a7, c7, xa + 1, by go_num, by omega, rfl, rfl, HT3, Lib.hid' HNN.out.symm, (by first | exact H5 | exact H5.drew)⟩
      case measure => simp [intOf]; omega
    obtain rfl : k = E.length := by omega
    have HTE := Lib.hid' (show t = unitB (en' : Int) (ln : Int) M by rw [HT.out, ← HT0.out, HELM.out, List.take_length])
    have hbt : Bytes wr (.slice ba t.length bc) t := SlV.of_own (H0.row 0 rfl)
    have HFP := Lib.hid' (fput_any [] t none ba 0 bc wr (SlV.empty _ _ _ (Nat.zero_le _) (fun _ => rfl)) hbt (by simp))
    have HN := Lib.hid' (show putU (en' : Int) (ln : Int) M = (fputN t, fputB [] t) by
      unfold putU fputN fputB; rw [← HTE.out]; split <;> simp)
    have HBB := Lib.hid' (HB1.out.trans (H0.toBelow.mono HB1.out.size))
    clear hbt
    go_wp2_with fail
    refine HFP.out.mono ?_
    clear HFP
    rintro en w9 ⟨a9, c9, rfl, ho, hb9⟩
    have HO := Lib.hid' (own_base (B' := w.heap.size) ho HBB.out.size)
    have HB9 := Lib.hid' (HBB.out.trans (hb9.mono HBB.out.size))
    generalize fputB [] t = x at *
    generalize fputN t = y at *
    clear ho hb9
    go_wp2
    go_ret2
    rw [HN.out]
    exact ⟨a9, c9, rfl, HO.out, HB9.out⟩
end Go.Proofs.YtkljeefncopodaaGreat
