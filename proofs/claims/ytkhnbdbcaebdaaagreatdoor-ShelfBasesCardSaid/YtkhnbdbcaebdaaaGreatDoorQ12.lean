/- Proved here: a part of the proof (12 of 12). -/
import Derived.Test.YtkhnbdbcaebdaaaGreatDoorQ11
import Derived.Lib.SlBytesConst
namespace Go.Proofs.YtkhnbdbcaebdaaaGreatDoor
open Go.RowKit
set_option linter.unusedSimpArgs false
set_option linter.unusedVariables false
set_option maxRecDepth 100000

def CPutR (t : List UInt8) (w : World) (e : Ending) (w' : World) : Prop :=
  ∃ a c, e = .returned (.tuple #[.slice a t.length c, .nilIface]) ∧ w'.ownsRow w.heap.size 5 1 (.slice a t.length c) t.length (byteVs t) ∧ Below w.heap.size w w'
set_option maxHeartbeats 4000000 in
theorem cput_any (b : List UInt8) (a : Option Addr) (bc : Nat) (c : C) (da : Option Addr) (dc : Nat) (w : World) (h : Bytes w (.slice a b.length bc) b) (hd : Bytes w (.slice da c.d.length dc) c.d) (hc : c.check = 0) (hb : b.length ≤ 536870912) :
    Calls Tryz.prog 69 #[.slice a b.length bc, .agg #[.int .i64 c.k, .slice da c.d.length dc]] w (CPutR (b ++ cellB c) w) := by
  have HD := Lib.hid' h
  have HDD := Lib.hid' hd
  have HCK := Lib.hid' (fun wq hq => check_any (.agg #[.int .i64 c.k, .slice da c.d.length dc]) c wq hq)
  rw [hc] at HCK
  obtain ⟨g1, g2, g3, g4⟩ := check_parts hc
  clear h hd hc
  obtain ⟨k, d⟩ := c
  simp only at HDD HCK g1 g2 g3 g4 ⊢
  obtain ⟨k, rfl⟩ : ∃ n : Nat, k = n := ⟨k.toNat, by omega⟩
  have hvl := vb_len_le (n := k) (k := 1) (by decide) (by omega)
  clear g4
  by_cases hk1 : k = 1
  · skip
    subst hk1
    go_enter Tryz.func69, Tryz.ntmps69
    go_wp2_with fail
    have H0 : Sep w NoF [] w := Sep.start _
    have H1 : Sep w NoF [.box (w.heap.size) [.int .i64 1, .slice da d.length dc] 57] ((w.alloc (.cells #[.int .i64 1, .slice da d.length dc] 57))) := (H0.allocAt (w.heap.size) [.int .i64 1, .slice da d.length dc] 57 (by simp))
    clear H0
    generalize (w.alloc (.cells #[.int .i64 1, .slice da d.length dc] 57)) = w1 at *
    refine (HCK.out w1 ⟨da, dc, rfl, H1.oldBytes HDD.out⟩).mono ?_
    rintro e w2 ⟨rfl, hb2⟩
    have H2 : Sep w NoF [.box (w.heap.size) [.int .i64 1, .slice da d.length dc] 57] (w2) := (H1.below hb2)
    clear H1 hb2
    rw [errV_0]
    have Xc0 := H2.cell 0 rfl 0 rfl
    have Xc1 := H2.cell 0 rfl 1 rfl
    have Xl := H2.lt 0 rfl
    go_wp2_with fail
    have hU := us_one w2 1 113
    have HU := Lib.hid' hU
    clear hU
    have H3 : Sep w NoF [.box (w.heap.size) [.int .i64 1, .slice da d.length dc] 57] ((w2.alloc (.cells #[.int .u64 1] 113))) := (H2.allocX (.cells #[.int .u64 1] 113))
    clear Xc0 Xc1 Xl
    clear H2
    generalize (w2.alloc (.cells #[.int .u64 1] 113)) = w3 at *
    refine (vPut_any b a bc [1] _ _ w3 (H3.oldBytes HD.out) HU.out (by intro n hn; simp only [List.mem_singleton] at hn; omega) (by omega) (by simp)).mono ?_
    rintro e w4 ⟨a4, c4, rfl, ho, hb4⟩
    have HVB := Lib.hid' (show b ++ vbs [1] = b ++ vb 1 by simp [vbs])
    rw [HVB.out] at ho ⊢
    clear HVB HU
    have H4 : Sep w NoF [.row 5 1 (.slice a4 (b ++ vb 1).length c4) ((b ++ vb 1).length) (byteVs (b ++ vb 1)), .box (w.heap.size) [.int .i64 1, .slice da d.length dc] 57] (w4) := (H3.belowRow hb4 ho)
    clear H3 hb4 ho
    obtain ⟨t, ht⟩ : ∃ t, t = b ++ vb 1 := ⟨_, rfl⟩
    have HT := Lib.hid' ht
    have htl : t.length ≤ 536870913 := by rw [ht, List.length_append]; omega
    rw [← ht] at H4 ⊢
    clear ht
    have Xc0 := H4.cell 1 rfl 0 rfl
    have Xc1 := H4.cell 1 rfl 1 rfl
    have Xl := H4.lt 1 rfl
    go_wp2_with fail
    have hbt : Bytes w4 (.slice a4 t.length c4) t := SlV.of_own (H4.row 0 rfl)
    refine (vPutText_any t d a4 da c4 dc w4 hbt (H4.oldBytes HDD.out) (by omega) (by omega)).mono ?_
    rintro e w5 ⟨a5, c5, rfl, ho, hb5⟩
    have HRR := Lib.hid' (show t ++ headB d = b ++ cellB ⟨((1 : Nat) : Int), d⟩ by rw [HT.out]; unfold cellB; simp)
    rw [HRR.out] at ho ⊢
    have H5 : Sep w NoF [.row 5 1 (.slice a5 (b ++ cellB ⟨((1 : Nat) : Int), d⟩).length c5) ((b ++ cellB ⟨((1 : Nat) : Int), d⟩).length) (byteVs (b ++ cellB ⟨((1 : Nat) : Int), d⟩)), .row 5 1 (.slice a4 t.length c4) (t.length) (byteVs t), .box (w.heap.size) [.int .i64 1, .slice da d.length dc] 57] (w5) := (H4.belowRow hb5 ho)
    clear Xc0 Xc1 Xl
    clear H4 hbt hb5 ho
    generalize b ++ cellB ⟨((1 : Nat) : Int), d⟩ = x at *
    go_wp2
    go_ret2
    exact ⟨a5, c5, rfl, H5.own 0 rfl, H5.toBelow⟩
  have hkb : ((k : Int) == 1) = false := by rw [beq_eq_false_iff_ne]; omega
  go_enter Tryz.func69, Tryz.ntmps69
  go_wp2_with fail
  have H0 : Sep w NoF [] w := Sep.start _
  have H1 : Sep w NoF [.box (w.heap.size) [.int .i64 (k : Int), .slice da d.length dc] 57] ((w.alloc (.cells #[.int .i64 (k : Int), .slice da d.length dc] 57))) := (H0.allocAt (w.heap.size) [.int .i64 (k : Int), .slice da d.length dc] 57 (by simp))
  clear H0
  generalize (w.alloc (.cells #[.int .i64 (k : Int), .slice da d.length dc] 57)) = w1 at *
  refine (HCK.out w1 ⟨da, dc, rfl, H1.oldBytes HDD.out⟩).mono ?_
  rintro e w2 ⟨rfl, hb2⟩
  have H2 : Sep w NoF [.box (w.heap.size) [.int .i64 (k : Int), .slice da d.length dc] 57] (w2) := (H1.below hb2)
  clear H1 hb2
  rw [errV_0]
  have Xc0 := H2.cell 0 rfl 0 rfl
  have Xc1 := H2.cell 0 rfl 1 rfl
  have Xl := H2.lt 0 rfl
  go_wp2_with fail
  have hU := us_one w2 k 113
  have HU := Lib.hid' hU
  clear hU
  have H3 : Sep w NoF [.box (w.heap.size) [.int .i64 (k : Int), .slice da d.length dc] 57] ((w2.alloc (.cells #[.int .u64 (k : Int)] 113))) := (H2.allocX (.cells #[.int .u64 (k : Int)] 113))
  clear Xc0 Xc1 Xl
  clear H2
  generalize (w2.alloc (.cells #[.int .u64 (k : Int)] 113)) = w3 at *
  refine (vPut_any b a bc [k] _ _ w3 (H3.oldBytes HD.out) HU.out (by intro n hn; simp only [List.mem_singleton] at hn; omega) (by omega) (by simp)).mono ?_
  rintro e w4 ⟨a4, c4, rfl, ho, hb4⟩
  have HVB := Lib.hid' (show b ++ vbs [k] = b ++ vb k by simp [vbs])
  rw [HVB.out] at ho ⊢
  clear HVB HU
  have H4 : Sep w NoF [.row 5 1 (.slice a4 (b ++ vb k).length c4) ((b ++ vb k).length) (byteVs (b ++ vb k)), .box (w.heap.size) [.int .i64 (k : Int), .slice da d.length dc] 57] (w4) := (H3.belowRow hb4 ho)
  clear H3 hb4 ho
  obtain ⟨t, ht⟩ : ∃ t, t = b ++ vb k := ⟨_, rfl⟩
  have HT := Lib.hid' ht
  have htl : t.length ≤ 536870913 := by rw [ht, List.length_append]; omega
  rw [← ht] at H4 ⊢
  clear ht
  have Xc0 := H4.cell 1 rfl 0 rfl
  have Xc1 := H4.cell 1 rfl 1 rfl
  have Xl := H4.lt 1 rfl
  have HRR := Lib.hid' (show t = b ++ cellB ⟨(k : Int), d⟩ by rw [HT.out]; unfold cellB; simp; omega)
  go_wp2
  go_ret2
  rw [← HRR.out]
  exact ⟨a4, c4, rfl, H4.own 0 rfl, H4.toBelow⟩
/-- what follows behind entries -/
def nextF (f : Int) (L : List (Int × C)) : Int := match L.getLast? with | none => f | some p => p.1 + 1
theorem entsB_snoc : ∀ (L : List (Int × C)) (f : Int) (p : Int × C), entsB f (L ++ [p]) = entsB f L ++ (vb (p.1 - nextF f L).toNat ++ cellB p.2)
  | [], f, p => by simp [entsB, nextF]
  | q :: L, f, p => by
    simp only [List.cons_append, entsB]
    rw [entsB_snoc L (q.1 + 1) p]
    have : nextF f (q :: L) = nextF (q.1 + 1) L := by
      unfold nextF
      cases L with
      | nil => rfl
      | cons r L => rw [List.getLast?_cons_cons]; cases h : (r :: L).getLast? with
        | none => simp at h
        | some x => rfl
    rw [this]
    simp only [List.append_assoc]
theorem nextF_snoc (L : List (Int × C)) (f : Int) (p : Int × C) : nextF f (L ++ [p]) = p.1 + 1 := by unfold nextF; simp
theorem right_take {f : Int} {L : List (Int × C)} (h : RightL f L) (k : Nat) : RightL f (L.take k) := ⟨fun p hp => h.1 p (List.mem_of_mem_take hp), h.2.sublist (List.take_sublist _ _)⟩
theorem nextF_le {f : Int} {L : List (Int × C)} (h : RightL f L) {k : Nat} (hk : k < L.length) : f ≤ nextF f (L.take k) ∧ nextF f (L.take k) ≤ L[k].1 := by
  cases k with
  | zero => exact ⟨by simp [nextF], by simp only [List.take_zero]; exact (h.1 _ (List.getElem_mem hk)).1⟩
  | succ j =>
    rw [List.take_succ_eq_append_getElem (by omega), nextF_snoc]
    have h1 := (h.1 _ (List.getElem_mem (l := L) (n := j) (by omega))).1
    have h2 := List.pairwise_iff_getElem.1 h.2 j (j + 1) (by omega) hk (by omega)
    omega
def PutUR (p : Nat × List UInt8) (w : World) (en : Ending) (w' : World) : Prop :=
  ∃ a c, en = .returned (.tuple #[.slice a p.2.length c, errV p.1]) ∧ w'.ownsRow w.heap.size 5 1 (.slice a p.2.length c) p.2.length (byteVs p.2) ∧ Below w.heap.size w w'
theorem us_three (w : World) (x y z : Nat) (t : Nat) : Us (w.alloc (.cells #[.int .u64 (x : Int), .int .u64 (y : Int), .int .u64 (z : Int)] t)) (.slice (some ⟨w.heap.size, 0, none⟩) 3 3) [x, y, z] :=
  SlV.new w [.int .u64 (x : Int), .int .u64 (y : Int), .int .u64 (z : Int)] 3 t (by decide)
set_option maxHeartbeats 8000000 in
theorem rputu_any {A : Nat → Prop} {bu bm : Nat} {u : U} (w : World) (h : UnitAt A w bu bm u) (hof : ofErr u.e u.l (sortC u.cells) = 0) (hlen : u.cells.length ≤ 65536) :
    Calls Tryz.prog 32 #[.pointer (some ⟨bu, 0, none⟩)] w (PutUR (putU u.e u.l (sortC u.cells)) w) := by
  obtain ⟨r1, r2, r3, r4, hR, _⟩ := right_of hof
  have HU := Lib.hid' h
  have HEN := Lib.hid' (entries_any w h (by omega))
  have hml : (sortC u.cells).length ≤ 65536 := by rw [sortC_len]; exact hlen
  clear h hof hlen
  obtain ⟨M, hM⟩ : ∃ M, M = sortC u.cells := ⟨_, rfl⟩
  have HMM := Lib.hid' hM
  rw [← hM] at hR hml ⊢
  clear hM
  obtain ⟨en', hen⟩ : ∃ n : Nat, u.e = n := ⟨u.e.toNat, by omega⟩
  obtain ⟨ln, hln⟩ : ∃ n : Nat, u.l = n := ⟨u.l.toNat, by omega⟩
  have HE1 := Lib.hid' (fun wq hq => epoch_any (u := u) (A := A) (bu := bu) (bm := bm) wq hq)
  have HL1 := Lib.hid' (fun wq hq => low_any (u := u) (A := A) (bu := bu) (bm := bm) wq hq)
  rw [hen] at HE1 r1 r2 ⊢
  rw [hln] at HL1 hR r3 r4 ⊢
  have HRL := Lib.hid' hR
  clear hR hen hln
  go_enter Tryz.func32, Tryz.ntmps32
  go_wp2_with fail
  refine HEN.out.mono ?_
  clear HEN
  rintro en w1 ⟨E, ea, ec, rfl, hem, ho, hoe, hb1⟩
  have HEM := Lib.hid' (show E.map noAd = M from hem.trans HMM.out.symm)
  have hel : E.length = M.length := by rw [← HEM.out, List.length_map]
  have HELM := Lib.hid' hel
  have hel2 : E.length ≤ 65536 := by omega
  have HEL := Lib.hid' (show EL w1 ea ec E from ⟨SlV.of_own ho, fun x hx => SlV.of_own (hoe x hx)⟩)
  have HU1 := Lib.hid' (HU.out.below (Nat.le_refl _) hb1)
  have HB1 := Lib.hid' hb1
  clear hem ho hoe hb1 HU HMM hel
  go_wp2_with fail
  refine (HE1.out _ HU1.out).mono ?_
  rintro en wz ⟨rfl, rfl⟩
  go_wp2_with fail
  refine (HL1.out _ HU1.out).mono ?_
  rintro en wz ⟨rfl, rfl⟩
  go_wp2_with fail
  have HUS := Lib.hid' (us_three w1 en' ln E.length 113)
  have H0 : Sep w1 NoF [] w1 := Sep.start _
  have H1 : Sep w1 NoF [] ((w1.alloc (.cells #[.int .u64 (en' : Int), .int .u64 (ln : Int), .int .u64 (E.length : Int)] 113))) := (H0.allocX (.cells #[.int .u64 (en' : Int), .int .u64 (ln : Int), .int .u64 (E.length : Int)] 113))
  clear H0
  generalize (w1.alloc (.cells #[.int .u64 (en' : Int), .int .u64 (ln : Int), .int .u64 (E.length : Int)] 113)) = w2 at *
  refine (vPut_any [] none 0 [en', ln, E.length] _ _ w2 (SlV.empty _ _ _ (Nat.zero_le _) (fun _ => rfl)) HUS.out (by intro n hn; simp only [List.mem_cons, List.not_mem_nil, or_false] at hn; omega) (by simp) (by simp)).mono ?_
  rintro e w3 ⟨a3, c3, rfl, ho, hb3⟩
  obtain ⟨t0, ht0⟩ : ∃ t0, t0 = [] ++ vbs [en', ln, E.length] := ⟨_, rfl⟩
  have htl : t0.length ≤ 30 := by rw [ht0, List.nil_append]; exact Nat.le_trans (vbs_len (by intro n hn; simp only [List.mem_cons, List.not_mem_nil, or_false] at hn; omega)) (by simp)
  have HT0 := Lib.hid' (show t0 ++ entsB (ln : Int) M = unitB (en' : Int) (ln : Int) M by
    rw [ht0]; unfold unitB vbs; rw [HELM.out]; simp)
  rw [← ht0] at ho ⊢
  clear ht0 HUS
  have H2 : Sep w1 NoF [.row 5 1 (.slice a3 t0.length c3) (t0.length) (byteVs t0)] (w3) := (H1.belowRow hb3 ho)
  clear H1 hb3 ho
  go_wp2_with fail
  refine (HL1.out w3 (HU1.out.below (Nat.le_refl _) H2.toBelow)).mono ?_
  rintro en wz ⟨rfl, rfl⟩
  go_wp2_with fail
  go_loopw [31, 5, 6] (fun v31 v5 v6 wr => ∃ (k : Nat) (t : List UInt8) (ba : Option Addr) (bc : Nat) (f : Int), v31 = .int .i64 k ∧ k ≤ E.length ∧ v5 = .slice ba t.length bc ∧ v6 = .int .i64 f ∧ Hid (t = t0 ++ entsB (ln : Int) (M.take k)) ∧ Hid (f = nextF (ln : Int) (M.take k)) ∧ Sep w1 NoF [.row 5 1 (.slice ba t.length bc) t.length (byteVs t)] wr) (fun v31 _ _ _ => E.length - (intOf v31).toNat)
  case atStart => exact ⟨0, t0, a3, c3, ln, rfl, Nat.zero_le _, rfl, rfl, Lib.hid' (by simp [entsB]), Lib.hid' (by simp [nextF]), H2⟩
  case round =>
    clear H2
    obtain ⟨k, t, ba, bc, f, rfl, hk, rfl, rfl, HT, HF, H0⟩ := hrel
    have htl2 : t.length ≤ 30 + 90 * k := by
      rw [HT.out, List.length_append]
      have := entsB_len (M.take k) (ln : Int) r3 (right_take HRL.out k)
      have h2 : (M.take k).length ≤ k := by rw [List.length_take]; omega
      omega
    by_cases hlt : k < E.length
    · skip
      have hkm : k < M.length := by have := HELM.out; omega
      obtain ⟨eb, off, rfl, hebl, c0, c1, c2, hdl⟩ := (HEL.out.below (Nat.le_refl _) H0.toBelow).at hlt
      have HBY := Lib.hid' (HEL.out.2 _ (List.getElem_mem hlt))
      have HX := Lib.hid' (show M[k] = noAd E[k] by
        have h5 := HEM.out
        subst h5
        simp)
      obtain ⟨n1, n2⟩ := nextF_le HRL.out hkm
      obtain ⟨x1, x2, x3⟩ := HRL.out.1 _ (List.getElem_mem hkm)
      have HSN := Lib.hid' (show entsB (ln : Int) (M.take (k + 1)) = entsB (ln : Int) (M.take k) ++ (vb (M[k].1 - nextF (ln : Int) (M.take k)).toNat ++ cellB M[k].2) by rw [List.take_succ_eq_append_getElem hkm, entsB_snoc])
      have HNN := Lib.hid' (show nextF (ln : Int) (M.take (k + 1)) = M[k].1 + 1 by rw [List.take_succ_eq_append_getElem hkm, nextF_snoc])
      rw [HX.out] at HSN HNN n2 x1 x2 x3
      rw [← HF.out] at HSN n1 n2
      clear HX
      generalize E[k] = x at *
      obtain ⟨xa, xc, xd, xn⟩ := x
      unfold noAd at HSN HNN n2 x1 x2 x3
      simp only at HSN HNN n2 x1 x2 x3 c0 c1 c2 hdl HBY
      obtain ⟨dn, hdn⟩ : ∃ n : Nat, xa - f = n := ⟨(xa - f).toNat, by omega⟩
      have HDN := Lib.hid' (show (xa - f).toNat = dn by omega)
      rw [HDN.out] at HSN
      have hdn2 : dn < 1048576 := by omega
      have HDD := Lib.hid' hdn
      clear hdn
      go_upto_region 9 with fail
      have H1 : Sep w1 NoF [.box (wr.heap.size) [.int .i64 xa, .int .i64 xc.k, .slice xd xc.d.length xn] 121, .row 5 1 (.slice ba t.length bc) (t.length) (byteVs t)] ((wr.alloc (.cells #[.int .i64 xa, .int .i64 xc.k, .slice xd xc.d.length xn] 121))) := (H0.allocAt (wr.heap.size) [.int .i64 xa, .int .i64 xc.k, .slice xd xc.d.length xn] 121 (by simp))
      clear H0 c0 c1 c2
      generalize (wr.alloc (.cells #[.int .i64 xa, .int .i64 xc.k, .slice xd xc.d.length xn] 121)) = w4 at *
      have Xc0 := H1.cell 0 rfl 0 rfl
      have Xc1 := H1.cell 0 rfl 1 rfl
      have Xc2 := H1.cell 0 rfl 2 rfl
      have Xl := H1.lt 0 rfl
      have hs1 : IntKind.i64.wrap (xa - f) = (dn : Int) := by rw [HDD.out]; exact IntWalk.i64_in _ (by omega)
      have hs2 : IntKind.i64.wrap (xa + -f) = (dn : Int) := by rw [show xa + -f = xa - f by omega]; exact hs1
      go_wp2_with fail
      have HU2 := Lib.hid' (us_one w4 dn 113)
      have H2 : Sep w1 NoF [.box (wr.heap.size) [.int .i64 xa, .int .i64 xc.k, .slice xd xc.d.length xn] 121, .row 5 1 (.slice ba t.length bc) (t.length) (byteVs t)] ((w4.alloc (.cells #[.int .u64 (dn : Int)] 113))) := (H1.allocX (.cells #[.int .u64 (dn : Int)] 113))
      clear Xc0 Xc1 Xc2 Xl
      clear H1
      generalize (w4.alloc (.cells #[.int .u64 (dn : Int)] 113)) = w5 at *
      have hbt : Bytes w5 (.slice ba t.length bc) t := SlV.of_own (H2.row 1 rfl)
      refine (vPut_any t ba bc [dn] _ _ w5 hbt HU2.out (by intro n hn; simp only [List.mem_singleton] at hn; omega) (by omega) (by simp)).mono ?_
      rintro en w6 ⟨a6, c6, rfl, ho, hb6⟩
      have hvl := vb_len_le (n := dn) (k := 3) (by decide) (by omega)
      have HVB := Lib.hid' (show t ++ vbs [dn] = t ++ vb dn by simp [vbs])
      rw [HVB.out] at ho ⊢
      clear HVB HU2 hs1 hs2
      have H3 : Sep w1 NoF [.row 5 1 (.slice a6 (t ++ vb dn).length c6) ((t ++ vb dn).length) (byteVs (t ++ vb dn)), .box (wr.heap.size) [.int .i64 xa, .int .i64 xc.k, .slice xd xc.d.length xn] 121, .row 5 1 (.slice ba t.length bc) (t.length) (byteVs t)] (w6) := (H2.belowRow hb6 ho)
      clear H2 hbt hb6 ho
      have HT2 := Lib.hid' (show (t ++ vb dn).length ≤ 536870912 by rw [List.length_append]; omega)
      obtain ⟨t2, ht2⟩ : ∃ t2, t2 = t ++ vb dn := ⟨_, rfl⟩
      rw [← ht2] at H3 HT2 ⊢
      have HTT := Lib.hid' ht2
      clear ht2
      have Xc0 := H3.cell 1 rfl 0 rfl
      have Xc1 := H3.cell 1 rfl 1 rfl
      have Xc2 := H3.cell 1 rfl 2 rfl
      have Xl := H3.lt 1 rfl
      go_wp2_with fail
      have hbt : Bytes w6 (.slice a6 t2.length c6) t2 := SlV.of_own (H3.row 0 rfl)
      refine (cput_any t2 a6 c6 xc xd xn w6 hbt (H3.oldBytes HBY.out) x3 HT2.out).mono ?_
      rintro en w7 ⟨a7, c7, rfl, ho, hb7⟩
      have H4 : Sep w1 NoF [.row 5 1 (.slice a7 (t2 ++ cellB xc).length c7) ((t2 ++ cellB xc).length) (byteVs (t2 ++ cellB xc)), .row 5 1 (.slice a6 t2.length c6) (t2.length) (byteVs t2), .box (wr.heap.size) [.int .i64 xa, .int .i64 xc.k, .slice xd xc.d.length xn] 121, .row 5 1 (.slice ba t.length bc) (t.length) (byteVs t)] (w7) := (H3.belowRow hb7 ho)
      clear Xc0 Xc1 Xc2 Xl
      clear H3 hbt hb7 ho
      obtain ⟨t3, ht3⟩ : ∃ t3, t3 = t2 ++ cellB xc := ⟨_, rfl⟩
      rw [← ht3] at H4 ⊢
      have HT3 := Lib.hid' (show t3 = t0 ++ entsB (ln : Int) (M.take (k + 1)) by rw [ht3, HTT.out, HT.out, HSN.out]; simp only [List.append_assoc])
      clear ht3
      have Xc0 := H4.cell 2 rfl 0 rfl
      have Xc1 := H4.cell 2 rfl 1 rfl
      have Xc2 := H4.cell 2 rfl 2 rfl
      have Xl := H4.lt 2 rfl
      go_upto_region 13 with fail
      go_region
      go_wp2_with fail
      have H5 : Sep w1 NoF [.row 5 1 (.slice a7 t3.length c7) (t3.length) (byteVs t3)] (w7) := ((((H4.drop 1).drop 1).drop 1).focus 0 rfl)
      clear Xc0 Xc1 Xc2 Xl
      clear H4
      go_roundw
      case rel => exact ⟨k + 1, t3, a7, c7, xa + 1, by go_num, by omega, rfl, rfl, HT3, Lib.hid' HNN.out.symm, (by first | exact H5 | exact H5.drew)⟩
      case measure => simp [intOf]; omega
    obtain rfl : k = E.length := by omega
    have HTE := Lib.hid' (show t = unitB (en' : Int) (ln : Int) M by rw [HT.out, ← HT0.out, HELM.out, List.take_length])
    have hbt : Bytes wr (.slice ba t.length bc) t := SlV.of_own (H0.row 0 rfl)
    have HFP := Lib.hid' (fput_any [] t none ba 0 bc wr (SlV.empty _ _ _ (Nat.zero_le _) (fun _ => rfl)) hbt (by simp))
    have HN := Lib.hid' (show putU (en' : Int) (ln : Int) M = (fputN t, fputB [] t) by
      unfold putU fputN fputB; rw [← HTE.out]; split <;> simp)
    have HBB := Lib.hid' (HB1.out.trans (H0.toBelow.mono HB1.out.size))
    clear hbt
    go_wp2_with fail
    refine HFP.out.mono ?_
    clear HFP
    rintro en w9 ⟨a9, c9, rfl, ho, hb9⟩
    have HO := Lib.hid' (own_base (B' := w.heap.size) ho HBB.out.size)
    have HB9 := Lib.hid' (HBB.out.trans (hb9.mono HBB.out.size))
    generalize fputB [] t = x at *
    generalize fputN t = y at *
    clear ho hb9
    go_wp2
    go_ret2
    rw [HN.out]
    exact ⟨a9, c9, rfl, HO.out, HB9.out⟩
end Go.Proofs.YtkhnbdbcaebdaaaGreatDoor

namespace Go.Proofs.YtkhnbdbcaebdaaaGreatDoor
open Go.RowKit
set_option linter.unusedSimpArgs false
set_option linter.unusedVariables false
set_option maxRecDepth 100000
namespace SH
open DK
theorem unit_of {u : U} (h : u.ok) : ofErr u.e u.l (sortC u.cells) = 0 := by
  refine of_right h.e0 h.e1 h.l0 h.l1 ⟨fun p hp => ?_, sortC_rise _ h.nodup⟩ ?_
  · have hp' := (sortC_mem _ h.nodup p).1 hp
    have h1 := h.addr p hp'
    obtain ⟨h2, h3⟩ := h.kind p hp'
    refine ⟨h1.1, h1.2, ?_⟩
    obtain ⟨a, k, d⟩ := p
    simp only at h2 h3 ⊢
    rcases h2 with rfl | ⟨rfl, rfl⟩
    · exact check_mk (by decide) (by decide) h3 (fun h => absurd rfl h)
    · exact check_mk (by decide) (by decide) h3 (fun _ => rfl)
  · rw [Bool.not_eq_true, List.any_eq_false]
    intro p hp
    obtain ⟨h2, _⟩ := h.kind p ((sortC_mem _ h.nodup p).1 hp)
    obtain ⟨a, k, d⟩ := p
    simp only at h2
    rcases h2 with rfl | ⟨rfl, rfl⟩ <;> simp [noneE]
theorem tl_ne {x y : Nm} (h : ¬ x = y) : (x.toList == y.toList) = false := by
  rw [beq_eq_false_iff_ne]
  intro e
  rw [ba_toList, ba_toList] at e
  cases x; cases y
  exact h (congrArg ByteArray.mk (Array.toList_inj.1 e))
theorem numV_eq (o : Option Nat) : numV o = .tuple #[.int .i64 ((o.getD 0 : Nat) : Int), .bool o.isSome] := by cases o <;> rfl
theorem numb_any (b : UInt8) (x : Nm) (w : World) (hx : x.size ≤ 9223372036854775807) : Calls Tryz.prog 54 #[.string ⟨#[b]⟩, .string x] w fun e w' => e = .returned (.tuple #[.int .i64 (((numberN b x).getD 0 : Nat) : Int), .bool (numberN b x).isSome]) ∧ Below w.heap.size w w' := by
  have := DK.number_any b x w hx
  rwa [numV_eq] at this
theorem sweepS_skip {keep x : Nm} {l : List Nm} {D : Dk} (h : ¬ (((numberN 114 x).isSome = true ∨ (numberN 98 x).isSome = true) ∧ x ≠ keep)) : sweepS keep (x :: l) D = sweepS keep l D := by rw [sweepS, if_neg h]
theorem sweepS_take {keep x : Nm} {l : List Nm} {D : Dk} (h : ((numberN 114 x).isSome = true ∨ (numberN 98 x).isSome = true) ∧ x ≠ keep) (h1 : (dropD D x).1 = 0) : sweepS keep (x :: l) D = sweepS keep l (dropD D x).2 := by rw [sweepS, if_pos h, if_neg (by omega)]
theorem sweepS_bad {keep x : Nm} {l : List Nm} {D : Dk} (h : ((numberN 114 x).isSome = true ∨ (numberN 98 x).isSome = true) ∧ x ≠ keep) (h1 : ¬ (dropD D x).1 = 0) : sweepS keep (x :: l) D = dropD D x := by rw [sweepS, if_pos h, if_pos h1]
theorem pend_drop (D : Dk) (n : Nm) : (dropD D n).2.pend.length ≤ D.pend.length + 1 := by
  have h1 := pend_remove D n
  have h2 := pend_sync (removeD D n).2
  unfold dropD
  split
  · simp
  · split
    · exact h1
    · omega
def SwR (q p bu bm N : Nat) (S : Sf) (r : Nat × Dk) (vs : PoolL) (L : List Asn) (F Z : Nat → Prop) (w0 : World) (en : Ending) (w' : World) : Prop :=
  en = .returned (errV r.1) ∧ ∃ G2, Sep w0 F (shL q p bu bm N S r.2 vs Z G2 L) w'
theorem objs_len {m : Nat} {D : Dk} (ho : Ok m D) (b : Nm) : (objs D b).length ≤ m := by
  have h1 := listN_len (namesOf D.shown) b (namesOf D.shown).length
  rw [List.take_length] at h1
  have h2 := names_len ho
  unfold objs; omega
theorem sh_turnR {q p bu bm N : Nat} {S : Sf} {D D' : Dk} {vs : PoolL} {L : List Asn} {F Z G1 G2 : Nat → Prop} {w0 w w' : World} {A : Asn} (h : Sep w0 F (A :: shL q p bu bm N S D vs Z G1 L) w) (k : Sep w G1 [Asn.disk N D' G2] w') : Sep w0 F (A :: shL q p bu bm N S D' vs Z G2 L) w' := by
  have h1 := (h.focus 5 rfl).call k
  exact ((((h1.focus 5 rfl).focus 5 rfl).focus 5 rfl).focus 5 rfl).focus 5 rfl
set_option maxHeartbeats 16000000 in
theorem sweep_any {m q p bu bm N : Nat} {S : Sf} {D : Dk} {vs : PoolL} {L : List Asn} {F Z G1 : Nat → Prop} {w0 : World} (keep : Nm) (w : World) (h : Sep w0 F (shL q p bu bm N S D vs Z G1 L) w) (ho : Ok m D) (hm : m ≤ 536870000) (hpd : D.pend.length ≤ 536870000) :
    Calls Tryz.prog 33 #[ptrV q, .string keep] w (SwR q p bu bm N S (sweepAll keep D) vs L F Z w0) := by
  have hin := sh_in h
  have c0 := hin.c0
  have lq := hin.lq
  have HL := Lib.hid' (slist_any ⟨#[]⟩ w (sh_disk h).1 (sh_disk h).2 ho (by omega))
  have hll := objs_len ho ⟨#[]⟩
  have HSZ := Lib.hid' (show ∀ x ∈ (slistD D ⟨#[]⟩).2, x.size ≤ 20 from fun x hx => obj_size (slist_mem hx))
  have HH := Lib.hid' h
  cases hd : D.down with
  | true =>
    have HF := Lib.hid' (show sweepAll keep D = (14, D) by unfold sweepAll; rw [if_pos hd])
    have hsl : slistD D ⟨#[]⟩ = (14, []) := by unfold slistD; rw [if_pos hd]
    rw [hsl] at HL
    clear hin h ho hsl hd HSZ
    go_enter Tryz.func33, Tryz.ntmps33
    go_wp2_with (go_at_call 53; refine HL.out.mono ?_; rintro e w1 ⟨a, c, rfl, hrow, hb⟩; simp only [errV_pos (show (14 : Nat) ≠ 0 by decide)])
    go_ret
    unfold SwR
    rw [HF.out]
    exact ⟨by rw [errV_pos (show (14 : Nat) ≠ 0 by decide)]; rfl, G1, HH.out.below hb⟩
  | false =>
    have hsl : slistD D ⟨#[]⟩ = (0, objs D ⟨#[]⟩) := by unfold slistD objs; rw [if_neg (by rw [hd]; decide)]
    have HF := Lib.hid' (show sweepAll keep D = sweepS keep (objs D ⟨#[]⟩) D by unfold sweepAll; rw [if_neg (by rw [hd]; decide)])
    rw [hsl] at HL HSZ
    clear hin h hsl hd
    simp only at HL HSZ
    generalize objs D ⟨#[]⟩ = l at *
    go_enter Tryz.func33, Tryz.ntmps33
    go_upto_region 2 with (go_at_call 53; refine HL.out.mono ?_; rintro e w1 ⟨a, c, rfl, hrow, hb⟩; simp only [errV_0])
    have H := Lib.hid' (HH.out.belowRow hb hrow)
    clear hrow hb HL HH c0 lq
    go_wp2_with fail
    go_loopw [27] (fun v27 wr => ∃ (k : Nat) (E : Dk) (Gk : Nat → Prop), v27 = .int .i64 (k : Nat) ∧ k ≤ l.length ∧ Hid (sweepS keep (l.drop k) E = sweepS keep l D) ∧ Hid (Ok m E ∧ E.pend.length ≤ D.pend.length + k) ∧ Hid (Sep w0 F (.row 9 1 (.slice a l.length c) l.length (strVs l) :: shL q p bu bm N S E vs Z Gk L) wr)) (fun v27 _ => l.length - (intOf v27).toNat)
    case atStart => exact ⟨0, D, G1, rfl, Nat.zero_le _, Lib.hid' rfl, Lib.hid' ⟨ho, Nat.le_refl _⟩, H⟩
    case round =>
      clear H ho
      obtain ⟨k, E, Gk, rfl, hk, HSW, HOK, HS⟩ := hrel
      by_cases hlt : k < l.length
      rotate_left
      · obtain rfl : k = l.length := by omega
        have HE := Lib.hid' (show sweepS keep l D = (0, E) by have := HSW.out; rw [List.drop_length] at this; exact this.symm)
        clear HSW hlt hk
        go_wp2_with fail
        go_ret
        unfold SwR
        rw [HF.out, HE.out]
        exact ⟨rfl, Gk, HS.out.drop 0⟩
      have hlt' : (k : Int) < (l.length : Int) := by omega
      have H0 := HS.out
      obtain ⟨bb, off, cap, he, hbb, d0⟩ := str_at (H0.row 0 rfl) rfl hlt
      simp only [Value.slice.injEq, true_and] at he
      obtain ⟨rfl, rfl⟩ := he
      have hsw := HSW.out
      rw [List.drop_eq_getElem_cons hlt] at hsw
      have hxs := HSZ.out l[k] (List.getElem_mem hlt)
      have hpe := HOK.out.2
      clear H0 HSW
      obtain ⟨x, hx⟩ : ∃ x, l[k] = x := ⟨_, rfl⟩
      rw [hx] at d0 hsw hxs
      clear hx
      have HNR := Lib.hid' (fun w => numb_any 114 x w (by omega))
      have HNB := Lib.hid' (fun w => numb_any 98 x w (by omega))
      have HDR := Lib.hid' (fun (wq : World) (hb : Below wr.heap.size wr wq) => drop_any7 x wq (sh_disk (HS.out.tail.below hb)).1 (sh_disk (HS.out.tail.below hb)).2 HOK.out.1 (by omega))
      have HO2 := Lib.hid' (HOK.out.1.drop x)
      have HPE := Lib.hid' (pend_drop E x)
      have HIN := Lib.hid' (sh_in HS.out.tail)
      obtain ⟨ra, hra⟩ : ∃ r, (numberN 114 x).isSome = r := ⟨_, rfl⟩
      obtain ⟨rb, hrb⟩ : ∃ r, (numberN 98 x).isSome = r := ⟨_, rfl⟩
      obtain ⟨na, hna⟩ : ∃ r, (numberN 114 x).getD 0 = r := ⟨_, rfl⟩
      obtain ⟨nb, hnb⟩ : ∃ r, (numberN 98 x).getD 0 = r := ⟨_, rfl⟩
      have HS1 := Lib.hid' (fun (hh : ¬ ((ra = true ∨ rb = true) ∧ x ≠ keep)) => show sweepS keep (l.drop (k + 1)) E = sweepS keep l D by rw [← hsw, sweepS_skip (by rw [hra, hrb]; exact hh)])
      have HS2 := Lib.hid' (fun (hh : (ra = true ∨ rb = true) ∧ x ≠ keep) (h1 : (dropD E x).1 = 0) => show sweepS keep (l.drop (k + 1)) (dropD E x).2 = sweepS keep l D by rw [← hsw, sweepS_take (by rw [hra, hrb]; exact hh) h1])
      have HS3 := Lib.hid' (fun (hh : (ra = true ∨ rb = true) ∧ x ≠ keep) (h1 : ¬ (dropD E x).1 = 0) => show sweepS keep l D = dropD E x by rw [← hsw, sweepS_bad (by rw [hra, hrb]; exact hh) h1])
      rw [hra, hna] at HNR
      rw [hrb, hnb] at HNB
      clear hra hrb hna hnb hsw hxs

      cases ra with
      | false =>
        cases rb with
        | false =>
          have HW2 := Lib.hid' (HS1.out (by simp))
          clear HS1 HS2 HS3
          go_wp2_with (go_at_call 54; first | ((with_reducible refine (HNR.out _).mono ?_); rintro e w2 ⟨rfl, hb2⟩) | ((with_reducible refine (HNB.out _).mono ?_); rintro e w3 ⟨rfl, hb3⟩; have hb03 := hb2.trans (hb3.mono hb2.size); have hi3 := HIN.out.below hb03; have g0 := hi3.c0; have gq := hi3.lq; have HD3 := Lib.hid' (HDR.out w3 hb03)))
          go_roundw
          case rel => exact ⟨k + 1, E, Gk, by go_num, by omega, HW2, Lib.hid' ⟨HOK.out.1, by omega⟩, Lib.hid' (HS.out.below hb03)⟩
          case measure => simp [intOf]; omega
        | true =>
          by_cases hxk : x = keep
          · have hkq : (x.toList == keep.toList) = true := by rw [hxk]; simp
            have HXK := Lib.hid' hxk
            clear hxk
            have HW2 := Lib.hid' (HS1.out (fun h => h.2 HXK.out))
            clear HS1 HS2 HS3
            go_wp2_with (go_at_call 54; first | ((with_reducible refine (HNR.out _).mono ?_); rintro e w2 ⟨rfl, hb2⟩) | ((with_reducible refine (HNB.out _).mono ?_); rintro e w3 ⟨rfl, hb3⟩; have hb03 := hb2.trans (hb3.mono hb2.size); have hi3 := HIN.out.below hb03; have g0 := hi3.c0; have gq := hi3.lq; have HD3 := Lib.hid' (HDR.out w3 hb03)))
            go_roundw
            case rel => exact ⟨k + 1, E, Gk, by go_num, by omega, HW2, Lib.hid' ⟨HOK.out.1, by omega⟩, Lib.hid' (HS.out.below hb03)⟩
            case measure => simp [intOf]; omega
          · have hkq : (x.toList == keep.toList) = false := tl_ne hxk
            by_cases h1 : (dropD E x).1 = 0
            · have HW2 := Lib.hid' (HS2.out (⟨.inr rfl, hxk⟩) h1)
              have H1 := Lib.hid' h1
              clear HS1 HS2 HS3 h1
              go_wp2_with (first | (go_at_call 54; first | ((with_reducible refine (HNR.out _).mono ?_); rintro e w2 ⟨rfl, hb2⟩) | ((with_reducible refine (HNB.out _).mono ?_); rintro e w3 ⟨rfl, hb3⟩; have hb03 := hb2.trans (hb3.mono hb2.size); have hi3 := HIN.out.below hb03; have g0 := hi3.c0; have gq := hi3.lq; have HD3 := Lib.hid' (HDR.out w3 hb03))) | (go_at_call 70; refine HD3.out.mono ?_; rintro e w4 ⟨rfl, hk4⟩; rw [H1.out, errV_0]))
              obtain ⟨G4, H4⟩ := sh_turn (HS.out.below hb03).tail hk4
              go_roundw
              case rel => exact ⟨k + 1, (dropD E x).2, _, by go_num, by omega, HW2, Lib.hid' ⟨HO2.out, by have := HPE.out; omega⟩, Lib.hid' (show Sep w0 F (.row 9 1 (.slice (some ⟨bb, off, none⟩) l.length c) l.length (strVs l) :: shL q p bu bm N S (dropD E x).2 vs Z hk4.choose L) w4 from sh_turnR (HS.out.below hb03) hk4.choose_spec)⟩
              case measure => simp [intOf]; omega
            · have HW2 := Lib.hid' (HS3.out (⟨.inr rfl, hxk⟩) h1)
              have H1 := Lib.hid' h1
              clear HS1 HS2 HS3 h1
              go_wp2_with (first | (go_at_call 54; first | ((with_reducible refine (HNR.out _).mono ?_); rintro e w2 ⟨rfl, hb2⟩) | ((with_reducible refine (HNB.out _).mono ?_); rintro e w3 ⟨rfl, hb3⟩; have hb03 := hb2.trans (hb3.mono hb2.size); have hi3 := HIN.out.below hb03; have g0 := hi3.c0; have gq := hi3.lq; have HD3 := Lib.hid' (HDR.out w3 hb03))) | (go_at_call 70; refine HD3.out.mono ?_; rintro e w4 ⟨rfl, hk4⟩; rw [errV_pos H1.out]))
              go_ret
              unfold SwR
              rw [HF.out, HW2.out, errV_pos H1.out]
              exact ⟨rfl, sh_turn (HS.out.below hb03).tail hk4⟩
      | true =>
        by_cases hxk : x = keep
        · have hkq : (x.toList == keep.toList) = true := by rw [hxk]; simp
          have HXK := Lib.hid' hxk
          clear hxk
          have HW2 := Lib.hid' (HS1.out (fun h => h.2 HXK.out))
          clear HS1 HS2 HS3
          go_wp2_with (go_at_call 54; first | ((with_reducible refine (HNR.out _).mono ?_); rintro e w2 ⟨rfl, hb2⟩) | ((with_reducible refine (HNB.out _).mono ?_); rintro e w3 ⟨rfl, hb3⟩; have hb03 := hb2.trans (hb3.mono hb2.size); have hi3 := HIN.out.below hb03; have g0 := hi3.c0; have gq := hi3.lq; have HD3 := Lib.hid' (HDR.out w3 hb03)))
          go_roundw
          case rel => exact ⟨k + 1, E, Gk, by go_num, by omega, HW2, Lib.hid' ⟨HOK.out.1, by omega⟩, Lib.hid' (HS.out.below hb03)⟩
          case measure => simp [intOf]; omega
        · have hkq : (x.toList == keep.toList) = false := tl_ne hxk
          by_cases h1 : (dropD E x).1 = 0
          · have HW2 := Lib.hid' (HS2.out (⟨.inl rfl, hxk⟩) h1)
            have H1 := Lib.hid' h1
            clear HS1 HS2 HS3 h1
            go_wp2_with (first | (go_at_call 54; first | ((with_reducible refine (HNR.out _).mono ?_); rintro e w2 ⟨rfl, hb2⟩) | ((with_reducible refine (HNB.out _).mono ?_); rintro e w3 ⟨rfl, hb3⟩; have hb03 := hb2.trans (hb3.mono hb2.size); have hi3 := HIN.out.below hb03; have g0 := hi3.c0; have gq := hi3.lq; have HD3 := Lib.hid' (HDR.out w3 hb03))) | (go_at_call 70; refine HD3.out.mono ?_; rintro e w4 ⟨rfl, hk4⟩; rw [H1.out, errV_0]))
            obtain ⟨G4, H4⟩ := sh_turn (HS.out.below hb03).tail hk4
            go_roundw
            case rel => exact ⟨k + 1, (dropD E x).2, _, by go_num, by omega, HW2, Lib.hid' ⟨HO2.out, by have := HPE.out; omega⟩, Lib.hid' (show Sep w0 F (.row 9 1 (.slice (some ⟨bb, off, none⟩) l.length c) l.length (strVs l) :: shL q p bu bm N S (dropD E x).2 vs Z hk4.choose L) w4 from sh_turnR (HS.out.below hb03) hk4.choose_spec)⟩
            case measure => simp [intOf]; omega
          · have HW2 := Lib.hid' (HS3.out (⟨.inl rfl, hxk⟩) h1)
            have H1 := Lib.hid' h1
            clear HS1 HS2 HS3 h1
            go_wp2_with (first | (go_at_call 54; first | ((with_reducible refine (HNR.out _).mono ?_); rintro e w2 ⟨rfl, hb2⟩) | ((with_reducible refine (HNB.out _).mono ?_); rintro e w3 ⟨rfl, hb3⟩; have hb03 := hb2.trans (hb3.mono hb2.size); have hi3 := HIN.out.below hb03; have g0 := hi3.c0; have gq := hi3.lq; have HD3 := Lib.hid' (HDR.out w3 hb03))) | (go_at_call 70; refine HD3.out.mono ?_; rintro e w4 ⟨rfl, hk4⟩; rw [errV_pos H1.out]))
            go_ret
            unfold SwR
            rw [HF.out, HW2.out, errV_pos H1.out]
            exact ⟨rfl, sh_turn (HS.out.below hb03).tail hk4⟩
def CompR (q N : Nat) (S : Sf) (D : Dk) (vs : PoolL) (F : Nat → Prop) (w : World) (e : Ending) (w' : World) : Prop :=
  e = .returned (errV (compS S D).1) ∧ ShAt q N (compS S D).2.1 (compS S D).2.2 vs [] F w w'
theorem CompR.of {q N : Nat} {S S' : Sf} {D D' : Dk} {vs : PoolL} {F : Nat → Prop} {w w' : World} {e : Nat} (hd : compS S D = (e, S', D')) (h : ShAt q N S' D' vs [] F w w') : CompR q N S D vs F w (.returned (errV e)) w' := by
  unfold CompR
  rw [hd]
  exact ⟨rfl, h⟩
set_option maxHeartbeats 16000000 in
theorem comp_any {m q N : Nat} {S : Sf} {D : Dk} {vs : PoolL} {F : Nat → Prop} (w : World) (h : ShAt q N S D vs [] F w w) (hp : Pow w) (ho : Ok m D) (hm : m ≤ 536860000) (hpd : D.pend.length ≤ 536860000) (hc : S.u.cells.length ≤ 65536) (hpp : (putD D (nameN 98 S.n) (putU S.u.e S.u.l (sortC S.u.cells)).2).2.pend.length ≤ 536860000) :
    Calls Tryz.prog 11 #[ptrV q] w (CompR q N S D vs F w) := by
  obtain ⟨p, bu, bm, G1, Z, H⟩ := sh_open h
  obtain ⟨u, n, br⟩ := S
  simp only at hc hpp
  have hok : u.ok := (H.at 0 rfl).2.2
  have hin := sh_in H
  have c0 := hin.c0
  have c1 := hin.c1
  have c2 := hin.c2
  have c3 := hin.c3
  have lq := hin.lq
  have HH := Lib.hid' H
  have HW := Lib.hid' (swork_any q br w c3 lq)
  have HPU := Lib.hid' (rputu_any w (Sep.unitAt H) (unit_of hok) hc)
  have HOP := Lib.hid' (ho.put (nameN 98 n) (putU u.e u.l (sortC u.cells)).2)
  have HPW := Lib.hid' (fun (wq : World) (hb : Below w.heap.size w wq) => hp.below hb)
  clear h hin hok
  cases br with
  | true =>
    have HF := Lib.hid' (show compS ⟨u, n, true⟩ D = (14, ⟨u, n, true⟩, D) from rfl)
    clear H
    go_enter Tryz.func11, Tryz.ntmps11
    go_wp2_with (go_at_call 27; refine HW.out.mono ?_; rintro e w2 ⟨rfl, rfl⟩)
    go_ret
    exact CompR.of (e := 14) HF.out (sh_close HH.out)
  | false =>
  by_cases h99 : 99999999 < n
  · have h99' : (99999999 : Int) < (n : Int) := by omega
    have HF := Lib.hid' (show compS ⟨u, n, false⟩ D = (5, ⟨u, n, false⟩, D) by unfold compS; rw [if_neg (by simp), if_pos h99])
    clear H h99
    go_enter Tryz.func11, Tryz.ntmps11
    go_wp2_with (go_at_call 27; refine HW.out.mono ?_; rintro e w2 ⟨rfl, rfl⟩)
    go_ret
    exact CompR.of (e := 5) HF.out (sh_close HH.out)
  have h99' : ¬ (99999999 : Int) < (n : Int) := by omega
  have hn9 : n ≤ 99999999 := by omega
  have HF0 := Lib.hid' (show compS ⟨u, n, false⟩ D = (if (putU u.e u.l (sortC u.cells)).1 ≠ 0 then ((putU u.e u.l (sortC u.cells)).1, ⟨u, n, false⟩, D) else
    if (putD D (nameN 98 n) (putU u.e u.l (sortC u.cells)).2).1 ≠ 0 then ((putD D (nameN 98 n) (putU u.e u.l (sortC u.cells)).2).1, fallS ⟨u, n, false⟩ (putD D (nameN 98 n) (putU u.e u.l (sortC u.cells)).2).1, (putD D (nameN 98 n) (putU u.e u.l (sortC u.cells)).2).2) else
    ((sweepAll (nameN 98 n) (putD D (nameN 98 n) (putU u.e u.l (sortC u.cells)).2).2).1, fallS ⟨u, n, false⟩ (sweepAll (nameN 98 n) (putD D (nameN 98 n) (putU u.e u.l (sortC u.cells)).2).2).1, (sweepAll (nameN 98 n) (putD D (nameN 98 n) (putU u.e u.l (sortC u.cells)).2).2).2)) by unfold compS; rw [if_neg (by simp), if_neg h99])
  clear H h99
  generalize putU u.e u.l (sortC u.cells) = r at *
  obtain ⟨re, rb⟩ := r
  simp only at HF0 HOP hpp
  go_enter Tryz.func11, Tryz.ntmps11
  go_upto_region 2 with (go_at_call 27; refine HW.out.mono ?_; rintro e w2 ⟨rfl, rfl⟩; rw [show errV (if false = true then 14 else 0) = .nilIface from rfl])
  by_cases h0 : re = 0
  rotate_left
  · have HE := Lib.hid' h0
    have HF := Lib.hid' (show compS ⟨u, n, false⟩ D = (re, ⟨u, n, false⟩, D) by rw [HF0.out, if_pos h0])
    clear h0 HF0
    go_wp2_with (go_at_call 32; refine HPU.out.mono ?_; rintro e w2 ⟨a, c, rfl, hrow, hb⟩; simp only [errV_pos HE.out])
    go_ret
    rw [← errV_pos HE.out]
    exact CompR.of HF.out (sh_close (HH.out.below hb))
  subst h0
  have HF1 := Lib.hid' (show compS ⟨u, n, false⟩ D = (if (putD D (nameN 98 n) rb).1 ≠ 0 then ((putD D (nameN 98 n) rb).1, fallS ⟨u, n, false⟩ (putD D (nameN 98 n) rb).1, (putD D (nameN 98 n) rb).2) else
    ((sweepAll (nameN 98 n) (putD D (nameN 98 n) rb).2).1, fallS ⟨u, n, false⟩ (sweepAll (nameN 98 n) (putD D (nameN 98 n) rb).2).1, (sweepAll (nameN 98 n) (putD D (nameN 98 n) rb).2).2)) by rw [HF0.out, if_neg (by simp)])
  clear HF0
  go_upto_region 7 with (go_at_call 32; refine HPU.out.mono ?_; rintro e w2 ⟨a, c, rfl, hrow, hb⟩; simp only [errV_0])
  have H2 := HH.out.belowRow hb hrow
  have HNA := Lib.hid' (name_any 98 n w2 (HPW.out w2 hb) hn9)
  have c2' := H2.cell 3 rfl 2 rfl
  have c0' := H2.cell 3 rfl 0 rfl
  have lq' := H2.lt 3 rfl
  have HX2 := Lib.hid' H2
  clear c0 c1 c2 c3 lq HW HPU HH H2 hrow hb
  go_upto_region 10 with (go_at_call 30; refine HNA.out.mono ?_; rintro e w3 ⟨rfl, hb3⟩)
  have H3 := HX2.out.below hb3
  have HX3 := Lib.hid' H3
  have HPT := Lib.hid' (put_any7 (m := m) (nameN 98 n) a c rb w3 (sh_disk H3.tail).1 (sh_disk H3.tail).2 ho (by omega) (by omega) (SlV.of_own (H3.row 0 rfl)) (own_slin (H3.row 0 rfl) (fun b hb hg => H3.off 0 5 rfl rfl (by decide) b hb hg)))
  have g0 := H3.cell 3 rfl 0 rfl
  have gq := H3.lt 3 rfl
  clear c0' c2' lq' HX2 HNA hb3 H3
  generalize hpq : putD D (nameN 98 n) rb = pr at *
  obtain ⟨pe, D2⟩ := pr
  simp only at HF1 HOP hpp
  by_cases h1 : pe = 0
  rotate_left
  · have HE := Lib.hid' h1
    have HF := Lib.hid' (show compS ⟨u, n, false⟩ D = (pe, fallS ⟨u, n, false⟩ pe, D2) by rw [HF1.out, if_pos h1])
    clear h1 HF1 hpq
    go_upto_region 11 with (go_at_call 29; refine HPT.out.mono ?_; rintro e w4 ⟨rfl, hk4⟩; simp only [errV_pos HE.out])
    obtain ⟨G4, H4⟩ := sh_turn HX3.out.tail hk4
    have HFA := Lib.hid' (fall_any pe w4 H4)
    rw [errV_pos HE.out] at HFA
    clear g0 gq HX3 HPT hk4 H4
    go_wp2_with (go_at_call 31; refine HFA.out.mono ?_; rintro e w5 ⟨rfl, h5⟩)
    go_ret
    rw [← errV_pos HE.out]
    exact CompR.of HF.out (sh_close h5)
  subst h1
  have HF := Lib.hid' (show compS ⟨u, n, false⟩ D = ((sweepAll (nameN 98 n) D2).1, fallS ⟨u, n, false⟩ (sweepAll (nameN 98 n) D2).1, (sweepAll (nameN 98 n) D2).2) by rw [HF1.out, if_neg (by simp)])
  clear HF1 hpq
  go_upto_region 11 with (go_at_call 29; refine HPT.out.mono ?_; rintro e w4 ⟨rfl, hk4⟩; simp only [errV_0])
  obtain ⟨G4, H4⟩ := sh_turn HX3.out.tail hk4
  have HSW := Lib.hid' (sweep_any (nameN 98 n) w4 H4 HOP.out (by omega) (Nat.le_trans hpp (by omega)))
  clear g0 gq HX3 HPT hk4 H4
  go_upto_region 13 with fail
  generalize sweepAll (nameN 98 n) D2 = sr at *
  obtain ⟨se, D3⟩ := sr
  go_wp2_with (first | (go_at_call 33; refine HSW.out.mono ?_; rintro e w5 ⟨rfl, G5, h5⟩; have HFA := Lib.hid' (fall_any se w5 h5)) | (go_at_call 31; refine HFA.out.mono ?_; rintro e w6 ⟨rfl, h6⟩))
  go_ret
  exact CompR.of HF.out (sh_close h6)

end SH
end Go.Proofs.YtkhnbdbcaebdaaaGreatDoor

namespace Go.Proofs.YtkhnbdbcaebdaaaGreatDoor
set_option linter.unusedVariables false
set_option linter.unusedSimpArgs false
namespace SH
open DK
theorem put1_ne {g : Vw} {n x : Nm} {d : Option (List UInt8)} (h : x ≠ n) : put1 g n d x = g x := if_neg h
theorem put1_eq {g : Vw} {n : Nm} {d : Option (List UInt8)} : put1 g n d n = d := if_pos rfl
theorem Base.act {g : Vw} {b n : Nat} {ub : U} {d : Option (List UInt8)} (h : Base g b ub) : Base (put1 g (nameN 114 n) d) b ub := by
  have hne : ∀ k, put1 g (nameN 114 n) d (nameN 98 k) = g (nameN 98 k) := fun k => put1_ne (name_ne (by decide) k n)
  refine ⟨?_, fun k h1 h2 => by rw [hne]; exact h.2 k h1 h2⟩
  rw [hne, hne]
  exact h.1
theorem Acts.snoc {g : Vw} {x : Ac} {n : Nat} (hn : n ≤ 99999999) : ∀ {k b : Nat} {u v : U}, Acts g k b u v → b + k = n → (apU v x).1 = 0 → x.check = 0 → Acts (put1 g (nameN 114 n) (some x.put)) (k + 1) b u (apU v x).2.2
  | 0, b, u, v, h, hb, h1, h2 => by
    have h : u = v := h
    subst h
    have hb : b = n := by omega
    subst hb
    exact ⟨x.put, x, put1_eq, Ac.take_put h2, h1, rfl⟩
  | k + 1, b, u, v, h, hb, h1, h2 => by
    obtain ⟨d, y, q1, q2, q3, q4⟩ := h
    refine ⟨d, y, ?_, q2, q3, Acts.snoc hn q4 (by omega) h1 h2⟩
    rw [put1_ne (fun e => by have := name_inj (by omega) hn e; omega)]
    exact q1
theorem ap_check {u : U} {x : Ac} (h : (apU u x).1 = 0) : x.check = 0 := by
  apply Decidable.byContradiction
  intro hc
  unfold apU at h
  rw [if_pos hc] at h
  exact hc h
theorem Rep.act {g : Vw} {v : U} {n : Nat} {x : Ac} (h : Rep g v n) (hn : n ≤ 99999999) (hx : (apU v x).1 = 0) : Rep (put1 g (nameN 114 n) (some x.put)) (apU v x).2.2 (n + 1) := by
  obtain ⟨b, ub, k, e, hb, ha, hno⟩ := h
  refine ⟨b, ub, k + 1, by omega, hb.act, ha.snoc hn e.symm hx (ap_check hx), fun m h1 h2 => ?_⟩
  rw [put1_ne (fun e => by have := name_inj h2 hn e; omega)]
  exact hno m (by omega) h2
/-- nothing but the one base counts -/
structure Rep0 (g : Vw) (u : U) (n : Nat) : Prop where
  base : ∃ d, g (nameN 98 n) = some d ∧ takeU d = (0, u) ∧ u.ok
  high : ∀ k, n < k → k ≤ 99999999 → g (nameN 98 k) = none
  acts : ∀ m, n ≤ m → m ≤ 99999999 → g (nameN 114 m) = none
theorem Rep0.rep {g : Vw} {u : U} {n : Nat} (h : Rep0 g u n) : Rep g u n := ⟨n, u, 0, rfl, ⟨.inr h.base, h.high⟩, rfl, h.acts⟩
theorem Rep.base {g : Vw} {v u : U} {n : Nat} {d : List UInt8} (h : Rep g v n) (hn : n ≤ 99999999) (ht : takeU d = (0, u)) (hu : u.ok) : Rep0 (put1 g (nameN 98 n) (some d)) u n := by
  obtain ⟨b, ub, k, e, hb, ha, hno⟩ := h
  refine ⟨⟨d, put1_eq, ht, hu⟩, fun m h1 h2 => ?_, fun m h1 h2 => ?_⟩
  · rw [put1_ne (fun e => by have := name_inj h2 hn e; omega)]
    exact hb.2 m (by omega) h2
  · rw [put1_ne (name_ne (by decide) m n)]
    exact hno m h1 h2
theorem Rep0.del {g : Vw} {u : U} {n : Nat} (h : Rep0 g u n) {x : Nm} (hx : x ≠ nameN 98 n) : Rep0 (put1 g x none) u n := by
  have hz : ∀ y, g y = none → put1 g x none y = none := fun y hy => by unfold put1; split <;> first | rfl | exact hy
  refine ⟨?_, fun k h1 h2 => hz _ (h.high k h1 h2), fun m h1 h2 => hz _ (h.acts m h1 h2)⟩
  rw [put1_ne (Ne.symm hx)]
  exact h.base
/-- .. but for the order of the cells -/
def RepE (g : Vw) (u : U) (n : Nat) : Prop := ∃ v, Rep g v n ∧ Ueq v u
theorem RepE.act {g : Vw} {u : U} {n : Nat} {x : Ac} (h : RepE g u n) (hn : n ≤ 99999999) (hx : (apU u x).1 = 0) : RepE (put1 g (nameN 114 n) (some x.put)) (apU u x).2.2 (n + 1) := by
  obtain ⟨v, hv, he⟩ := h
  obtain ⟨e1, _, e3⟩ := ap_eq he hv.ok.nodup x
  exact ⟨_, hv.act hn (by rw [e1]; exact hx), e3⟩
theorem act_len {x : Ac} (h : x.check = 0) : x.put.length ≤ 200 := by
  obtain ⟨h1, h2, h3, h4, h5, h6, h7, h8, h9⟩ := Ac.check_ok h
  have g1 := vb_len_le (n := x.k.toNat) (k := 10) (by decide) (by omega)
  have g2 := vb_len_le (n := x.e.toNat) (k := 10) (by decide) (by omega)
  have g3 := vb_len_le (n := x.a.toNat) (k := 10) (by decide) (by omega)
  have g4 := vb_len_le (n := x.d.length) (k := 10) (by decide) (by omega)
  have ht : x.text.length ≤ 110 := by
    unfold Ac.text headB
    simp only [List.length_append]
    split <;> split <;> simp only [List.length_append, List.length_nil] <;> omega
  have g5 := vb_len_le (n := x.text.length) (k := 10) (by decide) (by omega)
  unfold Ac.put
  rw [frameB_len]; omega
theorem base_len {u : U} (h : u.ok) (hc : u.cells.length ≤ 200) : (unitB u.e u.l (sortC u.cells)).length ≤ 20000 ∧ (frameB (unitB u.e u.l (sortC u.cells))).length ≤ 30000 ∧ (sortC u.cells).length ≤ 200 := by
  have ho := unit_of h
  obtain ⟨h1, h2, h3, h4, hR, hN⟩ := right_of ho
  have hl : (sortC u.cells).length ≤ 200 := by
    have := (sort_eq h).cells.length_eq
    simp only at this
    omega
  have g1 := vb_len_le (n := u.e.toNat) (k := 10) (by decide) (by omega)
  have g2 := vb_len_le (n := u.l.toNat) (k := 10) (by decide) (by omega)
  have g3 := vb_len_le (n := (sortC u.cells).length) (k := 10) (by decide) (by omega)
  have g4 := entsB_len (sortC u.cells) u.l h3 hR
  have ht : (unitB u.e u.l (sortC u.cells)).length ≤ 20000 := by
    unfold unitB
    simp only [List.length_append]
    omega
  have g5 := vb_len_le (n := (unitB u.e u.l (sortC u.cells)).length) (k := 10) (by decide) (by omega)
  refine ⟨ht, ?_, hl⟩
  rw [frameB_len]; omega
theorem sort_ok {u : U} (h : u.ok) : U.ok ⟨u.e, u.l, sortC u.cells⟩ := by
  have hm := fun p => sortC_mem _ h.nodup p
  refine ⟨h.e0, h.e1, h.l0, h.l1, fun p hp => h.addr p ((hm p).1 hp), fun p hp => h.kind p ((hm p).1 hp), ?_⟩
  exact ((sort_eq h).cells.map _).nodup_iff.2 h.nodup
theorem not_full {m : Nat} {r : Int} {L : Fl} {f : Int} (h : Ok m ⟨r, L, L, [], f, false⟩) (hm : m ≤ 200) (hr : r = 16777216) {k : Nat} (hk : k ≤ 65536) : L.length < 512 ∧ (usedF L : Int) + k ≤ r := by
  have h1 : L.length ≤ m := h.fewS
  have h2 : usedF L ≤ 65536 * m := used_le h.shown h1
  have h3 : 65536 * m ≤ 65536 * 200 := Nat.mul_le_mul_left _ hm
  exact ⟨by omega, by omega⟩
theorem doS_err {S : Sf} {D : Dk} {x : Ac} (hb : S.br = false) (h : (apU S.u x).1 ≠ 0) : doS S D x = ((apU S.u x).1, 0, S, D) := by
  unfold doS
  rw [if_neg (by rw [hb]; decide), if_pos h]
theorem doS_cases {r : Int} {L : Fl} {f : Int} {u : U} {n : Nat} {x : Ac} (hg : (L.map (·.1)).Nodup) (h5 : L.length < 512) (h6 : (usedF L : Int) + 200 ≤ r) (hn : n ≤ 99999999) (hR : RepE (V L) u n) (hx : (apU u x).1 = 0) :
    (∃ f', doS ⟨u, n, false⟩ ⟨r, L, L, [], f, false⟩ x = (0, (apU u x).2.1, ⟨(apU u x).2.2, n + 1, false⟩, ⟨r, putL L (nameN 114 n) x.put, putL L (nameN 114 n) x.put, [], f', false⟩) ∧ (f = -1 → f' = -1) ∧ RepE (V (putL L (nameN 114 n) x.put)) (apU u x).2.2 (n + 1)) ∨
    (f ≠ -1 ∧ ∃ D', doS ⟨u, n, false⟩ ⟨r, L, L, [], f, false⟩ x = (14, 0, ⟨u, n, true⟩, D') ∧ AfterC r D' (fun g => RepE g u n ∨ RepE g (apU u x).2.2 (n + 1))) := by
  have hlen := act_len (ap_check hx)
  have hbg := begun_name (b := 114) (by decide) n
  have hV := V_putL hg hbg x.put
  have hA := hR.act hn hx
  rcases putD_cases r L f (nameN 114 n) x.put hg (obj_r n) hbg (tilde_name (by decide) n) (by omega) h5 (by omega) with ⟨f', e, hf⟩ | ⟨hf, D', e, ha⟩
  · left
    refine ⟨f', ?_, hf, by rw [hV]; exact hA⟩
    unfold doS
    rw [if_neg (by simp), if_neg (by simpa using hx), if_neg (by show ¬ 99999999 < n; omega)]
    simp only [e, ne_eq, not_true_eq_false, if_false]
  · right
    refine ⟨hf, D', ?_, ha.imp (fun g hg => ?_)⟩
    · unfold doS
      rw [if_neg (by simp), if_neg (by simpa using hx), if_neg (by show ¬ 99999999 < n; omega)]
      simp only [e]
      rw [if_pos (by decide)]
      rfl
    · rcases hg with rfl | rfl
      · exact .inl hR
      · exact .inr hA
theorem sweepS_cases (r : Int) (u : U) (n : Nat) : ∀ (l : List Nm) (L : Fl) (f : Int), (L.map (·.1)).Nodup → l.Nodup → (∀ x ∈ l, x ∈ L.map (·.1) ∧ objNamed x = true) → Rep0 (V L) u n →
    (∃ f' L', sweepS (nameN 98 n) l ⟨r, L, L, [], f, false⟩ = (0, ⟨r, L', L', [], f', false⟩) ∧ (f = -1 → f' = -1) ∧ (L'.map (·.1)).Nodup ∧ Rep0 (V L') u n ∧ ∀ p ∈ L', p ∈ L ∧ (p.1 ∈ l → ((numberN 114 p.1).isSome = true ∨ (numberN 98 p.1).isSome = true) → p.1 = nameN 98 n)) ∨
    (f ≠ -1 ∧ ∃ D', sweepS (nameN 98 n) l ⟨r, L, L, [], f, false⟩ = (14, D') ∧ AfterC r D' (fun g => Rep0 g u n))
  | [], L, f, h1, h2, h3, h4 => .inl ⟨f, L, rfl, id, h1, h4, fun p hp => ⟨hp, fun h => by simp at h⟩⟩
  | x :: l, L, f, h1, h2, h3, h4 => by
    rw [List.nodup_cons] at h2
    by_cases hc : ((numberN 114 x).isSome = true ∨ (numberN 98 x).isSome = true) ∧ x ≠ nameN 98 n
    · obtain ⟨p, hp, hpx⟩ := List.mem_map.1 (h3 x List.mem_cons_self).1
      have hg : getF L x = some p.2 := (getF_iff h1).2 (by rw [← hpx]; exact hp)
      have hd := V_del h1 x
      have h5 := h4.del hc.2
      rcases dropD_cases r L f x h1 (h3 x List.mem_cons_self).2 hg with ⟨f1, e, hf⟩ | ⟨hf, D', e, ha⟩
      · rw [sweepS_take hc (by rw [e]), e]
        have ih := sweepS_cases r u n l (delF L x) f1 (delF_keys h1 x) h2.2 (fun y hy => ⟨by
          obtain ⟨q, hq, hqy⟩ := List.mem_map.1 (h3 y (List.mem_cons_of_mem _ hy)).1
          refine List.mem_map.2 ⟨q, List.mem_filter.2 ⟨hq, ?_⟩, hqy⟩
          have : q.1 ≠ x := fun e => h2.1 (by rw [← e, hqy]; exact hy)
          simpa [bne] using this, (h3 y (List.mem_cons_of_mem _ hy)).2⟩) (by rw [hd]; exact h5)
        rcases ih with ⟨f', L', e2, q1, q2, q3, q4⟩ | ⟨q1, D', e2, q2⟩
        · refine .inl ⟨f', L', e2, fun h => q1 (hf h), q2, q3, fun p hp => ?_⟩
          have hm := List.mem_filter.1 (q4 p hp).1
          refine ⟨hm.1, fun hl => ?_⟩
          rcases List.mem_cons.1 hl with e | hl
          · have h6 := hm.2
            rw [e] at h6
            simp [bne] at h6
          · exact (q4 p hp).2 hl
        · exact .inr ⟨fun h => q1 (hf h), D', e2, q2⟩
      · rw [sweepS_bad hc (by rw [e]; simp), e]
        exact .inr ⟨hf, D', rfl, ha.imp (fun g hg => by
          rcases hg with rfl | rfl
          · exact h4
          · exact h5)⟩
    · rw [sweepS_skip hc]
      rcases sweepS_cases r u n l L f h1 h2.2 (fun y hy => h3 y (List.mem_cons_of_mem _ hy)) h4 with ⟨f', L', e2, q1, q2, q3, q4⟩ | h
      · refine .inl ⟨f', L', e2, q1, q2, q3, fun p hp => ⟨(q4 p hp).1, fun hl hk => ?_⟩⟩
        rcases List.mem_cons.1 hl with e | hl
        · apply Decidable.byContradiction
          intro hne
          exact hc (by rw [← e]; exact ⟨hk, hne⟩)
        · exact (q4 p hp).2 hl hk
      · exact .inr h
end SH
end Go.Proofs.YtkhnbdbcaebdaaaGreatDoor

namespace Go.Proofs.YtkhnbdbcaebdaaaGreatDoor
set_option linter.unusedVariables false
set_option linter.unusedSimpArgs false
namespace SH
open DK
/-- acts and bases alone -/
def Only (L : Fl) : Prop := ∀ p ∈ L, (numberN 114 p.1).isSome = true ∨ (numberN 98 p.1).isSome = true
theorem putL_mem {L : Fl} {n : Nm} {d : List UInt8} {p : Nm × List UInt8} (h : p ∈ putL L n d) : p = (n, d) ∨ p ∈ L := by
  unfold putL at h
  rcases putF_mem.1 h with h | ⟨h, _⟩
  · exact .inl h
  · have h1 := List.mem_filter.1 h
    rcases putF_mem.1 h1.1 with h2 | ⟨h2, _⟩
    · have h3 := h1.2
      rw [h2] at h3
      simp [bne] at h3
    · exact .inr h2
theorem Only.act {L : Fl} (h : Only L) {n : Nat} (hn : n ≤ 99999999) {d : List UInt8} : Only (putL L (nameN 114 n) d) := fun p hp => by
  rcases putL_mem hp with rfl | hp
  · left; show (numberN 114 (nameN 114 n)).isSome = true; rw [number_name 114 hn]; rfl
  · exact h p hp
theorem Only.base {L : Fl} (h : Only L) {n : Nat} (hn : n ≤ 99999999) {d : List UInt8} : Only (putL L (nameN 98 n) d) := fun p hp => by
  rcases putL_mem hp with rfl | hp
  · right; show (numberN 98 (nameN 98 n)).isSome = true; rw [number_name 98 hn]; rfl
  · exact h p hp
theorem Only.noBeg {L : Fl} (h : Only L) : NoBeg L := fun p hp => by
  rcases h p hp with h | h
  · obtain ⟨n, hn⟩ := Option.isSome_iff_exists.1 h
    rw [name_of_number hn]; exact begun_name (by decide) n
  · obtain ⟨n, hn⟩ := Option.isSome_iff_exists.1 h
    rw [name_of_number hn]; exact begun_name (by decide) n
theorem Only.obj {L : Fl} (h : Only L) : ∀ p ∈ L, objNamed p.1 = true := fun p hp => by
  rcases h p hp with h | h
  · obtain ⟨n, hn⟩ := Option.isSome_iff_exists.1 h
    rw [name_of_number hn]; exact obj_r n
  · obtain ⟨n, hn⟩ := Option.isSome_iff_exists.1 h
    rw [name_of_number hn]; exact obj_b n
theorem begins_all (x : Nm) : begins ⟨#[]⟩ x = true := by unfold begins; rfl
theorem compS_cases {m : Nat} {r : Int} {L : Fl} {f : Int} {u : U} {n : Nat} (ho : Ok m ⟨r, L, L, [], f, false⟩) (hm : m ≤ 200) (hr : r = 16777216) (hn : n ≤ 99999999) (hR : RepE (V L) u n) (hu : u.ok) (hc : u.cells.length ≤ 200) :
    (∃ f' L', compS ⟨u, n, false⟩ ⟨r, L, L, [], f, false⟩ = (0, ⟨u, n, false⟩, ⟨r, L', L', [], f', false⟩) ∧ (f = -1 → f' = -1) ∧ RepE (V L') u n ∧ (L'.map (·.1)).Nodup ∧ (∃ d, V L' (nameN 98 n) = some d) ∧ (Only L → Only L' ∧ ∀ p ∈ L', p.1 = nameN 98 n)) ∨
    (f ≠ -1 ∧ ∃ D', compS ⟨u, n, false⟩ ⟨r, L, L, [], f, false⟩ = (14, ⟨u, n, true⟩, D') ∧ AfterC r D' (fun g => RepE g u n)) := by
  obtain ⟨b1, b2, b3⟩ := base_len hu hc
  have hp : putU u.e u.l (sortC u.cells) = (0, frameB (unitB u.e u.l (sortC u.cells))) := by unfold putU; rw [if_neg (by omega)]
  have ht := takeU_put (unit_of hu) (by omega) (by omega : (unitB u.e u.l (sortC u.cells)).length ≤ 65536)
  generalize frameB (unitB u.e u.l (sortC u.cells)) = B at *
  have hnf := not_full ho hm hr (k := B.length) (by omega)
  have hbg := begun_name (b := 98) (by decide) n
  have hV := V_putL ho.shown.nodup hbg B
  obtain ⟨v, hv, hve⟩ := id hR
  have h0 := hv.base hn ht (sort_ok hu)
  have hq := sort_eq hu
  have hcomp : compS ⟨u, n, false⟩ ⟨r, L, L, [], f, false⟩ = if (putD ⟨r, L, L, [], f, false⟩ (nameN 98 n) B).1 ≠ 0 then ((putD ⟨r, L, L, [], f, false⟩ (nameN 98 n) B).1, fallS ⟨u, n, false⟩ (putD ⟨r, L, L, [], f, false⟩ (nameN 98 n) B).1, (putD ⟨r, L, L, [], f, false⟩ (nameN 98 n) B).2) else
      ((sweepAll (nameN 98 n) (putD ⟨r, L, L, [], f, false⟩ (nameN 98 n) B).2).1, fallS ⟨u, n, false⟩ (sweepAll (nameN 98 n) (putD ⟨r, L, L, [], f, false⟩ (nameN 98 n) B).2).1, (sweepAll (nameN 98 n) (putD ⟨r, L, L, [], f, false⟩ (nameN 98 n) B).2).2) := by
    unfold compS
    rw [if_neg (by simp), if_neg (by show ¬ 99999999 < n; omega)]
    simp only [hp, ne_eq, not_true_eq_false, if_false]
  rcases putD_cases r L f (nameN 98 n) B ho.shown.nodup (obj_b n) hbg (tilde_name (by decide) n) (by omega) hnf.1 hnf.2 with ⟨f1, e, hf⟩ | ⟨hf, D', e, ha⟩
  · rw [hcomp, e]
    simp only [ne_eq, not_true_eq_false, if_false]
    have hn1 : ((putL L (nameN 98 n) B).map (·.1)).Nodup := putF_keys (delF_keys (putF_keys ho.shown.nodup _ _) _) _ _
    rw [← hV] at h0
    have hsw : sweepAll (nameN 98 n) ⟨r, putL L (nameN 98 n) B, putL L (nameN 98 n) B, [], f1, false⟩ = sweepS (nameN 98 n) (objs ⟨r, putL L (nameN 98 n) B, putL L (nameN 98 n) B, [], f1, false⟩ ⟨#[]⟩) ⟨r, putL L (nameN 98 n) B, putL L (nameN 98 n) B, [], f1, false⟩ := by
      unfold sweepAll; rw [if_neg (by simp)]
    have hon : (objs ⟨r, putL L (nameN 98 n) B, putL L (nameN 98 n) B, [], f1, false⟩ ⟨#[]⟩).Nodup := List.filter_sublist.nodup ((namesOf_perm _).nodup_iff.2 hn1)
    rcases sweepS_cases r ⟨u.e, u.l, sortC u.cells⟩ n (objs ⟨r, putL L (nameN 98 n) B, putL L (nameN 98 n) B, [], f1, false⟩ ⟨#[]⟩) (putL L (nameN 98 n) B) f1 hn1 hon (fun x hx => ⟨(objs_mem.1 hx).1, (objs_mem.1 hx).2.1⟩) h0 with ⟨f', L', e2, q1, q2, q3, q4⟩ | ⟨q1, D', e2, q2⟩
    · left
      refine ⟨f', L', ?_, fun h => q1 (hf h), ⟨_, q3.rep, hq⟩, q2, ⟨_, q3.base.choose_spec.1⟩, fun hO => ?_⟩
      · rw [hsw, e2]; rfl
      · have hO1 := hO.base hn (d := B)
        have key : ∀ p ∈ L', p.1 = nameN 98 n := fun p hp => by
          have h1 := q4 p hp
          exact h1.2 (objs_mem.2 ⟨List.mem_map_of_mem (f := (·.1)) h1.1, hO1.obj p h1.1, begins_all _⟩) (hO1 p h1.1)
        exact ⟨fun p hp => hO1 p (q4 p hp).1, key⟩
    · right
      refine ⟨fun h => q1 (hf h), D', ?_, q2.imp (fun g hg => ⟨_, hg.rep, hq⟩)⟩
      rw [hsw, e2]; rfl
  · right
    rw [hcomp, e]
    simp only [ne_eq]
    rw [if_pos (by decide)]
    refine ⟨hf, D', rfl, ha.imp (fun g hg => ?_)⟩
    rcases hg with rfl | rfl
    · exact hR
    · exact ⟨_, h0.rep, hq⟩
/-- one file that has the one name -/
theorem only_one {L : Fl} (h : (L.map (·.1)).Nodup) {x : Nm} (h1 : ∀ p ∈ L, p.1 = x) {d : List UInt8} (h2 : V L x = some d) : namesOf L = [x] := by
  have hl : L.map (·.1) = [x] := by
    cases L with
    | nil => unfold V getF at h2; split at h2 <;> cases h2
    | cons p L =>
      cases L with
      | nil => simp [h1 p List.mem_cons_self]
      | cons q L =>
        have e1 := h1 p List.mem_cons_self
        have e2 := h1 q (List.mem_cons_of_mem _ List.mem_cons_self)
        simp [e1, e2] at h
  have hp := namesOf_perm L
  rw [hl] at hp
  exact List.perm_singleton.1 hp
theorem Ok.doS {m : Nat} {D : Dk} (h : Ok m D) (S : Sf) (x : Ac) : Ok (m + 1) (doS S D x).2.2.2 := by
  have hp := h.put (nameN 114 S.n) x.put
  unfold SH.doS
  repeat' split
  all_goals first | exact hp | exact h.mono (Nat.le_succ m)
theorem Ok.sweepS (keep : Nm) : ∀ (l : List Nm) {m : Nat} {D : Dk}, Ok m D → Ok m (sweepS keep l D).2
  | [], m, D, h => h
  | x :: l, m, D, h => by
    unfold SH.sweepS
    split
    · split
      · exact h.drop x
      · exact Ok.sweepS keep l (h.drop x)
    · exact Ok.sweepS keep l h
theorem Ok.compS {m : Nat} {D : Dk} (h : Ok m D) (S : Sf) : Ok (m + 1) (compS S D).2.2 := by
  have hp := h.put (nameN 98 S.n) (putU S.u.e S.u.l (sortC S.u.cells)).2
  have hs : Ok (m + 1) (sweepAll (nameN 98 S.n) (putD D (nameN 98 S.n) (putU S.u.e S.u.l (sortC S.u.cells)).2).2).2 := by
    unfold sweepAll
    split
    · exact hp
    · exact Ok.sweepS _ _ hp
  unfold SH.compS
  repeat' split
  all_goals first | exact hs | exact hp | exact h.mono (Nat.le_succ m)
end SH
end Go.Proofs.YtkhnbdbcaebdaaaGreatDoor

namespace Go.Proofs.YtkhnbdbcaebdaaaGreatDoor
set_option linter.unusedVariables false
set_option linter.unusedSimpArgs false
namespace SH
open DK
theorem V_nil (x : Nm) : V [] x = none := by unfold V getF; split <;> rfl
theorem rep_new : Rep (V []) U.new 0 := ⟨0, U.new, 0, rfl, ⟨.inl ⟨rfl, rfl, V_nil _⟩, fun k _ _ => V_nil _⟩, rfl, fun m _ _ => V_nil _⟩
theorem openS_new (r : Int) : openS (newD r) = (0, ⟨U.new, 0, false⟩, newD r) := by
  obtain ⟨L', e, _, _, _, h⟩ := openS_at r [] Good.nil rep_new (by omega)
  have h := h (fun f hf => by simp at hf)
  subst h
  exact e
theorem read_eq {u v : U} (h : Ueq u v) (hn : (u.cells.map (·.1)).Nodup) (e a : Int) : u.read e a = v.read e a := by
  unfold U.read
  rw [asks_eq h, at_eq h hn]
theorem cut_clean (r : Int) (L : Fl) (f : Int) (ks : List Bool) : upD (cutD ⟨r, L, L, [], f, false⟩ ks) = ⟨r, L, L, [], -1, false⟩ := by
  unfold upD
  rw [if_pos (by rfl)]
  unfold cutD
  simp only [kept_nil]
  rfl
def A10 : Ac := ⟨2, 0, 2, [120]⟩
def u10 : U := ⟨0, 0, [(2, ⟨1, [120]⟩)]⟩
theorem ap10 : apU U.new A10 = (0, 0, u10) := by first | rfl | kernel_rfl
theorem read10 : u10.read 0 2 = (0, ⟨1, [120]⟩) := by first | rfl | kernel_rfl
/-- the example: an act is done, the power goes, the shelf is opened again -/
theorem alive_plain : ∃ D1 v D2, doS ⟨U.new, 0, false⟩ (newD 1000) A10 = (0, 0, ⟨u10, 1, false⟩, D1) ∧ Ok 1 D1 ∧ D1.pend = [] ∧ openS (upD (cutD D1 [])) = (0, ⟨v, 1, false⟩, D2) ∧ D2.pend = [] ∧ readS ⟨v, 1, false⟩ D2 0 2 = (0, ⟨1, [120]⟩) := by
  have hx : (apU U.new A10).1 = 0 := by rw [ap10]
  rcases doS_cases (r := 1000) (L := []) (f := -1) (u := U.new) (n := 0) (x := A10) (by simp) (by simp) (by simp [usedF]) (by omega) ⟨_, rep_new, Ueq.refl _⟩ hx with ⟨f', e, hf, hR⟩ | ⟨hf, _⟩
  · have hf := hf rfl
    subst hf
    rw [ap10] at e hR
    have hok := Ok.doS (Ok.new (room := 1000) (by decide)) ⟨U.new, 0, false⟩ A10
    have e' : doS ⟨U.new, 0, false⟩ (newD 1000) A10 = _ := e
    rw [e'] at hok
    obtain ⟨v, hv, hve⟩ := hR
    obtain ⟨L', e2, q1, q2, q3, q4⟩ := openS_at 1000 _ hok.shown hv (by omega)
    refine ⟨_, v, ⟨1000, L', L', [], -1, false⟩, e', hok, rfl, ?_, rfl, ?_⟩
    · rw [cut_clean]; exact e2
    · unfold readS
      have : looksS ⟨v, 1, false⟩ ⟨1000, L', L', [], -1, false⟩ = 0 := by unfold looksS; rw [if_neg (by simp)]
      rw [this, if_neg (by decide), read_eq hve hv.ok.nodup]
      exact read10
  · exact absurd rfl hf
end SH
end Go.Proofs.YtkhnbdbcaebdaaaGreatDoor

namespace Go.Proofs.YtkhnbdbcaebdaaaGreatDoor
set_option linter.unusedVariables false
set_option linter.unusedSimpArgs false
namespace SH
open DK
theorem ap_zero {u : U} {x : Ac} (h : (apU u x).1 ≠ 0) : (apU u x).2.1 = 0 ∧ (apU u x).2.2 = u := by
  revert h
  unfold apU
  split; · intro _; exact ⟨rfl, rfl⟩
  split
  · unfold U.sealE; repeat' split
    all_goals simp
  split
  · unfold U.write; repeat' split
    all_goals simp
  split
  · unfold U.fill; repeat' split
    all_goals simp
  split
  · unfold U.trim; repeat' split
    all_goals simp
  unfold U.cut; repeat' split
  all_goals simp
/-- a shelf whose disk has all power -/
def BasAt (k : Nat) (S : Sf) (D : Dk) : Prop := ∃ u n L, S = ⟨u, n, false⟩ ∧ D = ⟨16777216, L, L, [], -1, false⟩ ∧ Ok k D ∧ n ≤ k ∧ u.ok ∧ u.cells.length ≤ k ∧ RepE (V L) u n ∧ Only L
theorem BasAt.new : BasAt 0 ⟨U.new, 0, false⟩ (newD 16777216) :=
  ⟨U.new, 0, [], rfl, rfl, Ok.new (by decide), Nat.le_refl _, U.ok_new, Nat.le_refl _, ⟨_, rep_new, Ueq.refl _⟩, fun p hp => by simp at hp⟩
theorem BasAt.ok {k : Nat} {S : Sf} {D : Dk} (h : BasAt k S D) : Ok k D ∧ D.pend = [] := by
  obtain ⟨u, n, L, _, rfl, h, _⟩ := h
  exact ⟨h, rfl⟩
/-- what is answered, and what is then -/
theorem BasAt.act {k : Nat} {S : Sf} {D : Dk} (h : BasAt k S D) (hk : k ≤ 100) (x : Ac) : ∃ S' D', doS S D x = ((apU S.u x).1, (apU S.u x).2.1, S', D') ∧ S'.u = (apU S.u x).2.2 ∧ BasAt (k + 1) S' D' := by
  obtain ⟨u, n, L, rfl, rfl, h1, h2, h3, h4, h5, h6⟩ := h
  by_cases hx : (apU u x).1 = 0
  · have hnf := not_full h1 (by omega) rfl (k := 200) (by omega)
    rcases doS_cases h1.shown.nodup hnf.1 hnf.2 (by omega) h5 hx with ⟨f', e, hf, hR⟩ | ⟨hf, _⟩
    · obtain rfl := hf rfl
      have hok := Ok.doS h1 ⟨u, n, false⟩ x
      rw [e] at hok
      exact ⟨_, _, by rw [e, hx], rfl, _, _, _, rfl, rfl, hok, by omega, apU_ok h3 x, by have := apU_len u x; omega, hR, h6.act (by omega)⟩
    · exact absurd rfl hf
  · obtain ⟨z1, z2⟩ := ap_zero hx
    refine ⟨⟨u, n, false⟩, _, ?_, z2.symm, u, n, L, rfl, rfl, h1.mono (Nat.le_succ k), by omega, h3, by omega, h5, h6⟩
    rw [doS_err rfl hx]
    show _ = (_, (apU u x).2.1, _, _)
    rw [z1]
theorem BasAt.comp {k : Nat} {S : Sf} {D : Dk} (h : BasAt k S D) (hk : k ≤ 100) : ∃ D', compS S D = (0, S, D') ∧ BasAt (k + 1) S D' ∧ namesOf D'.shown = [nameN 98 S.n] := by
  obtain ⟨u, n, L, rfl, rfl, h1, h2, h3, h4, h5, h6⟩ := h
  rcases compS_cases h1 (by omega) rfl (by omega) h5 h3 (by omega) with ⟨f', L', e, hf, hR, hn, hd, hO⟩ | ⟨hf, _⟩
  · obtain rfl := hf rfl
    have hok := Ok.compS h1 ⟨u, n, false⟩
    rw [e] at hok
    obtain ⟨o1, o2⟩ := hO h6
    refine ⟨_, e, ⟨u, n, L', rfl, rfl, hok, by omega, h3, by omega, hR, o1⟩, ?_⟩
    exact only_one hn o2 hd.choose_spec
  · exact absurd rfl hf
theorem BasAt.open {k : Nat} {S : Sf} {D : Dk} (h : BasAt k S D) (hk : k ≤ 100) : ∃ S', openS (upD (cutD D [])) = (0, S', D) ∧ S'.n = S.n ∧ Ueq S'.u S.u ∧ BasAt k S' D := by
  obtain ⟨u, n, L, rfl, rfl, h1, h2, h3, h4, ⟨v, hv, hve⟩, h6⟩ := h
  obtain ⟨L', e, q1, q2, q3, q4⟩ := openS_at 16777216 L h1.shown hv (by omega)
  obtain rfl := q4 h6.noBeg
  have hl := hve.cells.length_eq
  exact ⟨⟨v, n, false⟩, by rw [cut_clean]; exact e, rfl, hve, v, n, _, rfl, rfl, h1, h2, hv.ok, by omega, ⟨v, hv, Ueq.refl _⟩, h6⟩
theorem same_ueq {u v : U} (h : Ueq u v) (hu : u.ok) : sameB u v = true := by
  have hn : (v.cells.map (·.1)).Nodup := (h.cells.map _).nodup_iff.1 hu.nodup
  unfold sameB
  simp only [h.e, h.l, h.cells.length_eq, beq_self_eq_true, Bool.true_and, List.all_eq_true, Bool.and_eq_true, List.any_eq_true, decide_eq_true_eq]
  exact fun p hp => ⟨⟨p, h.cells.mem_iff.1 hp, beq_self_eq_true _⟩, (lookC_of_mem hn (h.cells.mem_iff.1 hp)).symm⟩
end SH
end Go.Proofs.YtkhnbdbcaebdaaaGreatDoor

namespace Go.Proofs.YtkhnbdbcaebdaaaGreatDoor
open Go.RowKit
set_option linter.unusedSimpArgs false
set_option linter.unusedVariables false
set_option maxRecDepth 20000
namespace SH
open DK
theorem sread_any {q N : Nat} {S : Sf} {D : Dk} {vs : PoolL} {F : Nat → Prop} (e a : Int) (w : World) (h : ShAt q N S D vs [] F w w) :
    Calls Tryz.prog 23 #[ptrV q, .int .i64 e, .int .i64 a] w (ReadR (readS S D e a).1 (readS S D e a).2 w) := by
  obtain ⟨p, bu, bm, G1, Z, H⟩ := sh_open h
  have HLk := Lib.hid' (fun (wq : World) (hb : Below w.heap.size w wq) => slooks_any (S := S) (D := D) wq (sh_in (H.below hb)) ((H.below hb).at 4 rfl))
  have HRd := Lib.hid' (fun (wq : World) (hb : Below w.heap.size w wq) => read_any e a wq (Sep.unitAt (H.below hb)))
  have c1 := (sh_in H).c1
  have lq := (sh_in H).lq
  clear h H
  by_cases hl : looksS S D = 0
  rotate_left
  · have HF := Lib.hid' (show readS S D e a = (looksS S D, ⟨0, []⟩) by unfold readS; rw [if_pos hl])
    have HE := Lib.hid' hl
    clear hl
    go_enter Tryz.func23, Tryz.ntmps23
    go_wp2_with (go_at_call 48; refine (HLk.out _ (by go_grown)).mono ?_; rintro en w1 ⟨rfl, rfl⟩; rw [errV_pos HE.out])
    refine bodyPost_ret (v := .tuple #[.agg #[.int .i64 0, .slice none 0 0], .iface 54 (.int .i64 (looksS S D))]) (by simp [results, Tryz.results23, go_sem]) rfl ?_
    rw [HF.out]
    exact ⟨none, 0, by rw [errV_pos HE.out]; rfl, World.ownsRow_nil _ _ _ _, by go_grown⟩
  have HF := Lib.hid' (show readS S D e a = S.u.read e a by unfold readS; rw [if_neg (by rw [hl]; decide)])
  have HE := Lib.hid' hl
  clear hl
  go_enter Tryz.func23, Tryz.ntmps23
  go_wp2_with (go_at_call 48; refine (HLk.out _ (by go_grown)).mono ?_; rintro en w1 ⟨rfl, rfl⟩; rw [HE.out, errV_0])
  have hb0 : Below w.heap.size w (w.alloc (.cells #[.int .i64 0, .slice none 0 0] 57)) := by go_grown
  refine (HRd.out _ (by go_grown)).mono ?_
  rintro en w2 ⟨a2, cp2, rfl, ho, hb2⟩
  have HO := Lib.hid' ho
  have hc2 := (bcell hb2).1
  have c0 : w2.cell? ⟨w.heap.size, 0, none⟩ = some (.int .i64 0) := (hc2 _ _ (by simp)).trans (by simp [go_sem])
  have c1 : w2.cell? ⟨w.heap.size, 1, none⟩ = some (.slice none 0 0) := (hc2 _ _ (by simp)).trans (by simp [go_sem])
  have f0 : w2.frozen? ⟨w.heap.size, 0, none⟩ = false := ((bcell hb2).2 _ _ (by simp)).trans (by simp [go_sem])
  have f1 : w2.frozen? ⟨w.heap.size, 1, none⟩ = false := ((bcell hb2).2 _ _ (by simp)).trans (by simp [go_sem])
  have hz2 := hb2.size
  have HB2 := Lib.hid' hb2
  clear ho hc2 hb2 hb0
  have lt1 : w.heap.size < w2.heap.size := by simp at hz2; omega
  go_wp2
  refine bodyPost_ret (v := .tuple #[.agg #[.int .i64 (S.u.read e a).2.k, .slice a2 (S.u.read e a).2.d.length cp2], errV (S.u.read e a).1]) (by simp [results, Tryz.results23, go_sem, c0, c1]) rfl ?_
  rw [HF.out]
  refine ⟨_, _, rfl, own_base (ownsRow_setCell_below (ownsRow_setCell_below HO.out (by simp) _) (by simp) _) (by simp), ?_⟩
  refine Below.setCell (Below.setCell ?_ (by simp) _) (by simp) _
  exact below_call (by go_grown) (by simp) HB2.out
end SH
end Go.Proofs.YtkhnbdbcaebdaaaGreatDoor

namespace Go.Proofs.YtkhnbdbcaebdaaaGreatDoor
open Go.RowKit
set_option linter.unusedSimpArgs false
set_option linter.unusedVariables false
set_option maxRecDepth 100000
namespace SH
open DK
theorem bytes_one (w : World) (b : UInt8) (n : Nat) (hn : n = 1) : Bytes (w.alloc (.cells #[byteV b] 5 (1, 2))) (.slice (some ⟨w.heap.size, 0, none⟩) n n) [b] := by
  subst hn
  refine ⟨_, _, rfl, Nat.le_refl _, by unfold maxLen; decide, by simp, fun j u hu => ⟨_, rfl, ?_⟩⟩
  have e1 : (Addr.add ⟨w.heap.size, 0, none⟩ j) = ⟨w.heap.size, j, none⟩ := by unfold Addr.add; split <;> simp_all
  rw [e1]
  have e2 : (w.alloc (.cells #[byteV b] 5 (1, 2))).heap[w.heap.size]? = some (.cells #[byteV b] 5 (1, 2)) := by show (w.heap.push _)[w.heap.size]? = _; simp
  simp only [World.cell?, e2, Option.isSome_none, Bool.false_eq_true, if_false]
  simpa [byteVs] using hu
/-- the table is kept by what is done with parts laid since -/
theorem pow_kept {w0 w : World} {G : Nat → Prop} {L : List Asn} {A : Asn} (hp : Pow w0) (H : Sep w0 NoF (A :: L) w) (hA : A.foot = G) : ∀ wq, (∃ L, Sep w G L wq) → Pow wq := fun wq ⟨K, k⟩ => hp.below (H.call1 hA k).toBelow
set_option maxHeartbeats 4000000 in
theorem alive10_any (w : World) (hp : Pow w) : Calls Tryz.prog 5 #[] w fun e w' => e = .returned (.bool true) ∧ Below w.heap.size w w' := by
  have HP := Lib.hid' hp
  clear hp
  obtain ⟨D1, v, D2, q1, q2, q3, q4, q5, q6⟩ := alive_plain
  have Q1 := Lib.hid' q1
  have Q2 := Lib.hid' q2
  have Q3 := Lib.hid' q3
  have Q4 := Lib.hid' q4
  have Q5 := Lib.hid' q5
  have Q6 := Lib.hid' q6
  clear q1 q2 q3 q4 q5 q6
  have kc := fun (w : World) (C : Array Value) (n c : Nat) => Lib.run_convert_bytes_const (P := Tryz.prog) w 32 5 C n c Tryz.underlying32 Tryz.underlying5
  go_enter Tryz.func5, Tryz.ntmps5
  go_wp2_with fail
  refine (dnew_any 1000 w (by decide)).mono ?_
  rintro e w1 ⟨N, G1, rfl, h1⟩
  have H1 := Lib.hid' h1
  clear h1
  go_wp2_with fail
  refine (shopen_any (m := 0) w1 (H1.out.at 0 rfl) (HP.out.below H1.out.toBelow) (Ok.new (by decide)) (by decide) (by decide) (pow_kept HP.out H1.out rfl)).mono ?_
  rintro e w2 hE
  have hE2 : ∃ q us, e = .returned (.tuple #[ptrV q, .nilIface]) ∧ ShAt q N ⟨U.new, 0, false⟩ (newD 1000) us [] G1 w1 w2 := by
    rcases hE with ⟨h0, _⟩ | ⟨_, q, us, he, hs⟩
    · rw [openS_new] at h0; exact absurd rfl h0
    · rw [openS_new] at hs; exact ⟨q, us, he, hs⟩
  clear hE
  obtain ⟨q, us, rfl, hs⟩ := hE2
  obtain ⟨G2, G3, Z, h2⟩ := hs
  have H2 := Lib.hid' (H1.out.call1 rfl h2)
  clear h2
  go_wp2_with fail
  have hA3 : ShAt q N ⟨U.new, 0, false⟩ (newD 1000) us [] NoF w (w2.alloc (.cells #[byteV 120] 5 (1, 2))) := ⟨G2, G3, Z, H2.out.below (by go_grown)⟩
  have hB3 := bytes_one w2 120 1 rfl
  have hz3 : w2.alloc (Obj.cells #[Value.int IntKind.u8 120] 5 (1, 2)) = w2.alloc (.cells #[byteV 120] 5 (1, 2)) := rfl
  rw [hz3]
  clear hz3
  generalize w2.alloc (.cells #[byteV 120] 5 (1, 2)) = w3 at *
  have hp3 : Pow w3 := by
    obtain ⟨_, _, _, h⟩ := hA3
    exact HP.out.below h.toBelow
  obtain ⟨F3, hA3', hback⟩ := hA3.enter
  refine (sdo_any (m := 0) A10 (some ⟨w2.heap.size, 0, none⟩) 1 w3 hA3' hp3 (Ok.new (by decide)) (by decide) (by decide) hB3).mono ?_
  rintro e w4 hE
  unfold SDoR ShR at hE
  rw [Q1.out] at hE
  obtain ⟨rfl, us4, _, h4⟩ := hE
  have H4 := Lib.hid' (hback _ _ _ _ _ h4)
  clear h4 hback hA3 hA3' hB3 hp3
  obtain ⟨G4, G4', Z4, h4⟩ := H4.out
  have H4 := Lib.hid' h4
  clear h4
  simp only [errV_0]
  have hb4 := HP.out.below H4.out.toBelow
  go_wp2_with fail
  refine (cut_any6 (m := 1) [] none 0 w4 (H4.out.at 0 rfl) Q2.out (by rw [Q3.out]; decide) (SlV.empty _ _ _ (Nat.zero_le _) (fun _ => rfl)) (fun k _ _ h => by cases h)).mono ?_
  rintro e w5 ⟨rfl, G5, k5⟩
  have H5 := Lib.hid' (H4.out.call1 rfl k5)
  clear k5
  go_wp2_with fail
  refine (start_any (m := 1) w5 (H5.out.at 0 rfl) (Q2.out.cut []) (Nat.zero_le _)).mono ?_
  rintro e w6 ⟨rfl, G6, k6⟩
  have H6 := Lib.hid' (H5.out.call1 rfl k6)
  clear k6
  have ho6 := (Q2.out.cut []).start
  have hp6 : (upD (cutD D1 [])).pend = [] := rfl
  have Q4' := Q4.out
  generalize upD (cutD D1 []) = D6 at *
  go_wp2_with fail
  refine (shopen_any (m := 1) w6 (H6.out.at 0 rfl) (HP.out.below H6.out.toBelow) ho6 (by decide) (by rw [hp6]; decide) (pow_kept HP.out H6.out rfl)).mono ?_
  rintro e w7 hE
  have hE7 : ∃ q us, e = .returned (.tuple #[ptrV q, .nilIface]) ∧ ShAt q N ⟨v, 1, false⟩ D2 us [] G6 w6 w7 := by
    rcases hE with ⟨h0, _⟩ | ⟨_, q, us, he, hs⟩
    · rw [Q4'] at h0; exact absurd rfl h0
    · rw [Q4'] at hs; exact ⟨q, us, he, hs⟩
  clear hE
  obtain ⟨q7, us7, rfl, hs⟩ := hE7
  obtain ⟨G7, G7', Z7, h7⟩ := hs
  have hA7 : ShAt q7 N ⟨v, 1, false⟩ D2 us7 [Asn.shelf q N ⟨u10, 1, false⟩ us4 G4', Asn.pool Z4 us4] NoF w w7 := ⟨G7, G7', Z7, H6.out.call1 rfl h7⟩
  clear h7
  obtain ⟨F7, hA7', _⟩ := hA7.enter
  have HA7 := Lib.hid' hA7
  have HR7 := Lib.hid' (sread_any 0 2 w7 hA7')
  obtain ⟨p7, bu7, bm7, G8, Z8, hin⟩ := sh_open hA7'
  have HN7 := Lib.hid' (sh_in hin)
  clear hA7 hA7' hin
  rw [Q6.out] at HR7
  go_wp2_with fail
  refine HR7.out.mono ?_
  rintro e w8 ⟨a8, c8, rfl, ho, hb8⟩
  have HB8 := Lib.hid' (show Bytes w8 (.slice a8 1 c8) [120] from SlV.of_own ho)
  have HB7 := Lib.hid' (HP.out)
  have hlw : Below w.heap.size w w8 := by
    obtain ⟨_, _, _, h⟩ := HA7.out
    exact below_call h.toBelow h.toBelow.size hb8
  have HLW := Lib.hid' hlw
  have HN8 := Lib.hid' (fun wq (hb : Below w8.heap.size w8 wq) => snext_any (S := ⟨v, 1, false⟩) wq (HN7.out.below (below_call hb8 hb8.size hb)))
  clear ho hb8 hlw
  rw [errV_0]
  go_upto_region 12 with fail
  have hs := run_string_of (P := Tryz.prog) 32 5 9 Tryz.underlying32 Tryz.underlying5 Tryz.underlying9 (w := w8.alloc (.cells #[.int .i64 1, .slice a8 1 c8] 57)) (SlV.below HB8.out (Nat.le_refl _) (by go_grown))
  have hso : strOf [120] = ⟨#[120]⟩ := rfl
  rw [hso] at hs
  clear hso
  go_wp2_with (go_at_call 10; refine (HN8.out _ (by go_grown)).mono ?_; rintro e w9 ⟨rfl, rfl⟩)
  go_ret
  refine ⟨?_, HLW.out.trans ((Below.refl w8.heap.size w8).alloc (Nat.le_refl _) _ |>.mono HLW.out.size)⟩
  rfl
end SH
end Go.Proofs.YtkhnbdbcaebdaaaGreatDoor

namespace Go.Proofs.YtkhnbdbcaebdaaaGreatDoor
open Go.RowKit
set_option linter.unusedSimpArgs false
set_option linter.unusedVariables false
set_option maxRecDepth 100000
namespace SH
open DK
/-- an act in memory -/
abbrev AcS := Ac × Option Addr × Nat
def acV (x : AcS) : List Value := [.int .i64 x.1.k, .int .i64 x.1.e, .int .i64 x.1.a, .slice x.2.1 x.1.d.length x.2.2]
def ActsAt (w : World) (v : Value) (X : List AcS) : Prop := SlV w v X.length (X.flatMap acV) ∧ ∀ x ∈ X, Bytes w (.slice x.2.1 x.1.d.length x.2.2) x.1.d
theorem ActsAt.below {w w' : World} {v : Value} {X : List AcS} (h : ActsAt w v X) {B : Nat} (hB : w.heap.size ≤ B) (hb : Below B w w') : ActsAt w' v X :=
  ⟨SlV.below h.1 hB hb, fun x hx => SlV.below (h.2 x hx) hB hb⟩
theorem ShAt.toBelow {q N : Nat} {S : Sf} {D : Dk} {vs : PoolL} {L : List Asn} {w w' : World} (h : ShAt q N S D vs L NoF w w') : Below w.heap.size w w' := by
  obtain ⟨_, _, _, H⟩ := h
  exact H.toBelow
/-- an act done within a walk -/
theorem bdo_any {q N k : Nat} {S : Sf} {D : Dk} {vs : PoolL} {L : List Asn} {W : World} (x : Ac) (a : Option Addr) (c : Nat) (w : World) (hp : Pow W) (h : ShAt q N S D vs L NoF W w) (hk : BasAt k S D) (hk1 : k ≤ 100) (hB : Bytes w (.slice a x.d.length c) x.d) :
    Calls Tryz.prog 8 #[ptrV q, ac9V x a c] w fun e w' => e = .returned (.tuple #[.int .i64 (apU S.u x).2.1, errV (apU S.u x).1]) ∧ ∃ S' D' us, S'.u = (apU S.u x).2.2 ∧ BasAt (k + 1) S' D' ∧ ShAt q N S' D' us L NoF W w' := by
  obtain ⟨S', D', q1, q2, q3⟩ := hk.act hk1 x
  obtain ⟨F', h1, hback⟩ := h.enter
  obtain ⟨ho, hpe⟩ := hk.ok
  refine (sdo_any (m := k) x a c w h1 (hp.below h.toBelow) ho (by omega) (by rw [hpe]; exact Nat.zero_le _) hB).mono ?_
  intro e w' hE
  unfold SDoR ShR at hE
  rw [q1] at hE
  obtain ⟨rfl, us, _, h2⟩ := hE
  exact ⟨rfl, S', D', us, q2, q3, hback _ _ _ _ _ h2⟩
theorem bunit_any {q N : Nat} {S : Sf} {D : Dk} {vs : PoolL} {L : List Asn} {W : World} (w : World) (h : ShAt q N S D vs L NoF W w) :
    Calls Tryz.prog 9 #[ptrV q] w fun e w' => ∃ bu bm us, e = .returned (ptrV bu) ∧ ShAt q N S D us (.unit bu bm S.u us :: L) NoF W w' := by
  obtain ⟨F', h1, hback⟩ := h.enter
  refine (sunit_any w h1).mono ?_
  rintro e w' ⟨bu, bm, us, rfl, _, h2⟩
  exact ⟨bu, bm, us, rfl, hback _ _ _ _ _ h2⟩
theorem bnext_any {q N : Nat} {S : Sf} {D : Dk} {vs : PoolL} {L : List Asn} {W : World} (w : World) (h : ShAt q N S D vs L NoF W w) :
    Calls Tryz.prog 10 #[ptrV q] w fun e w' => e = .returned (.int .i64 (S.n : Nat)) ∧ w = w' := by
  obtain ⟨F', h1, _⟩ := h.enter
  obtain ⟨p, bu, bm, G1, Z, H⟩ := sh_open h1
  exact snext_any w (sh_in H)
theorem pend_put (D : Dk) (n : Nm) (d : List UInt8) : (putD D n d).2.pend.length ≤ D.pend.length + 2 := by
  have hw : ∀ D : Dk, (worksD D).2.pend = D.pend := fun D => by unfold worksD; repeat' split
                                                                all_goals rfl
  have h1 : ∀ (D : Dk) n d, (writeD D n d).2.pend.length ≤ D.pend.length + 1 := fun D n d => by
    have := hw D
    unfold writeD
    simp only
    repeat' split
    all_goals first | (rw [this]; omega) | (unfold addD; simp only [List.length_append, List.length_singleton]; rw [this]; exact Nat.le_refl _) | (rw [this]; exact Nat.le_refl _)
  have h2 : ∀ (D : Dk), (syncD D).2.pend.length ≤ D.pend.length := fun D => by
    have := hw D
    unfold syncD
    simp only
    split
    · rw [this]; omega
    · simp
  have h3 : ∀ (D : Dk) n d, (renameD D n d).2.pend.length ≤ D.pend.length + 1 := fun D n d => by
    have := hw D
    unfold renameD
    simp only
    repeat' split
    all_goals first | (rw [this]; omega) | (unfold addD; simp only [List.length_append, List.length_singleton]; rw [this]; exact Nat.le_refl _) | (rw [this]; exact Nat.le_refl _)
  have g1 := h1 D (tilde ++ n) d
  have g2 := h2 (writeD D (tilde ++ n) d).2
  have g3 := h3 (syncD (writeD D (tilde ++ n) d).2).2 (tilde ++ n) n
  have g4 := h2 (renameD (syncD (writeD D (tilde ++ n) d).2).2 (tilde ++ n) n).2
  unfold putD
  repeat' split
  all_goals first | exact Nat.le_add_right _ _ | exact Nat.le_trans g1 (by omega) | omega
theorem bcomp_any {q N k : Nat} {S : Sf} {D : Dk} {vs : PoolL} {L : List Asn} {W : World} (w : World) (hp : Pow W) (h : ShAt q N S D vs L NoF W w) (hk : BasAt k S D) (hk1 : k ≤ 100) :
    Calls Tryz.prog 11 #[ptrV q] w fun e w' => e = .returned .nilIface ∧ ∃ D', BasAt (k + 1) S D' ∧ namesOf D'.shown = [nameN 98 S.n] ∧ ShAt q N S D' vs L NoF W w' := by
  obtain ⟨D', q1, q2, q3⟩ := hk.comp hk1
  obtain ⟨F', h1, hback⟩ := h.enter
  obtain ⟨ho, hpe⟩ := hk.ok
  have hpp := pend_put D (nameN 98 S.n) (putU S.u.e S.u.l (sortC S.u.cells)).2
  rw [hpe] at hpp
  have hc : S.u.cells.length ≤ 65536 := by
    obtain ⟨u, n, L, rfl, _, _, _, _, h, _⟩ := hk
    show u.cells.length ≤ _
    omega
  refine (comp_any (m := k) w h1 (hp.below h.toBelow) ho (by omega) (by rw [hpe]; exact Nat.zero_le _) hc (Nat.le_trans hpp (by decide))).mono ?_
  intro e w' hE
  unfold CompR at hE
  rw [q1] at hE
  obtain ⟨rfl, h2⟩ := hE
  exact ⟨rfl, D', q2, q3, hback _ _ _ _ _ h2⟩
theorem idx98 (n : Nat) (wq : World) : (Instr.index 9 (.string (nameN 98 n)) (.int .i64 0)).run Tryz.prog wq = .ok (.int .u8 98) wq := by
  have hs : 0 < (nameN 98 n).size := by show 0 < (98 :: pad8 n).toArray.size; simp
  rw [run_index_string _ _ _ _ _ Tryz.underlying9, dif_pos ⟨by decide, by omega⟩]
  rfl
/-- what the first loop keeps -/
def B1 (W : World) (q N k : Nat) (w : World) : Prop := ∃ S D us, BasAt k S D ∧ ShAt q N S D us [] NoF W w
/-- what the second loop keeps -/
def B2 (W : World) (q N b2 m2 K0 k : Nat) (w : World) : Prop := ∃ S D us u2 us2 Z2, BasAt (K0 + k) S D ∧ Ueq S.u u2 ∧ ShAt q N S D us [.unit b2 m2 u2 us2, Asn.pool Z2 us2] NoF W w
end SH
end Go.Proofs.YtkhnbdbcaebdaaaGreatDoor
