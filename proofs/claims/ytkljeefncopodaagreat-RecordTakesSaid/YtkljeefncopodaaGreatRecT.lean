/- Layer 9, the document's: the act of bytes. -/
import Derived.Test.YtkljeefncopodaaGreatRefK
import Derived.Test.YtkljeefncopodaaGreatRecC
import Derived.Test.YtkljeefncopodaaGreatRecD
import Derived.Deep.DeepCutAuto
import Derived.Deep.CutBlock
namespace Go.Proofs.YtkljeefncopodaaGreat
open Go.RowKit
set_option linter.unusedSimpArgs false
set_option linter.unusedVariables false
set_option maxRecDepth 100000

theorem ac_take {b t : List UInt8} {x : Ac} {r : RD} (hF : fone b = (0, t)) (hx : Ac.read ⟨t, 0⟩ = (x, r)) : Ac.take b = if r.fin ≠ 0 then (r.fin, Ac.zero) else if x.check ≠ 0 then (x.check, Ac.zero) else (0, x) := by
  unfold Ac.take
  rw [hF]
  simp only [ne_eq, not_true_eq_false, if_false]
  rw [hx]
theorem within_badr {r : RD} (h : r.bad ≠ 0) (most : Nat) : r.within most = (0, r) := by
  have : r.num = (0, r) := by unfold RD.num; rw [if_pos h]
  unfold RD.within
  rw [this]
  rw [if_neg (by simp)]
theorem read_all {t : List UInt8} {s1 s2 s3 s4 s5 : RD} {k e a : Nat} {d : List UInt8} (h1 : RD.within ⟨t, 0⟩ 5 = (k, s1)) (h2 : (if k < 1 then s1.fail 1 else s1) = s2) (h3 : s2.within 1099511627776 = (e, s3))
    (h4 : (if k ≠ 1 then s3.within 1048576 else (0, s3)) = (a, s4)) (h5 : (if k = 2 then s4.text 64 else ([], s4)) = (d, s5)) : Ac.read ⟨t, 0⟩ = (⟨(k : Nat), (e : Nat), (a : Nat), d⟩, s5) := by
  unfold Ac.read
  rw [h1]
  simp only [h2, h3, h4, h5]
theorem text_le (r : RD) (m : Nat) : (r.text m).1.length ≤ m := by
  unfold RD.text RD.fixed
  have := count_le r m
  split
  · simp
  · split
    · simp
    · simp only [List.length_take]; omega
def RTake09R (p : Nat × Ac) (w : World) (en : Ending) (w' : World) : Prop := en = .returned (.tuple #[d9V p.2, .int .i64 (p.1 : Nat)]) ∧ Below w.heap.size w w'
set_option maxHeartbeats 40000000 in
theorem rtake09_any (b : List UInt8) (a : Option Addr) (c : Nat) (w : World) (h : Bytes w (.slice a b.length c) b) :
    Calls Tryz.prog 17 #[.slice a b.length c] w (RTake09R (Ac.take b) w) := by
  have HD := Lib.hid' h
  have hbl := bytes_len h
  clear h
  obtain ⟨p, hp⟩ : ∃ p, p = Ac.take b := ⟨_, rfl⟩
  have HP := Lib.hid' hp
  rw [← hp]
  clear hp
  go_enter Tryz.func17, Tryz.ntmps17
  go_wp2_with fail
  have G0 : Sep w NoF [] w := Sep.start _
  have H1 : Sep w NoF [.box (w.heap.size) [.int .i64 0, .int .i64 0, .int .i64 0, .string ⟨#[]⟩] 45] ((w.alloc (.cells #[.int .i64 0, .int .i64 0, .int .i64 0, .string ⟨#[]⟩] 45))) := (G0.allocAt (w.heap.size) [.int .i64 0, .int .i64 0, .int .i64 0, .string ⟨#[]⟩] 45 (by simp))
  clear G0
  generalize (w.alloc (.cells #[.int .i64 0, .int .i64 0, .int .i64 0, .string ⟨#[]⟩] 45)) = w1 at *
  have HERR : Hid (∀ wq (err : Nat), Below w.heap.size w wq → p = (err, Ac.zero) → RTake09R p w (.returned (.tuple #[.agg #[.int .i64 0, .int .i64 0, .int .i64 0, .string ⟨#[]⟩], .int .i64 (err : Nat)])) ((((wq.setCell ⟨w.heap.size, 0, none⟩ (.int .i64 0)).setCell ⟨w.heap.size, 1, none⟩ (.int .i64 0)).setCell ⟨w.heap.size, 2, none⟩ (.int .i64 0)).setCell ⟨w.heap.size, 3, none⟩ (.string ⟨#[]⟩))) := Lib.hid' (by
    intro wq err hb hx
    subst hx
    exact ⟨rfl, ((((hb.setCell (by simp) _).setCell (by simp) _).setCell (by simp) _).setCell (by simp) _)⟩)
  refine (rone09_any b a c w1 (SlV.below HD.out (Nat.le_refl _) H1.toBelow)).mono ?_
  rintro en w2 ⟨a2, t, c2, rfl, hy2, hf2, hb2⟩
  obtain ⟨fe, hfe⟩ : ∃ n, n = (fone b).1 := ⟨_, rfl⟩
  rw [← hfe] at hf2 ⊢
  have HFE := Lib.hid' hfe
  have HF2 := Lib.hid' hf2
  have HY2 := Lib.hid' hy2
  have htl := bytes_len hy2
  clear hfe hf2 hy2
  have H2 : Sep w NoF [.box (w.heap.size) [.int .i64 0, .int .i64 0, .int .i64 0, .string ⟨#[]⟩] 45] (w2) := (H1.below hb2)
  clear H1 hb2
  have HN2 := Lib.hid' (H2.box 0 rfl)
  have HB2 := Lib.hid' H2.toBelow
  clear H2
  by_cases hfe0 : fe = 0
  rotate_left
  · skip
    have HNw := Lib.hid' (HN2.out)
    have HBw := Lib.hid' (HB2.out)
    have n0 := HNw.out.box.1 0 _ rfl
    have n1 := HNw.out.box.1 1 _ rfl
    have n2 := HNw.out.box.1 2 _ rfl
    have n3 := HNw.out.box.1 3 _ rfl
    have g0 := HNw.out.box.2.1 0
    have g1 := HNw.out.box.2.1 1
    have g2 := HNw.out.box.2.1 2
    have g3 := HNw.out.box.2.1 3
    have hnl := HNw.out.lt
    have HE := Lib.hid' (HERR.out w2 fe HBw.out (by rw [HP.out]; unfold Ac.take; rw [if_pos (by rw [← HFE.out]; exact hfe0), ← HFE.out]))
    have hb1 : ((fe : Int) != 0) = true := by rw [bne_iff_ne]; omega
    clear hfe0
    go_wp2
    refine bodyPost_ret (v := .tuple #[.agg #[.int .i64 0, .int .i64 0, .int .i64 0, .string ⟨#[]⟩], .int .i64 (fe : Nat)]) (by simp [results, Tryz.results17, go_sem, n0, n1, n2, n3]) rfl HE.out
  subst hfe0
  have HF0 := Lib.hid' (show fone b = (0, t) from by rw [HF2.out rfl, HFE.out])
  have hNR : w.heap.size < w2.heap.size := HN2.out.lt
  clear HFE HF2
  go_wp2_with fail
  have H0 : Sep w2 NoF [] w2 := Sep.start _
  have H1 : Sep w2 NoF [.box (w2.heap.size + 1) [.int .i64 0, .int .i64 0, .int .i64 0, .string ⟨#[]⟩] 45, .box (w2.heap.size) [.slice a2 t.length c2, .int .i64 0] 95] (((w2.alloc (.cells #[.slice a2 t.length c2, .int .i64 0] 95)).alloc (.cells #[.int .i64 0, .int .i64 0, .int .i64 0, .string ⟨#[]⟩] 45))) := ((H0.allocAt (w2.heap.size) [.slice a2 t.length c2, .int .i64 0] 95 (by simp)).allocAt (w2.heap.size + 1) [.int .i64 0, .int .i64 0, .int .i64 0, .string ⟨#[]⟩] 45 (by simp))
  clear H0
  generalize ((w2.alloc (.cells #[.slice a2 t.length c2, .int .i64 0] 95)).alloc (.cells #[.int .i64 0, .int .i64 0, .int .i64 0, .string ⟨#[]⟩] 45)) = w3 at *
  have hwi := rwithin01_any ⟨t, 0⟩ a2 c2 5 (by decide) w2 w3 HY2.out H1.toBelow
  unfold RInt01R at hwi
  obtain ⟨k1, hv⟩ : ∃ v, v = (RD.within ⟨t, 0⟩ 5).1 := ⟨_, rfl⟩
  obtain ⟨s1, hs⟩ : ∃ s, s = (RD.within ⟨t, 0⟩ 5).2 := ⟨_, rfl⟩
  have HK1 := Lib.hid' (show RD.within ⟨t, 0⟩ 5 = (k1, s1) by rw [hv, hs])
  rw [← hv, ← hs] at hwi
  clear hv hs
  refine hwi.mono ?_
  clear hwi
  rintro en w4 ⟨a4, c4, rfl, hy, hb⟩
  have HY_s1 := Lib.hid' hy
  clear hy
  have H2 : Sep w2 NoF [.box (w2.heap.size + 1) [.int .i64 0, .int .i64 0, .int .i64 0, .string ⟨#[]⟩] 45, .box (w2.heap.size) [.slice a2 t.length c2, .int .i64 0] 95] (w4) := (H1.below hb)
  clear H1 hb
  unfold rdV
  have Rc0 := H2.cell 1 rfl 0 rfl
  have Rc1 := H2.cell 1 rfl 1 rfl
  have Rf0 := H2.free 1 rfl 0
  have Rf1 := H2.free 1 rfl 1
  have Rl := H2.lt 1 rfl
  have Ac0 := H2.cell 0 rfl 0 rfl
  have Ac1 := H2.cell 0 rfl 1 rfl
  have Ac2 := H2.cell 0 rfl 2 rfl
  have Ac3 := H2.cell 0 rfl 3 rfl
  have Af0 := H2.free 0 rfl 0
  have Af1 := H2.free 0 rfl 1
  have Af2 := H2.free 0 rfl 2
  have Af3 := H2.free 0 rfl 3
  have Al := H2.lt 0 rfl
  have RnA := H2.ne 1 0 rfl rfl (by decide)
  have AnR := H2.ne 0 1 rfl rfl (by decide)
  go_upto_region 7 with fail
  have H3 : Sep w2 NoF [.box (w2.heap.size) [.slice a4 s1.rest.length c4, .int .i64 (s1.bad : Nat)] 95, .box (w2.heap.size + 1) [.int .i64 (k1 : Int), .int .i64 0, .int .i64 0, .string ⟨#[]⟩] 45] ((((w4.setCell ⟨w2.heap.size + 1, 0, none⟩ (.int .i64 (k1 : Int))).setCell ⟨w2.heap.size, 0, none⟩ (.slice a4 s1.rest.length c4)).setCell ⟨w2.heap.size, 1, none⟩ (.int .i64 (s1.bad : Nat)))) := (((H2.set 0 rfl 0 (.int .i64 (k1 : Int))).set 1 rfl 0 (.slice a4 s1.rest.length c4)).set 0 rfl 1 (.int .i64 (s1.bad : Nat)))
  clear Rc0 Rc1 Rf0 Rf1 Rl Ac0 Ac1 Ac2 Ac3 Af0 Af1 Af2 Af3 Al RnA AnR
  clear H2
  generalize (((w4.setCell ⟨w2.heap.size + 1, 0, none⟩ (.int .i64 (k1 : Int))).setCell ⟨w2.heap.size, 0, none⟩ (.slice a4 s1.rest.length c4)).setCell ⟨w2.heap.size, 1, none⟩ (.int .i64 (s1.bad : Nat))) = w6 at *
  obtain ⟨s2, hs2⟩ : ∃ s2, s2 = if k1 < 1 then s1.fail 1 else s1 := ⟨_, rfl⟩
  have HS2 := Lib.hid' hs2
  have HY_s2 := Lib.hid' (show Bytes w2 (.slice a4 s2.rest.length c4) s2.rest by
    have h1 : s2.rest = s1.rest := by rw [hs2]; split
                                      · exact fail_rest _ _
                                      · rfl
    rw [h1]; exact HY_s1.out)
  clear hs2
  have Rc0 := H3.cell 0 rfl 0 rfl
  have Rc1 := H3.cell 0 rfl 1 rfl
  have Rf0 := H3.free 0 rfl 0
  have Rf1 := H3.free 0 rfl 1
  have Rl := H3.lt 0 rfl
  have Ac0 := H3.cell 1 rfl 0 rfl
  have Ac1 := H3.cell 1 rfl 1 rfl
  have Ac2 := H3.cell 1 rfl 2 rfl
  have Ac3 := H3.cell 1 rfl 3 rfl
  have Af0 := H3.free 1 rfl 0
  have Af1 := H3.free 1 rfl 1
  have Af2 := H3.free 1 rfl 2
  have Af3 := H3.free 1 rfl 3
  have Al := H3.lt 1 rfl
  have RnA := H3.ne 0 1 rfl rfl (by decide)
  have AnR := H3.ne 1 0 rfl rfl (by decide)
  go_cut [37] (fun v37 wc => v37 = .bool (decide (s1.bad = 0 ∧ k1 = 0)) ∧ wc = w6)
  case first =>
    by_cases hb0 : s1.bad = 0
    · have hb1 : ((s1.bad : Int) == 0) = true := by rw [beq_iff_eq]; omega
      by_cases hk0 : k1 = 0
      · have hk1 : ((k1 : Int) == 0) = true := by rw [beq_iff_eq]; omega
        have HF := Lib.hid' (show decide (s1.bad = 0 ∧ k1 = 0) = true from decide_eq_true ⟨hb0, hk0⟩)
        clear hb0 hk0
        go_wp2_with fail
        go_meet
        exact ⟨by rw [HF.out], rfl⟩
      · have hk1 : ((k1 : Int) == 0) = false := by rw [beq_eq_false_iff_ne]; omega
        have HF := Lib.hid' (show decide (s1.bad = 0 ∧ k1 = 0) = false from decide_eq_false (fun h => hk0 h.2))
        clear hb0 hk0
        go_wp2_with fail
        go_meet
        exact ⟨by rw [HF.out], rfl⟩
    · have hb1 : ((s1.bad : Int) == 0) = false := by rw [beq_eq_false_iff_ne]; omega
      have HF := Lib.hid' (show decide (s1.bad = 0 ∧ k1 = 0) = false from decide_eq_false (fun h => hb0 h.1))
      clear hb0
      go_wp2_with fail
      go_meet
      exact ⟨by rw [HF.out], rfl⟩
  case rest =>
  obtain ⟨rfl, hwc⟩ := hcut
  rw [hwc]
  clear hwc
  obtain ⟨bq, hbq⟩ : ∃ bq, bq = decide (s1.bad = 0 ∧ k1 = 0) := ⟨_, rfl⟩
  have HBQ := Lib.hid' hbq
  rw [← hbq]
  clear hbq
  clear Rc0 Rc1 Rf0 Rf1 Rl Ac0 Ac1 Ac2 Ac3 Af0 Af1 Af2 Af3 Al RnA AnR
  go_upto_if 37 with fail
  go_cut [] (fun wc => Sep w2 NoF [.box w2.heap.size [.slice a4 s2.rest.length c4, .int .i64 (s2.bad : Nat)] 95, .box (w2.heap.size + 1) [.int .i64 (k1 : Int), .int .i64 0, .int .i64 0, .string ⟨#[]⟩] 45] wc)
  case first =>
    have Rc0 := H3.cell 0 rfl 0 rfl
    have Rc1 := H3.cell 0 rfl 1 rfl
    have Rf0 := H3.free 0 rfl 0
    have Rf1 := H3.free 0 rfl 1
    have Rl := H3.lt 0 rfl
    have Ac0 := H3.cell 1 rfl 0 rfl
    have Ac1 := H3.cell 1 rfl 1 rfl
    have Ac2 := H3.cell 1 rfl 2 rfl
    have Ac3 := H3.cell 1 rfl 3 rfl
    have Af0 := H3.free 1 rfl 0
    have Af1 := H3.free 1 rfl 1
    have Af2 := H3.free 1 rfl 2
    have Af3 := H3.free 1 rfl 3
    have Al := H3.lt 1 rfl
    have RnA := H3.ne 0 1 rfl rfl (by decide)
    have AnR := H3.ne 1 0 rfl rfl (by decide)
    cases bq with
    | true =>
      have HQ := of_decide_eq_true HBQ.out.symm
      have HE2 := Lib.hid' (show s2.rest = s1.rest ∧ s2.bad = 1 from by rw [HS2.out, if_pos (by omega)]; exact ⟨fail_rest _ _, by unfold RD.fail; rw [if_pos HQ.1]⟩)
      clear HQ
      go_wp2_with fail
      have H4 : Sep w2 NoF [.box (w2.heap.size) [.slice a4 s1.rest.length c4, .int .i64 1] 95, .box (w2.heap.size + 1) [.int .i64 (k1 : Int), .int .i64 0, .int .i64 0, .string ⟨#[]⟩] 45] ((w6.setCell ⟨w2.heap.size, 1, none⟩ (.int .i64 1))) := (((H3.set 0 rfl 1 (.int .i64 1)).focus 1 rfl).focus 1 rfl)
      clear Rc0 Rc1 Rf0 Rf1 Rl Ac0 Ac1 Ac2 Ac3 Af0 Af1 Af2 Af3 Al RnA AnR
      clear H3
      go_meet
      rw [HE2.out.1, HE2.out.2]
      exact H4
    | false =>
      have HE2 := Lib.hid' (show s2 = s1 from by
        rw [HS2.out]
        split
        · rename_i h
          have h1 : s1.bad ≠ 0 := fun hb => by have := of_decide_eq_false HBQ.out.symm; exact this ⟨hb, by omega⟩
          unfold RD.fail; rw [if_neg h1]
        · rfl)
      go_wp2_with fail
      have H4 : Sep w2 NoF [.box (w2.heap.size) [.slice a4 s1.rest.length c4, .int .i64 (s1.bad : Nat)] 95, .box (w2.heap.size + 1) [.int .i64 (k1 : Int), .int .i64 0, .int .i64 0, .string ⟨#[]⟩] 45] (w6) := ((H3.focus 1 rfl).focus 1 rfl)
      clear Rc0 Rc1 Rf0 Rf1 Rl Ac0 Ac1 Ac2 Ac3 Af0 Af1 Af2 Af3 Al RnA AnR
      clear H3
      go_meet
      rw [HE2.out]
      exact H4
  case rest =>
  clear H3 HBQ HY_s1
  have H4 : Sep w2 NoF [.box (w2.heap.size) [.slice a4 s2.rest.length c4, .int .i64 (s2.bad : Nat)] 95, .box (w2.heap.size + 1) [.int .i64 (k1 : Int), .int .i64 0, .int .i64 0, .string ⟨#[]⟩] 45] (wc) := hcut
  clear hcut
  skip
  obtain ⟨w5, hw5⟩ : ∃ w5, w5 = wc := ⟨_, rfl⟩
  rw [← hw5] at H4 ⊢
  clear hw5
  skip
  have Rc0 := H4.cell 0 rfl 0 rfl
  have Rc1 := H4.cell 0 rfl 1 rfl
  have Rf0 := H4.free 0 rfl 0
  have Rf1 := H4.free 0 rfl 1
  have Rl := H4.lt 0 rfl
  have Ac0 := H4.cell 1 rfl 0 rfl
  have Ac1 := H4.cell 1 rfl 1 rfl
  have Ac2 := H4.cell 1 rfl 2 rfl
  have Ac3 := H4.cell 1 rfl 3 rfl
  have Af0 := H4.free 1 rfl 0
  have Af1 := H4.free 1 rfl 1
  have Af2 := H4.free 1 rfl 2
  have Af3 := H4.free 1 rfl 3
  have Al := H4.lt 1 rfl
  have RnA := H4.ne 0 1 rfl rfl (by decide)
  have AnR := H4.ne 1 0 rfl rfl (by decide)
  go_wp2_with fail
  clear Rc0 Rc1 Rf0 Rf1 Rl Ac0 Ac1 Ac2 Ac3 Af0 Af1 Af2 Af3 Al RnA AnR
  have hwi := rwithin01_any s2 a4 c4 1099511627776 (by decide) w2 w5 HY_s2.out H4.toBelow
  unfold RInt01R at hwi
  obtain ⟨e1, hv⟩ : ∃ v, v = (RD.within s2 1099511627776).1 := ⟨_, rfl⟩
  obtain ⟨s3, hs⟩ : ∃ s, s = (RD.within s2 1099511627776).2 := ⟨_, rfl⟩
  have HK3 := Lib.hid' (show RD.within s2 1099511627776 = (e1, s3) by rw [hv, hs])
  rw [← hv, ← hs] at hwi
  clear hv hs
  refine hwi.mono ?_
  clear hwi
  rintro en w7 ⟨a5, c5, rfl, hy, hb⟩
  have HY_s3 := Lib.hid' hy
  clear hy
  have H5 : Sep w2 NoF [.box (w2.heap.size) [.slice a4 s2.rest.length c4, .int .i64 (s2.bad : Nat)] 95, .box (w2.heap.size + 1) [.int .i64 (k1 : Int), .int .i64 0, .int .i64 0, .string ⟨#[]⟩] 45] (w7) := (H4.below hb)
  clear H4 hb
  unfold rdV
  have Rc0 := H5.cell 0 rfl 0 rfl
  have Rc1 := H5.cell 0 rfl 1 rfl
  have Rf0 := H5.free 0 rfl 0
  have Rf1 := H5.free 0 rfl 1
  have Rl := H5.lt 0 rfl
  have Ac0 := H5.cell 1 rfl 0 rfl
  have Ac1 := H5.cell 1 rfl 1 rfl
  have Ac2 := H5.cell 1 rfl 2 rfl
  have Ac3 := H5.cell 1 rfl 3 rfl
  have Af0 := H5.free 1 rfl 0
  have Af1 := H5.free 1 rfl 1
  have Af2 := H5.free 1 rfl 2
  have Af3 := H5.free 1 rfl 3
  have Al := H5.lt 1 rfl
  have RnA := H5.ne 0 1 rfl rfl (by decide)
  have AnR := H5.ne 1 0 rfl rfl (by decide)
  go_upto_region 10 with fail
  have H6 : Sep w2 NoF [.box (w2.heap.size) [.slice a5 s3.rest.length c5, .int .i64 (s3.bad : Nat)] 95, .box (w2.heap.size + 1) [.int .i64 (k1 : Int), .int .i64 (e1 : Int), .int .i64 0, .string ⟨#[]⟩] 45] ((((w7.setCell ⟨w2.heap.size + 1, 1, none⟩ (.int .i64 (e1 : Int))).setCell ⟨w2.heap.size, 0, none⟩ (.slice a5 s3.rest.length c5)).setCell ⟨w2.heap.size, 1, none⟩ (.int .i64 (s3.bad : Nat)))) := (((((H5.set 1 rfl 1 (.int .i64 (e1 : Int))).set 1 rfl 0 (.slice a5 s3.rest.length c5)).set 0 rfl 1 (.int .i64 (s3.bad : Nat))).focus 1 rfl).focus 1 rfl)
  clear Rc0 Rc1 Rf0 Rf1 Rl Ac0 Ac1 Ac2 Ac3 Af0 Af1 Af2 Af3 Al RnA AnR
  clear H5
  generalize (((w7.setCell ⟨w2.heap.size + 1, 1, none⟩ (.int .i64 (e1 : Int))).setCell ⟨w2.heap.size, 0, none⟩ (.slice a5 s3.rest.length c5)).setCell ⟨w2.heap.size, 1, none⟩ (.int .i64 (s3.bad : Nat))) = w8 at *
  have Rc0 := H6.cell 0 rfl 0 rfl
  have Rc1 := H6.cell 0 rfl 1 rfl
  have Rf0 := H6.free 0 rfl 0
  have Rf1 := H6.free 0 rfl 1
  have Rl := H6.lt 0 rfl
  have Ac0 := H6.cell 1 rfl 0 rfl
  have Ac1 := H6.cell 1 rfl 1 rfl
  have Ac2 := H6.cell 1 rfl 2 rfl
  have Ac3 := H6.cell 1 rfl 3 rfl
  have Af0 := H6.free 1 rfl 0
  have Af1 := H6.free 1 rfl 1
  have Af2 := H6.free 1 rfl 2
  have Af3 := H6.free 1 rfl 3
  have Al := H6.lt 1 rfl
  have RnA := H6.ne 0 1 rfl rfl (by decide)
  have AnR := H6.ne 1 0 rfl rfl (by decide)
  have HBAD0 := Lib.hid' (show k1 = 0 → s3.bad ≠ 0 from fun hk => by
    have h2 : s2.bad ≠ 0 := by rw [HS2.out, if_pos (by omega)]; exact RD.fail_bad _ (by decide)
    have h1 := HK3.out; rw [within_badr h2] at h1; cases h1; exact h2)
  go_upto_if 47 with fail
  go_cut [] (fun wc => ∃ (d1 : Nat) (s4 : RD) (a6 : Option Addr) (c6 : Nat), Hid ((if k1 ≠ 1 then s3.within 1048576 else (0, s3)) = (d1, s4)) ∧ Hid (Bytes w2 (.slice a6 s4.rest.length c6) s4.rest) ∧ Sep w2 NoF [.box w2.heap.size [.slice a6 s4.rest.length c6, .int .i64 (s4.bad : Nat)] 95, .box (w2.heap.size + 1) [.int .i64 (k1 : Int), .int .i64 (e1 : Int), .int .i64 (d1 : Int), .string ⟨#[]⟩] 45] wc)
  case first =>
    by_cases hk2 : 1 < k1
    · skip
      have hk3 : (1 : Int) < (k1 : Int) := by omega
      go_wp2_with fail
      clear Rc0 Rc1 Rf0 Rf1 Rl Ac0 Ac1 Ac2 Ac3 Af0 Af1 Af2 Af3 Al RnA AnR
      have hwi := rwithin01_any s3 a5 c5 1048576 (by decide) w2 w8 HY_s3.out H6.toBelow
      unfold RInt01R at hwi
      obtain ⟨d1, hv⟩ : ∃ v, v = (RD.within s3 1048576).1 := ⟨_, rfl⟩
      obtain ⟨s4, hs⟩ : ∃ s, s = (RD.within s3 1048576).2 := ⟨_, rfl⟩
      have HK4 := Lib.hid' (show RD.within s3 1048576 = (d1, s4) by rw [hv, hs])
      rw [← hv, ← hs] at hwi
      clear hv hs
      refine hwi.mono ?_
      clear hwi
      rintro en w9 ⟨a6, c6, rfl, hy, hb⟩
      have HY_s4 := Lib.hid' hy
      clear hy
      have H7 : Sep w2 NoF [.box (w2.heap.size) [.slice a5 s3.rest.length c5, .int .i64 (s3.bad : Nat)] 95, .box (w2.heap.size + 1) [.int .i64 (k1 : Int), .int .i64 (e1 : Int), .int .i64 0, .string ⟨#[]⟩] 45] (w9) := (H6.below hb)
      clear H6 hb
      unfold rdV
      have Rc0 := H7.cell 0 rfl 0 rfl
      have Rc1 := H7.cell 0 rfl 1 rfl
      have Rf0 := H7.free 0 rfl 0
      have Rf1 := H7.free 0 rfl 1
      have Rl := H7.lt 0 rfl
      have Ac0 := H7.cell 1 rfl 0 rfl
      have Ac1 := H7.cell 1 rfl 1 rfl
      have Ac2 := H7.cell 1 rfl 2 rfl
      have Ac3 := H7.cell 1 rfl 3 rfl
      have Af0 := H7.free 1 rfl 0
      have Af1 := H7.free 1 rfl 1
      have Af2 := H7.free 1 rfl 2
      have Af3 := H7.free 1 rfl 3
      have Al := H7.lt 1 rfl
      have RnA := H7.ne 0 1 rfl rfl (by decide)
      have AnR := H7.ne 1 0 rfl rfl (by decide)
      go_wp2_with fail
      have H8 : Sep w2 NoF [.box (w2.heap.size) [.slice a6 s4.rest.length c6, .int .i64 (s4.bad : Nat)] 95, .box (w2.heap.size + 1) [.int .i64 (k1 : Int), .int .i64 (e1 : Int), .int .i64 (d1 : Int), .string ⟨#[]⟩] 45] ((((w9.setCell ⟨w2.heap.size + 1, 2, none⟩ (.int .i64 (d1 : Int))).setCell ⟨w2.heap.size, 0, none⟩ (.slice a6 s4.rest.length c6)).setCell ⟨w2.heap.size, 1, none⟩ (.int .i64 (s4.bad : Nat)))) := (((((H7.set 1 rfl 2 (.int .i64 (d1 : Int))).set 1 rfl 0 (.slice a6 s4.rest.length c6)).set 0 rfl 1 (.int .i64 (s4.bad : Nat))).focus 1 rfl).focus 1 rfl)
      clear Rc0 Rc1 Rf0 Rf1 Rl Ac0 Ac1 Ac2 Ac3 Af0 Af1 Af2 Af3 Al RnA AnR
      clear H7
      go_meet
      exact ⟨d1, s4, a6, c6, Lib.hid' (by rw [if_pos (by omega)]; exact HK4.out), HY_s4, H8⟩
    have hk3 : ¬ (1 : Int) < (k1 : Int) := by omega
    have HX4 := Lib.hid' (show (if k1 ≠ 1 then s3.within 1048576 else (0, s3)) = (0, s3) by
      by_cases h1 : k1 = 1
      · rw [if_neg (by simpa using h1)]
      · rw [if_pos h1]; exact within_badr (HBAD0.out (by omega)) _)
    clear hk2
    go_wp2_with fail
    go_meet
    exact ⟨0, s3, a5, c5, HX4, HY_s3, H6⟩
  case rest =>
  clear HBAD0
  clear Rc0 Rc1 Rf0 Rf1 Rl Ac0 Ac1 Ac2 Ac3 Af0 Af1 Af2 Af3 Al RnA AnR
  obtain ⟨d1, s4, a6, c6, HK4, HY_s4, H0⟩ := hcut
  clear H6 HY_s3 HY_s2
  obtain ⟨w9, hw9⟩ : ∃ w9, w9 = wc := ⟨_, rfl⟩
  rw [← hw9] at H0 ⊢
  clear hw9
  have Rc0 := H0.cell 0 rfl 0 rfl
  have Rc1 := H0.cell 0 rfl 1 rfl
  have Rf0 := H0.free 0 rfl 0
  have Rf1 := H0.free 0 rfl 1
  have Rl := H0.lt 0 rfl
  have Ac0 := H0.cell 1 rfl 0 rfl
  have Ac1 := H0.cell 1 rfl 1 rfl
  have Ac2 := H0.cell 1 rfl 2 rfl
  have Ac3 := H0.cell 1 rfl 3 rfl
  have Af0 := H0.free 1 rfl 0
  have Af1 := H0.free 1 rfl 1
  have Af2 := H0.free 1 rfl 2
  have Af3 := H0.free 1 rfl 3
  have Al := H0.lt 1 rfl
  have RnA := H0.ne 0 1 rfl rfl (by decide)
  have AnR := H0.ne 1 0 rfl rfl (by decide)
  go_upto_if 56 with fail
  go_cut [] (fun wc => ∃ (d : List UInt8) (s5 : RD) (a7 : Option Addr) (c7 : Nat), Hid ((if k1 = 2 then s4.text 64 else ([], s4)) = (d, s5)) ∧ d.length ≤ 64 ∧ Hid (Bytes w2 (.slice a7 s5.rest.length c7) s5.rest) ∧ Sep w2 NoF [.box w2.heap.size [.slice a7 s5.rest.length c7, .int .i64 (s5.bad : Nat)] 95, .box (w2.heap.size + 1) [.int .i64 (k1 : Int), .int .i64 (e1 : Int), .int .i64 (d1 : Int), .string (strOf d)] 45] wc)
  case first =>
    by_cases hk2 : k1 = 2
    · skip
      have hk3 : ((k1 : Int) == 2) = true := by rw [beq_iff_eq]; omega
      have HK2 := Lib.hid' hk2
      clear hk2
      go_wp2_with fail
      clear Rc0 Rc1 Rf0 Rf1 Rl Ac0 Ac1 Ac2 Ac3 Af0 Af1 Af2 Af3 Al RnA AnR
      have htx := rtext01_any s4 a6 c6 64 (by decide) w2 w9 HY_s4.out H0.toBelow
      unfold RByt01R at htx
      have htle := text_le s4 64
      obtain ⟨x, hx⟩ : ∃ x, x = s4.text 64 := ⟨_, rfl⟩
      rw [← hx] at htx htle
      have HK5 := Lib.hid' hx.symm
      clear hx
      obtain ⟨d, s5⟩ := x
      simp only at htx htle
      refine htx.mono ?_
      clear htx
      rintro en w11 ⟨ta, tc, a7, c7, rfl, ht, hy, hb⟩
      have HT := Lib.hid' ht
      have HY_s5 := Lib.hid' hy
      clear ht hy
      unfold rdV
      have H7 : Sep w2 NoF [.box (w2.heap.size) [.slice a6 s4.rest.length c6, .int .i64 (s4.bad : Nat)] 95, .box (w2.heap.size + 1) [.int .i64 (k1 : Int), .int .i64 (e1 : Int), .int .i64 (d1 : Int), .string ⟨#[]⟩] 45] (w11) := (H0.below hb)
      clear H0 hb
      have Rc0 := H7.cell 0 rfl 0 rfl
      have Rc1 := H7.cell 0 rfl 1 rfl
      have Rf0 := H7.free 0 rfl 0
      have Rf1 := H7.free 0 rfl 1
      have Rl := H7.lt 0 rfl
      have Ac0 := H7.cell 1 rfl 0 rfl
      have Ac1 := H7.cell 1 rfl 1 rfl
      have Ac2 := H7.cell 1 rfl 2 rfl
      have Ac3 := H7.cell 1 rfl 3 rfl
      have Af0 := H7.free 1 rfl 0
      have Af1 := H7.free 1 rfl 1
      have Af2 := H7.free 1 rfl 2
      have Af3 := H7.free 1 rfl 3
      have Al := H7.lt 1 rfl
      have RnA := H7.ne 0 1 rfl rfl (by decide)
      have AnR := H7.ne 1 0 rfl rfl (by decide)
      go_upto_region 15 with fail
      have H8 : Sep w2 NoF [.box (w2.heap.size) [.slice a7 s5.rest.length c7, .int .i64 (s5.bad : Nat)] 95, .box (w2.heap.size + 1) [.int .i64 (k1 : Int), .int .i64 (e1 : Int), .int .i64 (d1 : Int), .string ⟨#[]⟩] 45] ((((w11.setCell ⟨w2.heap.size, 0, none⟩ (.slice a7 s5.rest.length c7)).setCell ⟨w2.heap.size, 1, none⟩ (.int .i64 (s5.bad : Nat))).alloc (.cells #[.slice a7 s5.rest.length c7, .int .i64 (s5.bad : Nat)] 95))) := (((H7.set 0 rfl 0 (.slice a7 s5.rest.length c7)).set 0 rfl 1 (.int .i64 (s5.bad : Nat))).allocX (.cells #[.slice a7 s5.rest.length c7, .int .i64 (s5.bad : Nat)] 95))
      clear Rc0 Rc1 Rf0 Rf1 Rl Ac0 Ac1 Ac2 Ac3 Af0 Af1 Af2 Af3 Al RnA AnR
      clear H7
      generalize (((w11.setCell ⟨w2.heap.size, 0, none⟩ (.slice a7 s5.rest.length c7)).setCell ⟨w2.heap.size, 1, none⟩ (.int .i64 (s5.bad : Nat))).alloc (.cells #[.slice a7 s5.rest.length c7, .int .i64 (s5.bad : Nat)] 95)) = w12 at *
      have Rc0 := H8.cell 0 rfl 0 rfl
      have Rc1 := H8.cell 0 rfl 1 rfl
      have Rf0 := H8.free 0 rfl 0
      have Rf1 := H8.free 0 rfl 1
      have Rl := H8.lt 0 rfl
      have Ac0 := H8.cell 1 rfl 0 rfl
      have Ac1 := H8.cell 1 rfl 1 rfl
      have Ac2 := H8.cell 1 rfl 2 rfl
      have Ac3 := H8.cell 1 rfl 3 rfl
      have Af0 := H8.free 1 rfl 0
      have Af1 := H8.free 1 rfl 1
      have Af2 := H8.free 1 rfl 2
      have Af3 := H8.free 1 rfl 3
      have Al := H8.lt 1 rfl
      have RnA := H8.ne 0 1 rfl rfl (by decide)
      have AnR := H8.ne 1 0 rfl rfl (by decide)
      have hcs := run_string_of (P := Tryz.prog) 22 5 9 Tryz.underlying22 Tryz.underlying5 Tryz.underlying9 (show Bytes w12 (.slice ta d.length tc) d from SlV.below HT.out (Nat.le_refl _) H8.toBelow)
      go_wp2_with fail
      clear hcs
      have H9 : Sep w2 NoF [.box (w2.heap.size) [.slice a7 s5.rest.length c7, .int .i64 (s5.bad : Nat)] 95, .box (w2.heap.size + 1) [.int .i64 (k1 : Int), .int .i64 (e1 : Int), .int .i64 (d1 : Int), .string (strOf d)] 45] ((w12.setCell ⟨w2.heap.size + 1, 3, none⟩ (.string (strOf d)))) := (((H8.set 1 rfl 3 (.string (strOf d))).focus 0 rfl).focus 1 rfl)
      clear Rc0 Rc1 Rf0 Rf1 Rl Ac0 Ac1 Ac2 Ac3 Af0 Af1 Af2 Af3 Al RnA AnR
      clear H8
      go_meet
      exact ⟨d, s5, a7, c7, Lib.hid' (by rw [if_pos HK2.out]; exact HK5.out), htle, HY_s5, H9⟩
    have hk3 : ((k1 : Int) == 2) = false := by rw [beq_eq_false_iff_ne]; omega
    have HX5 := Lib.hid' (show (if k1 = 2 then s4.text 64 else ([], s4)) = ([], s4) from if_neg hk2)
    clear hk2
    go_wp2_with fail
    go_meet
    exact ⟨[], s4, a6, c6, HX5, by simp, HY_s4, H0⟩
  case rest =>
  clear Rc0 Rc1 Rf0 Rf1 Rl Ac0 Ac1 Ac2 Ac3 Af0 Af1 Af2 Af3 Al RnA AnR
  obtain ⟨d, s5, a7, c7, HK5, hdl0, HY_s5, H0q⟩ := hcut
  clear H0 HY_s4
  obtain ⟨w13, hw13⟩ : ∃ w13, w13 = wc := ⟨_, rfl⟩
  rw [← hw13] at H0q ⊢
  clear hw13
  have hdl : (⟨(k1 : Int), (e1 : Int), (d1 : Int), d⟩ : Ac).d.length ≤ 9223372036854775807 := by show d.length ≤ _; omega
  have HPE := Lib.hid' (show p = if s5.fin ≠ 0 then (s5.fin, Ac.zero) else if (⟨(k1 : Int), (e1 : Int), (d1 : Int), d⟩ : Ac).check ≠ 0 then ((⟨(k1 : Int), (e1 : Int), (d1 : Int), d⟩ : Ac).check, Ac.zero) else (0, (⟨(k1 : Int), (e1 : Int), (d1 : Int), d⟩ : Ac)) from by rw [HP.out]; exact ac_take HF0.out (read_all HK1.out HS2.out.symm HK3.out HK4.out HK5.out))
  obtain ⟨fn, hfn⟩ : ∃ n, n = s5.fin := ⟨_, rfl⟩
  have hsl := bytes_len HY_s5.out
  have hen := fun wq => rend01_any s5 a7 c7 hsl wq
  rw [← hfn] at hen HPE
  have HEN := Lib.hid' hen
  obtain ⟨ck, hck⟩ : ∃ n, n = (⟨(k1 : Int), (e1 : Int), (d1 : Int), d⟩ : Ac).check := ⟨_, rfl⟩
  have hcc := fun wq => refcheck_any (⟨(k1 : Int), (e1 : Int), (d1 : Int), d⟩ : Ac) hdl wq
  rw [← hck] at hcc HPE
  have HCK := Lib.hid' hcc
  clear hen hfn hck hcc hsl hdl
  have Rc0 := H0q.cell 0 rfl 0 rfl
  have Rc1 := H0q.cell 0 rfl 1 rfl
  have Rl := H0q.lt 0 rfl
  go_wp2_with fail
  refine (HEN.out _).mono ?_
  rintro en wa ⟨rfl, hba⟩
  have H7 : Sep w2 NoF [.box (w2.heap.size) [.slice a7 s5.rest.length c7, .int .i64 (s5.bad : Nat)] 95, .box (w2.heap.size + 1) [.int .i64 (k1 : Int), .int .i64 (e1 : Int), .int .i64 (d1 : Int), .string (strOf d)] 45] (wa) := (H0q.below hba)
  clear Rc0 Rc1 Rl
  clear H0q hba
  by_cases hf0 : fn = 0
  rotate_left
  · skip
    have HNw := Lib.hid' (HN2.out.below (Nat.le_refl _) H7.toBelow)
    have HBw := Lib.hid' (HB2.out.trans (H7.toBelow.mono HB2.out.size))
    have n0 := HNw.out.box.1 0 _ rfl
    have n1 := HNw.out.box.1 1 _ rfl
    have n2 := HNw.out.box.1 2 _ rfl
    have n3 := HNw.out.box.1 3 _ rfl
    have g0 := HNw.out.box.2.1 0
    have g1 := HNw.out.box.2.1 1
    have g2 := HNw.out.box.2.1 2
    have g3 := HNw.out.box.2.1 3
    have hnl := HNw.out.lt
    have HE := Lib.hid' (HERR.out wa fn HBw.out (HPE.out.trans (if_pos hf0)))
    have hb1 : ((fn : Int) != 0) = true := by rw [bne_iff_ne]; omega
    clear hf0
    go_wp2
    refine bodyPost_ret (v := .tuple #[.agg #[.int .i64 0, .int .i64 0, .int .i64 0, .string ⟨#[]⟩], .int .i64 (fn : Nat)]) (by simp [results, Tryz.results17, go_sem, n0, n1, n2, n3]) rfl HE.out
  have HPE2 := Lib.hid' (HPE.out.trans (if_neg (by simpa using hf0)))
  subst hf0
  have Ac0 := H7.cell 1 rfl 0 rfl
  have Ac1 := H7.cell 1 rfl 1 rfl
  have Ac2 := H7.cell 1 rfl 2 rfl
  have Ac3 := H7.cell 1 rfl 3 rfl
  have Al := H7.lt 1 rfl
  go_wp2_with fail
  refine (HCK.out _).mono ?_
  rintro en wb ⟨rfl, hbb⟩
  have H8 : Sep w2 NoF [.box (w2.heap.size) [.slice a7 s5.rest.length c7, .int .i64 (s5.bad : Nat)] 95, .box (w2.heap.size + 1) [.int .i64 (k1 : Int), .int .i64 (e1 : Int), .int .i64 (d1 : Int), .string (strOf d)] 45] (wb) := (H7.below hbb)
  clear Ac0 Ac1 Ac2 Ac3 Al
  clear H7 hbb
  by_cases hc0 : ck = 0
  rotate_left
  · skip
    have HNw := Lib.hid' (HN2.out.below (Nat.le_refl _) H8.toBelow)
    have HBw := Lib.hid' (HB2.out.trans (H8.toBelow.mono HB2.out.size))
    have n0 := HNw.out.box.1 0 _ rfl
    have n1 := HNw.out.box.1 1 _ rfl
    have n2 := HNw.out.box.1 2 _ rfl
    have n3 := HNw.out.box.1 3 _ rfl
    have g0 := HNw.out.box.2.1 0
    have g1 := HNw.out.box.2.1 1
    have g2 := HNw.out.box.2.1 2
    have g3 := HNw.out.box.2.1 3
    have hnl := HNw.out.lt
    have HE := Lib.hid' (HERR.out wb ck HBw.out (HPE2.out.trans (if_pos hc0)))
    have hb1 : ((ck : Int) != 0) = true := by rw [bne_iff_ne]; omega
    clear hc0
    go_wp2
    refine bodyPost_ret (v := .tuple #[.agg #[.int .i64 0, .int .i64 0, .int .i64 0, .string ⟨#[]⟩], .int .i64 (ck : Nat)]) (by simp [results, Tryz.results17, go_sem, n0, n1, n2, n3]) rfl HE.out
  have HPE3 := Lib.hid' (HPE2.out.trans (if_neg (by simpa using hc0)))
  subst hc0
  have Ac0 := H8.cell 1 rfl 0 rfl
  have Ac1 := H8.cell 1 rfl 1 rfl
  have Ac2 := H8.cell 1 rfl 2 rfl
  have Ac3 := H8.cell 1 rfl 3 rfl
  have Al := H8.lt 1 rfl
  have HNw := Lib.hid' (HN2.out.below (Nat.le_refl _) H8.toBelow)
  have HBw := Lib.hid' (HB2.out.trans (H8.toBelow.mono HB2.out.size))
  have n0 := HNw.out.box.1 0 _ rfl
  have n1 := HNw.out.box.1 1 _ rfl
  have n2 := HNw.out.box.1 2 _ rfl
  have n3 := HNw.out.box.1 3 _ rfl
  have g0 := HNw.out.box.2.1 0
  have g1 := HNw.out.box.2.1 1
  have g2 := HNw.out.box.2.1 2
  have g3 := HNw.out.box.2.1 3
  have hnl := HNw.out.lt
  have HRET := Lib.hid' (show RTake09R p w (.returned (.tuple #[.agg #[.int .i64 (k1 : Int), .int .i64 (e1 : Int), .int .i64 (d1 : Int), .string (strOf d)], .int .i64 0])) ((((wb.setCell ⟨w.heap.size, 0, none⟩ (.int .i64 (k1 : Int))).setCell ⟨w.heap.size, 1, none⟩ (.int .i64 (e1 : Int))).setCell ⟨w.heap.size, 2, none⟩ (.int .i64 (d1 : Int))).setCell ⟨w.heap.size, 3, none⟩ (.string (strOf d))) from by
    rw [HPE3.out]
    exact ⟨rfl, ((((HBw.out.setCell (by simp) _).setCell (by simp) _).setCell (by simp) _).setCell (by simp) _)⟩)
  go_wp2
  refine bodyPost_ret (v := .tuple #[.agg #[.int .i64 (k1 : Int), .int .i64 (e1 : Int), .int .i64 (d1 : Int), .string (strOf d)], .int .i64 0]) (by simp [results, Tryz.results17, go_sem, Ac0, Ac1, Ac2, Ac3, n0, n1, n2, n3]) rfl HRET.out
end Go.Proofs.YtkljeefncopodaaGreat
