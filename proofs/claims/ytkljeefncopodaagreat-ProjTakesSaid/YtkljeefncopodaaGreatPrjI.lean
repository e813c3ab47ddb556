/- Layer 11 (proj), the document's: the projection of bytes. NOT WHOLE. -/
import Derived.Test.YtkljeefncopodaaGreatRefL
import Derived.Test.YtkljeefncopodaaGreatRefP
import Derived.Test.YtkljeefncopodaaGreatPrjG
import Derived.Test.YtkljeefncopodaaGreatPrjS
import Derived.Test.YtkljeefncopodaaGreatSepJ
namespace Go.Proofs.YtkljeefncopodaaGreat
open Go.RowKit
set_option linter.unusedSimpArgs false
set_option linter.unusedVariables false
set_option maxRecDepth 100000

def RTake11R (p : Pj × Nat) (w : World) (en : Ending) (w' : World) : Prop :=
  ∃ e a c K, en = .returned (.tuple #[pjV e a c K, .int .i64 (p.2 : Nat)]) ∧ docJ e K = p.1 ∧ OwnJ w' w.heap.size a c K ∧ Below w.heap.size w w'
/-- frame.One out of frame.Take -/
theorem fone_take {b : List UInt8} {e : Nat} {t : List UInt8} {n : Nat} (h : ftake b = (e, t, n)) : fone b = if e ≠ 0 then (e, []) else if n < b.length then (2, []) else (0, t) := by
  unfold fone; rw [h]
theorem rtake11_1 {b : List UInt8} {fe : Nat} (h : fone b = (fe, [])) (hf : fe ≠ 0) : Pj.rTake b = (Pj.zero, fe) := by
  unfold Pj.rTake; rw [h]; exact if_pos hf
theorem rtake11_3 {b t : List UInt8} (h : fone b = (0, t)) (h1 : (RD.within ⟨t, 0⟩ 1099511627776).2.num.2.bad = 0) (h2 : 4 < (RD.within ⟨t, 0⟩ 1099511627776).2.num.1) : Pj.rTake b = (Pj.zero, 3) := by
  unfold Pj.rTake; rw [h]; simp only [ne_eq, not_true_eq_false, if_false]; exact if_pos ⟨h1, h2⟩
def m8e (n : Nat) : Int := ((min n 8 : Nat) : Int)
def m8k (l : List Nat) (i : Nat) : List Int := (l.take i).map m8e
theorem rchains_next {n k : Nat} {r : RD} {acc : List (List Int)} {C : List (List Int) × RD} (hk : k < n) (hb : r.bad = 0) (h : RD.rChains (n - k) r acc = C) : RD.rChains (n - (k + 1)) r.chain.2 (acc ++ [r.chain.1]) = C := by
  rw [show n - k = (n - (k + 1)) + 1 by omega] at h
  unfold RD.rChains at h
  rwa [if_pos hb] at h
theorem rchains_end {n k : Nat} {r : RD} {acc : List (List Int)} {C : List (List Int) × RD} (h : RD.rChains (n - k) r acc = C) (hg : ¬ (k < n ∧ r.bad = 0)) : C = (acc, r) := by
  subst h
  by_cases hb : r.bad = 0
  · rw [show n - k = 0 by have : ¬ k < n := fun h => hg ⟨h, hb⟩; omega]; rfl
  · exact RD.rChains_bad _ hb _
theorem rchain_le (r : RD) : (r.list 4).1.length ≤ 4 := by
  have := chain_le r
  unfold RD.chain at this
  simpa using this
set_option maxHeartbeats 8000000 in
theorem rtake11_any (b : List UInt8) (a : Option Addr) (c : Nat) (w : World) (h : Bytes w (.slice a b.length c) b) :
    Calls Tryz.prog 10 #[.slice a b.length c] w (RTake11R (Pj.rTake b) w) := by
  have HD := Lib.hid' h
  have hbl := bytes_len h
  clear h
  obtain ⟨p, hp⟩ : ∃ p, p = Pj.rTake b := ⟨_, rfl⟩
  have HP := Lib.hid' hp
  rw [← hp]
  clear hp
  go_enter Tryz.func10, Tryz.ntmps10
  go_wp2_with fail
  have HN1 := Lib.hid' (show BoxW w.heap.size [.int .i64 0, .slice none 0 0] 32 (w.alloc (.cells #[.int .i64 0, .slice none 0 0] 32)) from BoxW.start _ _ _)
  have HB1 := Lib.hid' (show Below w.heap.size w (w.alloc (.cells #[.int .i64 0, .slice none 0 0] 32)) by go_grown)
  generalize w.alloc (.cells #[.int .i64 0, .slice none 0 0] 32) = w1 at *
  have HERR : Hid (∀ wq (err : Nat), Below w.heap.size w wq → p = (Pj.zero, err) → RTake11R p w (.returned (.tuple #[pjV 0 none 0 [], .int .i64 (err : Nat)])) ((wq.setCell ⟨w.heap.size, 0, none⟩ (.int .i64 0)).setCell ⟨w.heap.size, 1, none⟩ (.slice none 0 0))) := Lib.hid' (by
    intro wq err hb hx
    subst hx
    exact ⟨0, none, 0, [], rfl, rfl, OwnJ.nil _ _, (hb.setCell (by simp) _).setCell (by simp) _⟩)
  obtain ⟨⟨fe, t, fn⟩, hft⟩ : ∃ q, q = ftake b := ⟨_, rfl⟩
  have HFO := Lib.hid' (fone_take hft.symm)
  have hfo := rtake04_any b a c w1 (SlV.below HD.out (Nat.le_refl _) HB1.out)
  rw [← hft] at hfo
  unfold RTake04R at hfo
  clear hft
  refine hfo.mono ?_
  clear hfo
  rintro en w2 ⟨a2, c2, rfl, hy2, hb2⟩
  have HY2 := Lib.hid' (show Bytes w2 (.slice a2 t.length c2) t from hy2)
  have HN2 := Lib.hid' (HN1.out.below (Nat.le_refl _) hb2)
  have HB2 := Lib.hid' (HB1.out.trans (hb2.mono HB1.out.size))
  clear hy2 hb2 HN1 HB1
  simp only
  have n0 := HN2.out.box.1 0 _ rfl
  have n1 := HN2.out.box.1 1 _ rfl
  have g0 := HN2.out.box.2.1 0
  have g1 := HN2.out.box.2.1 1
  by_cases hfe : fe = 0
  rotate_left
  · have HE := Lib.hid' (HERR.out w2 fe HB2.out (HP.out.trans (rtake11_1 (show fone b = (fe, []) by rw [HFO.out, if_pos hfe]) hfe)))
    have hb1 : ((fe : Int) == 0) = false := by rw [beq_eq_false_iff_ne]; omega
    have hb2 : ((fe : Int) != 0) = true := by rw [bne_iff_ne]; omega
    clear hfe
    go_wp2
    refine bodyPost_ret (v := .tuple #[pjV 0 none 0 [], .int .i64 (fe : Nat)]) (by simp [results, Tryz.results10, go_sem, pjV, n0, n1]) rfl HE.out
  subst hfe
  by_cases hfn : fn < b.length
  · have HE := Lib.hid' (HERR.out w2 2 HB2.out (HP.out.trans (rtake11_1 (show fone b = (2, []) by rw [HFO.out, if_neg (by simp), if_pos hfn]) (by decide))))
    go_wp2
    refine bodyPost_ret (v := .tuple #[pjV 0 none 0 [], .int .i64 2]) (by simp [results, Tryz.results10, go_sem, pjV, n0, n1]) rfl HE.out
  have HF0 := Lib.hid' (show fone b = (0, t) by rw [HFO.out, if_neg (by simp), if_neg hfn])
  clear n0 n1 g0 g1
  have hfb : ¬ (fn : Int) < (b.length : Int) := by omega
  have hNR : w.heap.size < w2.heap.size := HN2.out.lt
  clear hfn HFO
  go_wp2_with fail
  have H0 : Sep w2 NoF [] w2 := Sep.start _
  have H1 : Sep w2 NoF [.box (w2.heap.size + 1) [.int .i64 0, .slice none 0 0] 32, .box (w2.heap.size) [.slice a2 t.length c2, .int .i64 0] 95] (((w2.alloc (.cells #[.slice a2 t.length c2, .int .i64 0] 95)).alloc (.cells #[.int .i64 0, .slice none 0 0] 32))) := ((H0.allocAt (w2.heap.size) [.slice a2 t.length c2, .int .i64 0] 95 (by simp)).allocAt (w2.heap.size + 1) [.int .i64 0, .slice none 0 0] 32 (by simp))
  clear H0
  generalize ((w2.alloc (.cells #[.slice a2 t.length c2, .int .i64 0] 95)).alloc (.cells #[.int .i64 0, .slice none 0 0] 32)) = w3 at *
  have hwi := rwithin01_any ⟨t, 0⟩ a2 c2 1099511627776 (by decide) w2 w3 HY2.out H1.toBelow
  unfold RInt01R at hwi
  obtain ⟨e0, he0⟩ : ∃ e0, e0 = (RD.within ⟨t, 0⟩ 1099511627776).1 := ⟨_, rfl⟩
  obtain ⟨s1, hs1⟩ : ∃ s, s = (RD.within ⟨t, 0⟩ 1099511627776).2 := ⟨_, rfl⟩
  rw [← he0, ← hs1] at hwi
  have HE0 := Lib.hid' he0
  have HS1 := Lib.hid' hs1
  clear he0 hs1
  refine hwi.mono ?_
  clear hwi
  rintro en w4 ⟨a4, c4, rfl, hy4, hb4⟩
  have HY4 := Lib.hid' hy4
  clear hy4
  have H2 : Sep w2 NoF [.box (w2.heap.size + 1) [.int .i64 0, .slice none 0 0] 32, .box (w2.heap.size) [.slice a2 t.length c2, .int .i64 0] 95] (w4) := (H1.below hb4)
  clear H1 hb4
  unfold rdV
  have Rc0 := H2.cell 1 rfl 0 rfl
  have Rc1 := H2.cell 1 rfl 1 rfl
  have Rf0 := H2.free 1 rfl 0
  have Rf1 := H2.free 1 rfl 1
  have Rl := H2.lt 1 rfl
  have Pc0 := H2.cell 0 rfl 0 rfl
  have Pc1 := H2.cell 0 rfl 1 rfl
  have Pf0 := H2.free 0 rfl 0
  have Pf1 := H2.free 0 rfl 1
  have Pl := H2.lt 0 rfl
  have RnP := H2.ne 1 0 rfl rfl (by decide)
  have PnR := H2.ne 0 1 rfl rfl (by decide)
  go_wp2_with fail
  have H3 : Sep w2 NoF [.box (w2.heap.size) [.slice a4 s1.rest.length c4, .int .i64 (s1.bad : Nat)] 95, .box (w2.heap.size + 1) [.int .i64 (e0 : Int), .slice none 0 0] 32] ((((w4.setCell ⟨w2.heap.size + 1, 0, none⟩ (.int .i64 (e0 : Int))).setCell ⟨w2.heap.size, 0, none⟩ (.slice a4 s1.rest.length c4)).setCell ⟨w2.heap.size, 1, none⟩ (.int .i64 (s1.bad : Nat)))) := (((H2.set 0 rfl 0 (.int .i64 (e0 : Int))).set 1 rfl 0 (.slice a4 s1.rest.length c4)).set 0 rfl 1 (.int .i64 (s1.bad : Nat)))
  clear Rc0 Rc1 Rf0 Rf1 Rl Pc0 Pc1 Pf0 Pf1 Pl RnP PnR
  clear H2
  generalize (((w4.setCell ⟨w2.heap.size + 1, 0, none⟩ (.int .i64 (e0 : Int))).setCell ⟨w2.heap.size, 0, none⟩ (.slice a4 s1.rest.length c4)).setCell ⟨w2.heap.size, 1, none⟩ (.int .i64 (s1.bad : Nat))) = w6 at *
  have hnu := rnum01_any s1 a4 c4 w2 w6 HY4.out H3.toBelow
  unfold RNum01R at hnu
  obtain ⟨mn, hmn⟩ : ∃ m, m = s1.num.1 := ⟨_, rfl⟩
  obtain ⟨s2, hs2⟩ : ∃ s, s = s1.num.2 := ⟨_, rfl⟩
  have hmlt : mn < 18446744073709551616 := by rw [hmn]; exact RD.num_lt s1
  rw [← hmn, ← hs2] at hnu
  have HMN := Lib.hid' hmn
  have HS2 := Lib.hid' hs2
  clear hmn hs2
  refine hnu.mono ?_
  clear hnu
  rintro en w7 ⟨a7, c7, rfl, hy7, hb7⟩
  have HY7 := Lib.hid' hy7
  clear hy7 HY4
  have H4 : Sep w2 NoF [.box (w2.heap.size) [.slice a4 s1.rest.length c4, .int .i64 (s1.bad : Nat)] 95, .box (w2.heap.size + 1) [.int .i64 (e0 : Int), .slice none 0 0] 32] (w7) := (H3.below hb7)
  clear H3 hb7
  unfold rdV
  have Rc0 := H4.cell 0 rfl 0 rfl
  have Rc1 := H4.cell 0 rfl 1 rfl
  have Rf0 := H4.free 0 rfl 0
  have Rf1 := H4.free 0 rfl 1
  have Rl := H4.lt 0 rfl
  go_upto_region 10 with fail
  have H5 : Sep w2 NoF [.box (w2.heap.size) [.slice a7 s2.rest.length c7, .int .i64 (s2.bad : Nat)] 95, .box (w2.heap.size + 1) [.int .i64 (e0 : Int), .slice none 0 0] 32] (((w7.setCell ⟨w2.heap.size, 0, none⟩ (.slice a7 s2.rest.length c7)).setCell ⟨w2.heap.size, 1, none⟩ (.int .i64 (s2.bad : Nat)))) := ((H4.set 0 rfl 0 (.slice a7 s2.rest.length c7)).set 0 rfl 1 (.int .i64 (s2.bad : Nat)))
  clear Rc0 Rc1 Rf0 Rf1 Rl
  clear H4
  generalize ((w7.setCell ⟨w2.heap.size, 0, none⟩ (.slice a7 s2.rest.length c7)).setCell ⟨w2.heap.size, 1, none⟩ (.int .i64 (s2.bad : Nat))) = w8 at *
  have Rc0 := H5.cell 0 rfl 0 rfl
  have Rc1 := H5.cell 0 rfl 1 rfl
  have Rf0 := H5.free 0 rfl 0
  have Rf1 := H5.free 0 rfl 1
  have Rl := H5.lt 0 rfl
  by_cases h34 : s2.bad = 0 ∧ 4 < mn
  · skip
    have HNw := Lib.hid' (HN2.out.below (Nat.le_refl _) H5.toBelow)
    have HBw := Lib.hid' (HB2.out.trans (H5.toBelow.mono HB2.out.size))
    have n0 := HNw.out.box.1 0 _ rfl
    have n1 := HNw.out.box.1 1 _ rfl
    have g0 := HNw.out.box.2.1 0
    have g1 := HNw.out.box.2.1 1
    have hnl := HNw.out.lt
    obtain ⟨h3, h4⟩ := h34
    have hb1 : ((s2.bad : Int) == 0) = true := by rw [beq_iff_eq]; omega
    have HE := Lib.hid' (HERR.out w8 3 HBw.out (HP.out.trans (rtake11_3 HF0.out (by rw [← HS1.out, ← HS2.out]; exact h3) (by rw [← HS1.out, ← HMN.out]; exact h4))))
    clear h3
    go_wp2
    refine bodyPost_ret (v := .tuple #[pjV 0 none 0 [], .int .i64 3]) (by simp [results, Tryz.results10, go_sem, pjV, n0, n1]) rfl HE.out
  obtain ⟨C, hC⟩ : ∃ C, C = RD.rChains mn s2 [] := ⟨_, rfl⟩
  have HPC := Lib.hid' (show p = if C.2.fin ≠ 0 then (Pj.zero, C.2.fin) else if (⟨(e0 : Int), C.1⟩ : Pj).check ≠ 0 then (Pj.zero, (⟨(e0 : Int), C.1⟩ : Pj).check) else (⟨(e0 : Int), C.1⟩, 0) from by
    rw [HP.out]
    unfold Pj.rTake
    rw [HF0.out]
    simp only [ne_eq, not_true_eq_false, if_false]
    rw [← HS1.out, ← HMN.out, ← HS2.out, ← HE0.out, ← hC, if_neg h34])
  have HC := Lib.hid' (show RD.rChains (mn - 0) s2 [] = C from hC.symm)
  have HM4 := Lib.hid' (show s2.bad = 0 → mn ≤ 4 from fun h => by have h5 : ¬ 4 < mn := fun h6 => h34 ⟨h, h6⟩; omega)
  clear hC h34
  clear Rc0 Rc1 Rf0 Rf1 Rl
  by_cases hb0 : s2.bad = 0
  · skip
    have hbb : ((s2.bad : Int) == 0) = true := by rw [beq_iff_eq]; omega
    have h4m : ¬ 4 < mn := by have := HM4.out hb0; omega
    clear hb0
    have Rc0 := H5.cell 0 rfl 0 rfl
    have Rc1 := H5.cell 0 rfl 1 rfl
    have Rf0 := H5.free 0 rfl 0
    have Rf1 := H5.free 0 rfl 1
    have Rl := H5.lt 0 rfl
    go_wp2_with fail
    clear Rc0 Rc1 Rf0 Rf1 Rl
    have H6 : Sep w2 NoF [Asn.all (([] : List Ch).map chA), .row 81 1 (.slice none 0 0) (0) ([]), .box (w2.heap.size) [.slice a7 s2.rest.length c7, .int .i64 (s2.bad : Nat)] 95, .box (w2.heap.size + 1) [.int .i64 (e0 : Int), .slice none 0 0] 32] (w8) := ((H5.nilRow 81 1).addEmp (A := Asn.all (([] : List Ch).map chA)) trivial (fun _ h => h))
    clear H5
    go_loopw [10] (fun v10 wr => ∃ (k : Nat) (s : RD) (a' : Option Addr) (c' : Nat) (Ks : List Ch) (ja : Option Addr) (jc : Nat), v10 = .int .u64 k ∧ k ≤ mn ∧ k ≤ 4 ∧ Hid (s.bad = 0 → mn ≤ 4) ∧ Hid (Ks.length = k) ∧ Hid (RD.rChains (mn - k) s (Ks.map (·.1)) = C) ∧ Hid (∀ x ∈ Ks, x.1.length ≤ 4) ∧ Hid (Bytes w2 (.slice a' s.rest.length c') s.rest) ∧ Sep w2 NoF [Asn.all (Ks.map chA), .row 81 1 (.slice ja Ks.length jc) Ks.length (Ks.map chV), .box w2.heap.size [.slice a' s.rest.length c', .int .i64 (s.bad : Nat)] 95, .box (w2.heap.size + 1) [.int .i64 (e0 : Int), .slice ja Ks.length jc] 32] wr) (fun v10 _ => mn - (intOf v10).toNat)
    case atStart => exact ⟨0, s2, a7, c7, [], none, 0, rfl, Nat.zero_le _, Nat.zero_le _, HM4, Lib.hid' rfl, HC, Lib.hid' (by simp), HY7, H6⟩
    case round =>
      clear HC HM4 HY7 H6
      obtain ⟨k, s, a', c', Ks, ja, jc, rfl, hk, hk4, HM4, HL, HC, HK4, HY, H0⟩ := hrel

      by_cases hgo : k < mn ∧ s.bad = 0
      · skip
        skip
        obtain ⟨hlt, hs0⟩ := hgo
        have hk3 : k + 1 ≤ 4 := by have := HM4.out hs0; omega
        have HM9 := Lib.hid' (show mn ≤ 4 from HM4.out hs0)
        have HNX := Lib.hid' (rchains_next hlt hs0 HC.out)
        have hcl := rchain_le s
        have hb1 : ((s.bad : Int) == 0) = true := by rw [beq_iff_eq]; omega
        have hli := fun wq hq => rlist01_any s a' c' 4 (by decide) w2 wq HY.out hq
        unfold RList01R at hli
        obtain ⟨l, hl⟩ : ∃ l, l = (s.list 4).1 := ⟨_, rfl⟩
        obtain ⟨s3, hs3⟩ : ∃ s3, s3 = (s.list 4).2 := ⟨_, rfl⟩
        have HCH := Lib.hid' (show s.chain = (l.map m8e, s3) by rw [hl, hs3]; rfl)
        rw [← hl, ← hs3] at hli
        rw [← hl] at hcl
        have HLB := Lib.hid' (show ∀ x ∈ l, x < 18446744073709551616 from by rw [hl]; exact nums_lt (by simp))
        have HLI := Lib.hid' hli
        have hkl : Ks.length ≤ 4 := by have := HL.out; omega
        clear hli hl hs3 hs0 HM4
        have Rc0 := H0.cell 2 rfl 0 rfl
        have Rc1 := H0.cell 2 rfl 1 rfl
        have Rf0 := H0.free 2 rfl 0
        have Rf1 := H0.free 2 rfl 1
        have Rl := H0.lt 2 rfl
        have Pc0 := H0.cell 3 rfl 0 rfl
        have Pc1 := H0.cell 3 rfl 1 rfl
        have Pl := H0.lt 3 rfl
        have RnP := H0.ne 2 3 rfl rfl (by decide)
        have PnR := H0.ne 3 2 rfl rfl (by decide)
        go_wp2_with fail
        refine (HLI.out _ H0.toBelow).mono ?_
        clear HLI
        rintro en w9 ⟨la, lc, a9, c9, rfl, hol, hy9, hb9⟩
        have HY9 := Lib.hid' hy9
        clear hy9
        have H1 : Sep w2 NoF [.row 86 1 (.slice la l.length lc) (l.length) (uVs l), Asn.all (Ks.map chA), .row 81 1 (.slice ja Ks.length jc) (Ks.length) (Ks.map chV), .box (w2.heap.size) [.slice a' s.rest.length c', .int .i64 (s.bad : Nat)] 95, .box (w2.heap.size + 1) [.int .i64 (e0 : Int), .slice ja Ks.length jc] 32] (w9) := (H0.belowRow hb9 hol)
        clear Rc0 Rc1 Rf0 Rf1 Rl Pc0 Pc1 Pl RnP PnR
        clear H0 hb9 hol
        unfold rdV
        have Rc0 := H1.cell 3 rfl 0 rfl
        have Rc1 := H1.cell 3 rfl 1 rfl
        have Rf0 := H1.free 3 rfl 0
        have Rf1 := H1.free 3 rfl 1
        have Rl := H1.lt 3 rfl
        have Pc0 := H1.cell 4 rfl 0 rfl
        have Pc1 := H1.cell 4 rfl 1 rfl
        have Pl := H1.lt 4 rfl
        have RnP := H1.ne 3 4 rfl rfl (by decide)
        have PnR := H1.ne 4 3 rfl rfl (by decide)
        go_wp2_with fail
        have H2 : Sep w2 NoF [.row 3 1 (.slice (some ⟨w9.heap.size + 1, 0, none⟩) 0 0) (0) ([]), .box (w2.heap.size) [.slice a9 s3.rest.length c9, .int .i64 (s3.bad : Nat)] 95, .row 86 1 (.slice la l.length lc) (l.length) (uVs l), Asn.all (Ks.map chA), .row 81 1 (.slice ja Ks.length jc) (Ks.length) (Ks.map chV), .box (w2.heap.size + 1) [.int .i64 (e0 : Int), .slice ja Ks.length jc] 32] (((((w9.setCell ⟨w2.heap.size, 0, none⟩ (.slice a9 s3.rest.length c9)).setCell ⟨w2.heap.size, 1, none⟩ (.int .i64 (s3.bad : Nat))).alloc (.cells #[.slice a9 s3.rest.length c9, .int .i64 (s3.bad : Nat)] 95)).alloc (.cells #[] 3))) := ((((H1.set 3 rfl 0 (.slice a9 s3.rest.length c9)).set 0 rfl 1 (.int .i64 (s3.bad : Nat))).allocX (.cells #[.slice a9 s3.rest.length c9, .int .i64 (s3.bad : Nat)] 95)).newRowAt (w9.heap.size + 1) 3 1 (by simp))
        clear Rc0 Rc1 Rf0 Rf1 Rl Pc0 Pc1 Pl RnP PnR
        clear H1
        generalize ((((w9.setCell ⟨w2.heap.size, 0, none⟩ (.slice a9 s3.rest.length c9)).setCell ⟨w2.heap.size, 1, none⟩ (.int .i64 (s3.bad : Nat))).alloc (.cells #[.slice a9 s3.rest.length c9, .int .i64 (s3.bad : Nat)] 95)).alloc (.cells #[] 3)) = w10 at *
        generalize w9.heap.size + 1 = q0 at *
        have HLS := Lib.hid' (SlV.of_own (H2.row 2 rfl))
        go_loopw [13, 77] (fun v13 v77 wi => ∃ (i : Nat) (xa : Option Addr) (xc : Nat), v77 = .int .i64 i ∧ i ≤ l.length ∧ v13 = .slice xa i xc ∧ Sep w2 NoF [.row 3 1 (.slice xa i xc) (i) (zVs (m8k l i)), .box (w2.heap.size) [.slice a9 s3.rest.length c9, .int .i64 (s3.bad : Nat)] 95, .row 86 1 (.slice la l.length lc) (l.length) (uVs l), Asn.all (Ks.map chA), .row 81 1 (.slice ja Ks.length jc) (Ks.length) (Ks.map chV), .box (w2.heap.size + 1) [.int .i64 (e0 : Int), .slice ja Ks.length jc] 32] (wi)) (fun _ v77 _ => l.length - (intOf v77).toNat)
        case atStart => exact ⟨0, some ⟨q0, 0, none⟩, 0, rfl, Nat.zero_le _, rfl, by exact H2⟩
        case round =>
          clear H2 HLS
          obtain ⟨i, xa, xc, rfl, hi, rfl, H0⟩ := hrel
          have HLS := Lib.hid' (SlV.of_own (H0.row 2 rfl))
          by_cases hil : i < l.length
          · skip
            skip
            obtain ⟨xv, hxv⟩ : ∃ xv, xv = l[i] := ⟨_, rfl⟩
            obtain ⟨px, rfl, hcx⟩ := slv_at HLS.out (j := i) (u := .int .u64 (xv : Nat)) (by rw [hxv]; simp [uVs, hil])
            have HX := Lib.hid' (show m8k l (i + 1) = m8k l i ++ [m8e xv] by unfold m8k; rw [hxv, List.take_succ_eq_append_getElem hil, List.map_append]; rfl)
            have hlt2 : ((i : Int) < (l.length : Int)) := by omega
            have hxb : xv < 18446744073709551616 := by rw [hxv]; exact HLB.out _ (List.getElem_mem hil)
            clear hxv HLS
            by_cases h8 : 8 < xv
            · skip
              go_wp2_with (at_builtin; refine Sep.append etInts rfl (.tmp 83) (.tmp 86) rfl [.int .i64 8] rfl H0 0 rfl rfl rfl (by simp [Value.oneCell']) (by omega) ?_)
              intro xa2 xc2 wj HA
              have H3 : Sep w2 NoF [.row 3 1 (.slice xa2 (i + 1) xc2) (i + 1) (zVs (m8k l i) ++ [.int .i64 8]), .box (w2.heap.size) [.slice a9 s3.rest.length c9, .int .i64 (s3.bad : Nat)] 95, .row 86 1 (.slice (some px) l.length lc) (l.length) (uVs l), Asn.all (Ks.map chA), .row 81 1 (.slice ja Ks.length jc) (Ks.length) (Ks.map chV), .box (w2.heap.size + 1) [.int .i64 (e0 : Int), .slice ja Ks.length jc] 32] (wj) := HA
              clear HA H0
              go_wp2_with fail
              go_roundw
              case rel => exact ⟨i + 1, xa2, xc2, by go_num, by omega, rfl, by rw [HX.out, zVs_append]; rw [show m8e xv = 8 by unfold m8e; omega]; exact H3⟩
              case measure => simp [intOf]; omega
            · skip
              have h8' : ((xv : Int) : Int) ≤ 8 := by omega
              go_wp2_with (at_builtin; refine Sep.append etInts rfl (.tmp 83) (.tmp 86) rfl [.int .i64 (xv : Nat)] rfl H0 0 rfl rfl rfl (by simp [Value.oneCell']) (by omega) ?_)
              intro xa2 xc2 wj HA
              have H3 : Sep w2 NoF [.row 3 1 (.slice xa2 (i + 1) xc2) (i + 1) (zVs (m8k l i) ++ [.int .i64 (xv : Nat)]), .box (w2.heap.size) [.slice a9 s3.rest.length c9, .int .i64 (s3.bad : Nat)] 95, .row 86 1 (.slice (some px) l.length lc) (l.length) (uVs l), Asn.all (Ks.map chA), .row 81 1 (.slice ja Ks.length jc) (Ks.length) (Ks.map chV), .box (w2.heap.size + 1) [.int .i64 (e0 : Int), .slice ja Ks.length jc] 32] (wj) := HA
              clear HA H0
              go_wp2_with fail
              go_roundw
              case rel => exact ⟨i + 1, xa2, xc2, by go_num, by omega, rfl, by rw [HX.out, zVs_append]; rw [show m8e xv = (xv : Int) by unfold m8e; omega]; exact H3⟩
              case measure => simp [intOf]; omega
          · skip
            obtain rfl : i = l.length := by omega
            rw [show m8k l l.length = l.map m8e by unfold m8k; rw [List.take_length]] at H0
            have hz9 : Ks.length + 1 ≤ 5 := by omega
            clear HLS hil
            have Pc0 := H0.cell 5 rfl 0 rfl
            have Pc1 := H0.cell 5 rfl 1 rfl
            have Pf0 := H0.free 5 rfl 0
            have Pf1 := H0.free 5 rfl 1
            have Pl := H0.lt 5 rfl
            go_wp2_with (at_builtin; refine Sep.append etRows rfl (.tmp 90) (.tmp 92) rfl [.slice xa l.length xc] rfl H0 4 rfl rfl rfl (by simp [Value.oneCell']) (by omega) ?_)
            intro ja2 jc2 wq HA
            have H3 : Sep w2 NoF [.row 81 1 (.slice ja2 (Ks.length + 1) jc2) (Ks.length + 1) (Ks.map chV ++ [.slice xa l.length xc]), .row 3 1 (.slice xa l.length xc) (l.length) (zVs (l.map m8e)), .box (w2.heap.size) [.slice a9 s3.rest.length c9, .int .i64 (s3.bad : Nat)] 95, .row 86 1 (.slice la l.length lc) (l.length) (uVs l), Asn.all (Ks.map chA), .box (w2.heap.size + 1) [.int .i64 (e0 : Int), .slice ja Ks.length jc] 32] (wq) := HA
            clear Pc0 Pc1 Pf0 Pf1 Pl
            clear HA H0
            have Pc0 := H3.cell 5 rfl 0 rfl
            have Pc1 := H3.cell 5 rfl 1 rfl
            have Pf0 := H3.free 5 rfl 0
            have Pf1 := H3.free 5 rfl 1
            have Pl := H3.lt 5 rfl
            go_wp2_with fail
            have H4 : Sep w2 NoF [.box (w2.heap.size + 1) [.int .i64 (e0 : Int), .slice ja2 (Ks.length + 1) jc2] 32, .row 81 1 (.slice ja2 (Ks.length + 1) jc2) (Ks.length + 1) (Ks.map chV ++ [.slice xa l.length xc]), .row 3 1 (.slice xa l.length xc) (l.length) (zVs (l.map m8e)), .box (w2.heap.size) [.slice a9 s3.rest.length c9, .int .i64 (s3.bad : Nat)] 95, .row 86 1 (.slice la l.length lc) (l.length) (uVs l), Asn.all (Ks.map chA)] ((wq.setCell ⟨w2.heap.size + 1, 1, none⟩ (.slice ja2 (Ks.length + 1) jc2))) := (H3.set 5 rfl 1 (.slice ja2 (Ks.length + 1) jc2))
            clear Pc0 Pc1 Pf0 Pf1 Pl
            clear H3
            generalize (wq.setCell ⟨w2.heap.size + 1, 1, none⟩ (.slice ja2 (Ks.length + 1) jc2)) = w12 at *
            have H5 : Sep w2 NoF [.row 3 1 (.slice xa l.length xc) (l.length) (zVs (l.map m8e)), Asn.all (Ks.map chA), .row 81 1 (.slice ja2 (Ks.length + 1) jc2) (Ks.length + 1) (Ks.map chV ++ [.slice xa l.length xc]), .box (w2.heap.size) [.slice a9 s3.rest.length c9, .int .i64 (s3.bad : Nat)] 95, .box (w2.heap.size + 1) [.int .i64 (e0 : Int), .slice ja2 (Ks.length + 1) jc2] 32] (w12) := ((((((H4.drop 4).focus 0 rfl).focus 3 rfl).focus 2 rfl).focus 4 rfl).focus 4 rfl)
            clear H4
            have HL9 := Lib.hid' (show (Ks ++ [(l.map m8e, xa, xc)]).length = Ks.length + 1 by simp)
            have HF9 := Lib.hid' (show Sep w2 NoF [Asn.all ((Ks ++ [(l.map m8e, xa, xc)]).map chA), .row 81 1 (.slice ja2 (Ks ++ [(l.map m8e, xa, xc)]).length jc2) (Ks ++ [(l.map m8e, xa, xc)]).length ((Ks ++ [(l.map m8e, xa, xc)]).map chV), .box w2.heap.size [.slice a9 s3.rest.length c9, .int .i64 (s3.bad : Nat)] 95, .box (w2.heap.size + 1) [.int .i64 (e0 : Int), .slice ja2 (Ks ++ [(l.map m8e, xa, xc)]).length jc2] 32] w12 from by
              have h9 := sep_chs (y := (l.map m8e, xa, xc)) (Ks := Ks) (by unfold chA chV; rw [List.length_map]; exact H5)
              rw [HL9.out, show (Ks ++ [(l.map m8e, xa, xc)]).map chV = Ks.map chV ++ [.slice xa l.length xc] from by simp [chV]]
              exact h9)
            clear H5
            go_wp2_with fail
            go_roundw
            case rel => exact ⟨k + 1, s3, a9, c9, Ks ++ [(l.map m8e, xa, xc)], ja2, jc2, by go_num, by omega, hk3, Lib.hid' (fun _ => HM9.out), Lib.hid' (by rw [HL9.out, HL.out]), Lib.hid' (by have := HNX.out; rw [HCH.out] at this; rw [List.map_append]; exact this), Lib.hid' (fun x hx => by rcases List.mem_append.1 hx with hx | hx; exact HK4.out x hx; simp only [List.mem_singleton] at hx; subst hx; simpa using hcl), HY9, HF9.out⟩
            case measure => simp [intOf]; omega
      have HCE := Lib.hid' (rchains_end HC.out hgo)
      have HPE := Lib.hid' (show p = if s.fin ≠ 0 then (Pj.zero, s.fin) else if (docJ e0 Ks).check ≠ 0 then (Pj.zero, (docJ e0 Ks).check) else (docJ e0 Ks, 0) from by rw [HPC.out, HCE.out]; rfl)
      have hsl := bytes_len HY.out
      have hen := fun wq => rend01_any s a' c' hsl wq
      obtain ⟨fn2, hfn2⟩ : ∃ n, n = s.fin := ⟨_, rfl⟩
      rw [← hfn2] at hen HPE
      have HEN := Lib.hid' hen
      obtain ⟨ck, hck⟩ : ∃ n, n = (docJ e0 Ks).check := ⟨_, rfl⟩
      have hkl : Ks.length ≤ 4 := by have := HL.out; omega
      have HCK := Lib.hid' (fun wq hq => rcheck11_any e0 ja jc Ks wq hq (by have := flat_len4 HK4.out; omega))
      rw [← hck] at HPE HCK
      clear hen hfn2 hck HPC HC HM4
      have hgo2 : mn ≤ k ∨ (k < mn ∧ ((s.bad : Int) == 0) = false) := by
        by_cases h1 : k < mn
        · exact .inr ⟨h1, by rw [beq_eq_false_iff_ne]; intro h2; exact hgo ⟨h1, by omega⟩⟩
        · exact .inl (by omega)
      clear hgo
      rcases hgo2 with hge | ⟨hlt, hbb⟩
      all_goals
        have Rc0 := H0.cell 2 rfl 0 rfl
        have Rc1 := H0.cell 2 rfl 1 rfl
        have Rl := H0.lt 2 rfl
        have Pc0 := H0.cell 3 rfl 0 rfl
        have Pc1 := H0.cell 3 rfl 1 rfl
        have Pl := H0.lt 3 rfl
        go_wp2_with fail
        refine (HEN.out _).mono ?_
        rintro en w13 ⟨rfl, hb13⟩
        have H1 : Sep w2 NoF [Asn.all (Ks.map chA), .row 81 1 (.slice ja Ks.length jc) (Ks.length) (Ks.map chV), .box (w2.heap.size) [.slice a' s.rest.length c', .int .i64 (s.bad : Nat)] 95, .box (w2.heap.size + 1) [.int .i64 (e0 : Int), .slice ja Ks.length jc] 32] (w13) := (H0.below hb13)
        clear Rc0 Rc1 Rl Pc0 Pc1 Pl
        clear H0 hb13
        by_cases hf0 : fn2 = 0
        rotate_left
        · skip
          have HNw := Lib.hid' (HN2.out.below (Nat.le_refl _) H1.toBelow)
          have HBw := Lib.hid' (HB2.out.trans (H1.toBelow.mono HB2.out.size))
          have n0 := HNw.out.box.1 0 _ rfl
          have n1 := HNw.out.box.1 1 _ rfl
          have g0 := HNw.out.box.2.1 0
          have g1 := HNw.out.box.2.1 1
          have hnl := HNw.out.lt
          have HE := Lib.hid' (HERR.out w13 fn2 HBw.out (HPE.out.trans (if_pos hf0)))
          have hb1 : ((fn2 : Int) != 0) = true := by rw [bne_iff_ne]; omega
          clear hf0
          go_wp2
          refine bodyPost_ret (v := .tuple #[pjV 0 none 0 [], .int .i64 (fn2 : Nat)]) (by simp [results, Tryz.results10, go_sem, pjV, n0, n1]) rfl HE.out
        have HPE2 := Lib.hid' (HPE.out.trans (if_neg (by simpa using hf0)))
        subst hf0
        have Pc0 := H1.cell 3 rfl 0 rfl
        have Pc1 := H1.cell 3 rfl 1 rfl
        have Pl := H1.lt 3 rfl
        go_wp2_with fail
        have H2 : Sep w2 NoF [Asn.all (Ks.map chA), .row 81 1 (.slice ja Ks.length jc) (Ks.length) (Ks.map chV), .box (w2.heap.size) [.slice a' s.rest.length c', .int .i64 (s.bad : Nat)] 95, .box (w2.heap.size + 1) [.int .i64 (e0 : Int), .slice ja Ks.length jc] 32] (w13) := ((((H1.focus 3 rfl).focus 3 rfl).focus 3 rfl).focus 3 rfl)
        clear Pc0 Pc1 Pl
        clear H1
        have HOJ := Lib.hid' H2.ownJ
        refine (HCK.out _ HOJ.out.chs).mono ?_
        rintro en w14 ⟨rfl, hb14⟩
        have H3 : Sep w2 NoF [Asn.all (Ks.map chA), .row 81 1 (.slice ja Ks.length jc) (Ks.length) (Ks.map chV), .box (w2.heap.size) [.slice a' s.rest.length c', .int .i64 (s.bad : Nat)] 95, .box (w2.heap.size + 1) [.int .i64 (e0 : Int), .slice ja Ks.length jc] 32] (w14) := (H2.below hb14)
        clear H2 HOJ hb14
        by_cases hc0 : ck = 0
        rotate_left
        · skip
          have HNw := Lib.hid' (HN2.out.below (Nat.le_refl _) H3.toBelow)
          have HBw := Lib.hid' (HB2.out.trans (H3.toBelow.mono HB2.out.size))
          have n0 := HNw.out.box.1 0 _ rfl
          have n1 := HNw.out.box.1 1 _ rfl
          have g0 := HNw.out.box.2.1 0
          have g1 := HNw.out.box.2.1 1
          have hnl := HNw.out.lt
          have HE := Lib.hid' (HERR.out w14 ck HBw.out (HPE2.out.trans (if_pos hc0)))
          have hb1 : ((ck : Int) != 0) = true := by rw [bne_iff_ne]; omega
          clear hc0
          go_wp2
          refine bodyPost_ret (v := .tuple #[pjV 0 none 0 [], .int .i64 (ck : Nat)]) (by simp [results, Tryz.results10, go_sem, pjV, n0, n1]) rfl HE.out
        have HPE3 := Lib.hid' (HPE2.out.trans (if_neg (by simpa using hc0)))
        subst hc0
        have Pc0 := H3.cell 3 rfl 0 rfl
        have Pc1 := H3.cell 3 rfl 1 rfl
        have Pl := H3.lt 3 rfl
        have HNw := Lib.hid' (HN2.out.below (Nat.le_refl _) H3.toBelow)
        have HBw := Lib.hid' (HB2.out.trans (H3.toBelow.mono HB2.out.size))
        have n0 := HNw.out.box.1 0 _ rfl
        have n1 := HNw.out.box.1 1 _ rfl
        have g0 := HNw.out.box.2.1 0
        have g1 := HNw.out.box.2.1 1
        have hnl := HNw.out.lt
        have HRET := Lib.hid' (show RTake11R p w (.returned (.tuple #[.agg #[.int .i64 (e0 : Int), .slice ja Ks.length jc], .int .i64 0])) ((w14.setCell ⟨w.heap.size, 0, none⟩ (.int .i64 (e0 : Int))).setCell ⟨w.heap.size, 1, none⟩ (.slice ja Ks.length jc)) from by
          rw [HPE3.out]
          refine ⟨e0, ja, jc, Ks, rfl, rfl, ?_, (HBw.out.setCell (by simp) _).setCell (by simp) _⟩
          exact (H3.ownJ.fr (F := fun q => q = w.heap.size) ((fr_set _ _ _ _).trans (fr_set _ _ _ _) (fun i hi => .inl hi)) (fun q hq => by omega)).base (by omega))
        go_wp2
        refine bodyPost_ret (v := .tuple #[.agg #[.int .i64 (e0 : Int), .slice ja Ks.length jc], .int .i64 0]) (by simp [results, Tryz.results10, go_sem, Pc0, Pc1, n0, n1]) rfl HRET.out
  · skip
    have hbb : ((s2.bad : Int) == 0) = false := by rw [beq_eq_false_iff_ne]; omega
    have HCE := Lib.hid' (show C = ([], s2) by rw [← HC.out]; exact RD.rChains_bad _ hb0 _)
    have hsl := bytes_len HY7.out
    obtain ⟨fn2, hfn2⟩ : ∃ n, n = s2.fin := ⟨_, rfl⟩
    have hf0 : fn2 ≠ 0 := by rw [hfn2, RD.fin_bad hb0]; exact hb0
    have HPE := Lib.hid' (show p = (Pj.zero, fn2) by rw [HPC.out, HCE.out, hfn2]; exact if_pos (by rw [← hfn2]; exact hf0))
    have HEN := Lib.hid' (show ∀ wq, Calls Tryz.prog 47 #[rdV s2 a7 c7] wq fun e w' => e = .returned (.int .i64 (fn2 : Nat)) ∧ Below wq.heap.size wq w' from fun wq => by rw [hfn2]; exact rend01_any s2 a7 c7 hsl wq)
    clear hfn2 hb0
    have Rc0 := H5.cell 0 rfl 0 rfl
    have Rc1 := H5.cell 0 rfl 1 rfl
    have Rf0 := H5.free 0 rfl 0
    have Rf1 := H5.free 0 rfl 1
    have Rl := H5.lt 0 rfl
    go_wp2_with fail
    refine wp_loop_rounds 1 ?_
    rw [rounds_succ]
    go_wp2_with fail
    all_goals
      refine (HEN.out _).mono ?_
      rintro en w13 ⟨rfl, hb13⟩
      have H6 : Sep w2 NoF [.box (w2.heap.size) [.slice a7 s2.rest.length c7, .int .i64 (s2.bad : Nat)] 95, .box (w2.heap.size + 1) [.int .i64 (e0 : Int), .slice none 0 0] 32] (w13) := (H5.below hb13)
      clear Rc0 Rc1 Rf0 Rf1 Rl
      clear H5 hb13
      have HNw := Lib.hid' (HN2.out.below (Nat.le_refl _) H6.toBelow)
      have HBw := Lib.hid' (HB2.out.trans (H6.toBelow.mono HB2.out.size))
      have n0 := HNw.out.box.1 0 _ rfl
      have n1 := HNw.out.box.1 1 _ rfl
      have g0 := HNw.out.box.2.1 0
      have g1 := HNw.out.box.2.1 1
      have hnl := HNw.out.lt
      have HE := Lib.hid' (HERR.out w13 fn2 HBw.out HPE.out)
      have hb1 : ((fn2 : Int) != 0) = true := by rw [bne_iff_ne]; omega
      clear hf0
      go_wp2
      refine bodyPost_ret (v := .tuple #[pjV 0 none 0 [], .int .i64 (fn2 : Nat)]) (by simp [results, Tryz.results10, go_sem, pjV, n0, n1]) rfl HE.out
end Go.Proofs.YtkljeefncopodaaGreat
