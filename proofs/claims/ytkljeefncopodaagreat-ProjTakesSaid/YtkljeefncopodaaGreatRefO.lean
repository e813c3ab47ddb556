/- Layer 1, the document's: readers (Within). -/
import Derived.Test.YtkljeefncopodaaGreatRefN
namespace Go.Proofs.YtkljeefncopodaaGreat
open Go.RowKit
set_option linter.unusedSimpArgs false
set_option linter.unusedVariables false
set_option maxRecDepth 100000

def RInt01R (p : Nat × RD) (w0 w : World) (e : Ending) (w' : World) : Prop :=
  ∃ a c, e = .returned (.tuple #[.int .i64 (p.1 : Nat), rdV p.2 a c]) ∧ Bytes w0 (.slice a p.2.rest.length c) p.2.rest ∧ Below w.heap.size w w'
set_option maxHeartbeats 2000000 in
theorem rwithin01_any (r : RD) (a : Option Addr) (c most : Nat) (hm : most ≤ 4611686018427387904) (w0 w : World) (h : Bytes w0 (.slice a r.rest.length c) r.rest) (hb0 : Below w0.heap.size w0 w) :
    Calls Tryz.prog 44 #[rdV r a c, .int .u64 (most : Nat)] w (RInt01R (r.within most) w0 w) := by
  have HD := Lib.hid' h
  have hbl := bytes_len h
  have HNU := Lib.hid' (fun wq hq => rnum01_any r a c w0 wq h hq)
  have HB0 := Lib.hid' hb0
  have hlt := RD.num_lt r
  have hnl := RD.num_len r
  clear h hb0
  obtain ⟨p, hp⟩ : ∃ p, p = r.within most := ⟨_, rfl⟩
  have HP := Lib.hid' hp
  rw [← hp]
  have HV := Lib.hid' (show rdV r a c = .agg #[.slice a r.rest.length c, .int .i64 (r.bad : Nat)] from rfl)
  rw [HV.out]
  clear hp
  go_enter Tryz.func44, Tryz.ntmps44
  go_wp2_with fail
  have HX1 := Lib.hid' (show BoxW w.heap.size [.slice a r.rest.length c, .int .i64 (r.bad : Nat)] 95 ((w.alloc (.cells #[.slice a r.rest.length c, .int .i64 (r.bad : Nat)] 95)).alloc (.cells #[.slice none 0 0, .int .i64 0] 95)) from
    (BoxW.start w [.slice a r.rest.length c, .int .i64 (r.bad : Nat)] 95).below (Nat.le_refl _) (show Below (w.alloc (.cells #[.slice a r.rest.length c, .int .i64 (r.bad : Nat)] 95)).heap.size _ _ by go_grown))
  have HZ1 := Lib.hid' (show BoxW (w.heap.size + 1) [.slice none 0 0, .int .i64 0] 95 ((w.alloc (.cells #[.slice a r.rest.length c, .int .i64 (r.bad : Nat)] 95)).alloc (.cells #[.slice none 0 0, .int .i64 0] 95)) from by
    have h1 := BoxW.start (w.alloc (.cells #[.slice a r.rest.length c, .int .i64 (r.bad : Nat)] 95)) [.slice none 0 0, .int .i64 0] 95
    rwa [show (w.alloc (.cells #[.slice a r.rest.length c, .int .i64 (r.bad : Nat)] 95)).heap.size = w.heap.size + 1 by simp] at h1)
  have HB1 := Lib.hid' (show Below w.heap.size w ((w.alloc (.cells #[.slice a r.rest.length c, .int .i64 (r.bad : Nat)] 95)).alloc (.cells #[.slice none 0 0, .int .i64 0] 95)) by go_grown)
  generalize ((w.alloc (.cells #[.slice a r.rest.length c, .int .i64 (r.bad : Nat)] 95)).alloc (.cells #[.slice none 0 0, .int .i64 0] 95)) = w1 at *
  obtain ⟨n, hn⟩ : ∃ n, n = r.num.1 := ⟨_, rfl⟩
  obtain ⟨s, hs⟩ : ∃ s, s = r.num.2 := ⟨_, rfl⟩
  have HQ := Lib.hid' (show r.within most = if most < n ∨ 4611686018427387904 < n then (0, s.fail 1) else (n, s) by rw [hn, hs]; rfl)
  have hnu := HNU.out w1 (HB0.out.trans (HB1.out.mono HB0.out.size))
  unfold RNum01R at hnu
  rw [← hn, ← hs] at hnu
  rw [← hn] at hlt
  rw [← hs] at hnl
  clear hn hs HNU
  refine hnu.mono ?_
  clear hnu
  rintro e w2 ⟨a2, c2, rfl, hy2, hb2⟩
  have HY2 := Lib.hid' hy2
  have HX2 := Lib.hid' (HX1.out.below (Nat.le_refl _) hb2)
  have HZ2 := Lib.hid' (HZ1.out.below (Nat.le_refl _) hb2)
  have HB2 := Lib.hid' (HB1.out.trans (hb2.mono HB1.out.size))
  clear hy2 hb2 HX1 HZ1 HB1
  unfold rdV
  have d0 := HX2.out.box.1 0 _ rfl
  have d1 := HX2.out.box.1 1 _ rfl
  have df0 := HX2.out.box.2.1 0
  have df1 := HX2.out.box.2.1 1
  have hz := HX2.out.lt
  go_upto_region 2 with fail
  have HX3 := Lib.hid' (BoxW.set2 (a' := .slice a2 s.rest.length c2) (b' := .int .i64 (s.bad : Nat)) HX2.out)
  have hfr : Fr (fun q => q = w.heap.size) w2 ((w2.setCell ⟨w.heap.size, 0, none⟩ (.slice a2 s.rest.length c2)).setCell ⟨w.heap.size, 1, none⟩ (.int .i64 (s.bad : Nat))) := (fr_set _ _ _ _).trans (fr_set _ _ _ _) (fun i hi => .inl hi)
  have HZ3 := Lib.hid' (HZ2.out.fr hfr (by omega))
  have HY3 := HY2
  have HB3 := Lib.hid' (HB2.out.trans (hfr.below HB2.out.size (fun q hq => by omega)))
  clear hfr d0 d1 df0 df1 hz HX2 HZ2 HB2 HY2
  generalize ((w2.setCell ⟨w.heap.size, 0, none⟩ (.slice a2 s.rest.length c2)).setCell ⟨w.heap.size, 1, none⟩ (.int .i64 (s.bad : Nat))) = w3 at *
  have d0 := HX3.out.box.1 0 _ rfl
  have d1 := HX3.out.box.1 1 _ rfl
  have hz := HX3.out.lt
  have e0 := HZ3.out.box.1 0 _ rfl
  have e1 := HZ3.out.box.1 1 _ rfl
  have f0 := HZ3.out.box.2.1 0
  have f1 := HZ3.out.box.2.1 1
  have hzz := HZ3.out.lt
  by_cases hq : most < n ∨ 4611686018427387904 < n
  · have HPE := Lib.hid' (show p = (0, s.fail 1) by rw [HP.out, HQ.out, if_pos hq])
    have h1 : most < n := by omega
    clear hq
    have HFA := Lib.hid' (fun wq => rfail01_any s a2 c2 1 (by omega) wq)
    have HFR := Lib.hid' (show (s.fail 1).rest = s.rest by unfold RD.fail; split <;> rfl)
    go_wp2_with fail
    refine (HFA.out w3).mono ?_
    rintro e w4 ⟨rfl, hb4⟩
    have HB4 := Lib.hid' (HB3.out.trans (hb4.mono (by omega)))
    have g0 := (hb4.cell (p := ⟨w.heap.size + 1, 0, none⟩) hzz).trans e0
    have g1 := (hb4.cell (p := ⟨w.heap.size + 1, 1, none⟩) hzz).trans e1
    have k0 := (hb4.frozen (p := ⟨w.heap.size + 1, 0, none⟩) hzz).trans f0
    have k1 := (hb4.frozen (p := ⟨w.heap.size + 1, 1, none⟩) hzz).trans f1
    have HY4 := HY3
    have HZ4 := Lib.hid' (HZ3.out.below (Nat.le_refl _) hb4)
    clear hb4
    obtain ⟨s1, hs1⟩ : ∃ s1, s1 = s.fail 1 := ⟨_, rfl⟩
    have HRET := Lib.hid' (show RInt01R p w0 w (.returned (.tuple #[.int .i64 0, .agg #[.slice a2 s1.rest.length c2, .int .i64 (s1.bad : Nat)]])) ((w4.setCell ⟨w.heap.size + 1, 0, none⟩ (.slice a2 s1.rest.length c2)).setCell ⟨w.heap.size + 1, 1, none⟩ (.int .i64 (s1.bad : Nat))) from by
      rw [HPE.out, ← hs1]
      refine ⟨a2, c2, rfl, ?_, (HB4.out.setCell (by simp) _).setCell (by simp) _⟩
      have hfr : Fr (fun q => q = w.heap.size + 1) w4 ((w4.setCell ⟨w.heap.size + 1, 0, none⟩ (.slice a2 s1.rest.length c2)).setCell ⟨w.heap.size + 1, 1, none⟩ (.int .i64 (s1.bad : Nat))) := (fr_set _ _ _ _).trans (fr_set _ _ _ _) (fun i hi => .inl hi)
      have h5 := HY4.out
      rw [← HFR.out, ← hs1] at h5
      exact h5)
    rw [← hs1]
    clear hs1
    unfold rdV
    go_wp2
    refine bodyPost_ret (v := .tuple #[.int .i64 0, .agg #[.slice a2 s1.rest.length c2, .int .i64 (s1.bad : Nat)]]) (by simp [results, Tryz.results44, go_sem, g0, g1]) rfl HRET.out
  · have HPE := Lib.hid' (show p = (n, s) by rw [HP.out, HQ.out, if_neg hq])
    have h1 : ¬ most < n := by omega
    have h2 : ¬ 4611686018427387904 < n := by omega
    clear hq
    have HRET := Lib.hid' (show ∀ wq, Below w.heap.size w wq → Bytes w0 (.slice a2 s.rest.length c2) s.rest → RInt01R p w0 w (.returned (.tuple #[.int .i64 (n : Int), .agg #[.slice a2 s.rest.length c2, .int .i64 (s.bad : Nat)]])) wq from fun wq hb hy => by
      rw [HPE.out]; exact ⟨a2, c2, rfl, hy, hb⟩)
    have hfr : ∀ x y, Fr (fun q => q = w.heap.size + 1) w3 ((w3.setCell ⟨w.heap.size + 1, 0, none⟩ x).setCell ⟨w.heap.size + 1, 1, none⟩ y) := fun x y => (fr_set _ _ _ _).trans (fr_set _ _ _ _) (fun i hi => .inl hi)
    have hfr2 : ∀ x y, Fr (fun q => q = w.heap.size + 1) w3 ((w3.drew.setCell ⟨w.heap.size + 1, 0, none⟩ x).setCell ⟨w.heap.size + 1, 1, none⟩ y) := fun x y => (Fr.of_below (Below.drew (Below.refl _ w3))).trans ((fr_set _ _ _ _).trans (fr_set _ _ _ _) (fun i hi => .inl hi)) (fun i hi => .inl hi)
    have HFR := Lib.hid' hfr
    have HFR2 := Lib.hid' hfr2
    clear hfr hfr2
    go_wp2_with fail
    go_region
    all_goals
      go_wp2
      refine bodyPost_ret (v := .tuple #[.int .i64 (n : Int), .agg #[.slice a2 s.rest.length c2, .int .i64 (s.bad : Nat)]]) (by simp [results, Tryz.results44, go_sem, e0, e1]) rfl ?_
      first
        | exact HRET.out _ ((HB3.out.setCell (by simp) _).setCell (by simp) _) HY3.out
        | exact HRET.out _ ((HB3.out.drew.setCell (by simp) _).setCell (by simp) _) HY3.out
set_option maxHeartbeats 2000000 in
theorem rcount01_any (r : RD) (a : Option Addr) (c most : Nat) (hm : most ≤ 4611686018427387904) (w0 w : World) (h : Bytes w0 (.slice a r.rest.length c) r.rest) (hb0 : Below w0.heap.size w0 w) :
    Calls Tryz.prog 110 #[rdV r a c, .int .i64 (most : Nat)] w (RInt01R (r.count most) w0 w) := by
  have HD := Lib.hid' h
  have hbl := bytes_len h
  have HNU := Lib.hid' (fun wq hq => rnum01_any r a c w0 wq h hq)
  have HB0 := Lib.hid' hb0
  have hlt := RD.num_lt r
  have hnl := RD.num_len r
  clear h hb0
  obtain ⟨p, hp⟩ : ∃ p, p = r.count most := ⟨_, rfl⟩
  have HP := Lib.hid' hp
  rw [← hp]
  have HV := Lib.hid' (show rdV r a c = .agg #[.slice a r.rest.length c, .int .i64 (r.bad : Nat)] from rfl)
  rw [HV.out]
  clear hp
  go_enter Tryz.func110, Tryz.ntmps110
  go_wp2_with fail
  have HX1 := Lib.hid' (show BoxW w.heap.size [.slice a r.rest.length c, .int .i64 (r.bad : Nat)] 95 ((w.alloc (.cells #[.slice a r.rest.length c, .int .i64 (r.bad : Nat)] 95)).alloc (.cells #[.slice none 0 0, .int .i64 0] 95)) from
    (BoxW.start w [.slice a r.rest.length c, .int .i64 (r.bad : Nat)] 95).below (Nat.le_refl _) (show Below (w.alloc (.cells #[.slice a r.rest.length c, .int .i64 (r.bad : Nat)] 95)).heap.size _ _ by go_grown))
  have HZ1 := Lib.hid' (show BoxW (w.heap.size + 1) [.slice none 0 0, .int .i64 0] 95 ((w.alloc (.cells #[.slice a r.rest.length c, .int .i64 (r.bad : Nat)] 95)).alloc (.cells #[.slice none 0 0, .int .i64 0] 95)) from by
    have h1 := BoxW.start (w.alloc (.cells #[.slice a r.rest.length c, .int .i64 (r.bad : Nat)] 95)) [.slice none 0 0, .int .i64 0] 95
    rwa [show (w.alloc (.cells #[.slice a r.rest.length c, .int .i64 (r.bad : Nat)] 95)).heap.size = w.heap.size + 1 by simp] at h1)
  have HB1 := Lib.hid' (show Below w.heap.size w ((w.alloc (.cells #[.slice a r.rest.length c, .int .i64 (r.bad : Nat)] 95)).alloc (.cells #[.slice none 0 0, .int .i64 0] 95)) by go_grown)
  generalize ((w.alloc (.cells #[.slice a r.rest.length c, .int .i64 (r.bad : Nat)] 95)).alloc (.cells #[.slice none 0 0, .int .i64 0] 95)) = w1 at *
  obtain ⟨n, hn⟩ : ∃ n, n = r.num.1 := ⟨_, rfl⟩
  obtain ⟨s, hs⟩ : ∃ s, s = r.num.2 := ⟨_, rfl⟩
  have HQ := Lib.hid' (show r.count most = if s.bad ≠ 0 then (0, s) else if most < n then (0, s.fail 3) else (n, s) by rw [hn, hs]; rfl)
  have hnu := HNU.out w1 (HB0.out.trans (HB1.out.mono HB0.out.size))
  unfold RNum01R at hnu
  rw [← hn, ← hs] at hnu
  rw [← hn] at hlt
  rw [← hs] at hnl
  clear hn hs HNU
  refine hnu.mono ?_
  clear hnu
  rintro e w2 ⟨a2, c2, rfl, hy2, hb2⟩
  have HY2 := Lib.hid' hy2
  have HX2 := Lib.hid' (HX1.out.below (Nat.le_refl _) hb2)
  have HZ2 := Lib.hid' (HZ1.out.below (Nat.le_refl _) hb2)
  have HB2 := Lib.hid' (HB1.out.trans (hb2.mono HB1.out.size))
  clear hy2 hb2 HX1 HZ1 HB1
  unfold rdV
  have d0 := HX2.out.box.1 0 _ rfl
  have d1 := HX2.out.box.1 1 _ rfl
  have df0 := HX2.out.box.2.1 0
  have df1 := HX2.out.box.2.1 1
  have hz := HX2.out.lt
  go_upto_region 2 with fail
  have HX3 := Lib.hid' (BoxW.set2 (a' := .slice a2 s.rest.length c2) (b' := .int .i64 (s.bad : Nat)) HX2.out)
  have hfr : Fr (fun q => q = w.heap.size) w2 ((w2.setCell ⟨w.heap.size, 0, none⟩ (.slice a2 s.rest.length c2)).setCell ⟨w.heap.size, 1, none⟩ (.int .i64 (s.bad : Nat))) := (fr_set _ _ _ _).trans (fr_set _ _ _ _) (fun i hi => .inl hi)
  have HZ3 := Lib.hid' (HZ2.out.fr hfr (by omega))
  have HY3 := HY2
  have HB3 := Lib.hid' (HB2.out.trans (hfr.below HB2.out.size (fun q hq => by omega)))
  clear hfr d0 d1 df0 df1 hz HX2 HZ2 HB2 HY2
  generalize ((w2.setCell ⟨w.heap.size, 0, none⟩ (.slice a2 s.rest.length c2)).setCell ⟨w.heap.size, 1, none⟩ (.int .i64 (s.bad : Nat))) = w3 at *
  have d0 := HX3.out.box.1 0 _ rfl
  have d1 := HX3.out.box.1 1 _ rfl
  have hz := HX3.out.lt
  have e0 := HZ3.out.box.1 0 _ rfl
  have e1 := HZ3.out.box.1 1 _ rfl
  have f0 := HZ3.out.box.2.1 0
  have f1 := HZ3.out.box.2.1 1
  have hzz := HZ3.out.lt
  by_cases hsb : s.bad = 0
  rotate_left
  · have HPE := Lib.hid' (show p = (0, s) by rw [HP.out, HQ.out, if_pos hsb])
    have hbb : ((s.bad : Int) != 0) = true := by rw [bne_iff_ne]; omega
    clear hsb
    have HRET := Lib.hid' (show ∀ wq, Below w.heap.size w wq → Bytes w0 (.slice a2 s.rest.length c2) s.rest → RInt01R p w0 w (.returned (.tuple #[.int .i64 0, .agg #[.slice a2 s.rest.length c2, .int .i64 (s.bad : Nat)]])) wq from fun wq hb hy => by
      rw [HPE.out]; exact ⟨a2, c2, rfl, hy, hb⟩)
    have hfr : ∀ x y, Fr (fun q => q = w.heap.size + 1) w3 ((w3.setCell ⟨w.heap.size + 1, 0, none⟩ x).setCell ⟨w.heap.size + 1, 1, none⟩ y) := fun x y => (fr_set _ _ _ _).trans (fr_set _ _ _ _) (fun i hi => .inl hi)
    have hfr2 : ∀ x y, Fr (fun q => q = w.heap.size + 1) w3 ((w3.drew.setCell ⟨w.heap.size + 1, 0, none⟩ x).setCell ⟨w.heap.size + 1, 1, none⟩ y) := fun x y => (Fr.of_below (Below.drew (Below.refl _ w3))).trans ((fr_set _ _ _ _).trans (fr_set _ _ _ _) (fun i hi => .inl hi)) (fun i hi => .inl hi)
    have HFR := Lib.hid' hfr
    have HFR2 := Lib.hid' hfr2
    clear hfr hfr2
    go_wp2_with fail
    go_region
    all_goals
      go_wp2
      refine bodyPost_ret (v := .tuple #[.int .i64 0, .agg #[.slice a2 s.rest.length c2, .int .i64 (s.bad : Nat)]]) (by simp [results, Tryz.results110, go_sem, e0, e1]) rfl ?_
      first
        | exact HRET.out _ ((HB3.out.setCell (by simp) _).setCell (by simp) _) HY3.out
        | exact HRET.out _ ((HB3.out.drew.setCell (by simp) _).setCell (by simp) _) HY3.out
  have hbb : ((s.bad : Int) != 0) = false := by rw [bne_eq_false_iff_eq]; omega
  by_cases h1 : most < n
  · have HPE := Lib.hid' (show p = (0, s.fail 3) by rw [HP.out, HQ.out, if_neg (by simpa using hsb), if_pos h1])
    clear hsb
    have HFA := Lib.hid' (fun wq => rfail01_any s a2 c2 3 (by omega) wq)
    have HFR := Lib.hid' (show (s.fail 3).rest = s.rest by unfold RD.fail; split <;> rfl)
    go_wp2_with fail
    refine (HFA.out w3).mono ?_
    rintro e w4 ⟨rfl, hb4⟩
    have HB4 := Lib.hid' (HB3.out.trans (hb4.mono (by omega)))
    have g0 := (hb4.cell (p := ⟨w.heap.size + 1, 0, none⟩) hzz).trans e0
    have g1 := (hb4.cell (p := ⟨w.heap.size + 1, 1, none⟩) hzz).trans e1
    have k0 := (hb4.frozen (p := ⟨w.heap.size + 1, 0, none⟩) hzz).trans f0
    have k1 := (hb4.frozen (p := ⟨w.heap.size + 1, 1, none⟩) hzz).trans f1
    have HY4 := HY3
    have HZ4 := Lib.hid' (HZ3.out.below (Nat.le_refl _) hb4)
    clear hb4
    obtain ⟨s1, hs1⟩ : ∃ s1, s1 = s.fail 3 := ⟨_, rfl⟩
    have HRET := Lib.hid' (show RInt01R p w0 w (.returned (.tuple #[.int .i64 0, .agg #[.slice a2 s1.rest.length c2, .int .i64 (s1.bad : Nat)]])) ((w4.setCell ⟨w.heap.size + 1, 0, none⟩ (.slice a2 s1.rest.length c2)).setCell ⟨w.heap.size + 1, 1, none⟩ (.int .i64 (s1.bad : Nat))) from by
      rw [HPE.out, ← hs1]
      refine ⟨a2, c2, rfl, ?_, (HB4.out.setCell (by simp) _).setCell (by simp) _⟩
      have hfr : Fr (fun q => q = w.heap.size + 1) w4 ((w4.setCell ⟨w.heap.size + 1, 0, none⟩ (.slice a2 s1.rest.length c2)).setCell ⟨w.heap.size + 1, 1, none⟩ (.int .i64 (s1.bad : Nat))) := (fr_set _ _ _ _).trans (fr_set _ _ _ _) (fun i hi => .inl hi)
      have h5 := HY4.out
      rw [← HFR.out, ← hs1] at h5
      exact h5)
    rw [← hs1]
    clear hs1
    unfold rdV
    go_wp2
    refine bodyPost_ret (v := .tuple #[.int .i64 0, .agg #[.slice a2 s1.rest.length c2, .int .i64 (s1.bad : Nat)]]) (by simp [results, Tryz.results110, go_sem, g0, g1]) rfl HRET.out
  · have HPE := Lib.hid' (show p = (n, s) by rw [HP.out, HQ.out, if_neg (by simpa using hsb), if_neg h1])
    clear hsb
    have HRET := Lib.hid' (show ∀ wq, Below w.heap.size w wq → Bytes w0 (.slice a2 s.rest.length c2) s.rest → RInt01R p w0 w (.returned (.tuple #[.int .i64 (n : Int), .agg #[.slice a2 s.rest.length c2, .int .i64 (s.bad : Nat)]])) wq from fun wq hb hy => by
      rw [HPE.out]; exact ⟨a2, c2, rfl, hy, hb⟩)
    have hfr : ∀ x y, Fr (fun q => q = w.heap.size + 1) w3 ((w3.setCell ⟨w.heap.size + 1, 0, none⟩ x).setCell ⟨w.heap.size + 1, 1, none⟩ y) := fun x y => (fr_set _ _ _ _).trans (fr_set _ _ _ _) (fun i hi => .inl hi)
    have hfr2 : ∀ x y, Fr (fun q => q = w.heap.size + 1) w3 ((w3.drew.setCell ⟨w.heap.size + 1, 0, none⟩ x).setCell ⟨w.heap.size + 1, 1, none⟩ y) := fun x y => (Fr.of_below (Below.drew (Below.refl _ w3))).trans ((fr_set _ _ _ _).trans (fr_set _ _ _ _) (fun i hi => .inl hi)) (fun i hi => .inl hi)
    have HFR := Lib.hid' hfr
    have HFR2 := Lib.hid' hfr2
    clear hfr hfr2
    go_wp2_with fail
    go_region
    all_goals
      go_wp2
      refine bodyPost_ret (v := .tuple #[.int .i64 (n : Int), .agg #[.slice a2 s.rest.length c2, .int .i64 (s.bad : Nat)]]) (by simp [results, Tryz.results110, go_sem, e0, e1]) rfl ?_
      first
        | exact HRET.out _ ((HB3.out.setCell (by simp) _).setCell (by simp) _) HY3.out
        | exact HRET.out _ ((HB3.out.drew.setCell (by simp) _).setCell (by simp) _) HY3.out
end Go.Proofs.YtkljeefncopodaaGreat
