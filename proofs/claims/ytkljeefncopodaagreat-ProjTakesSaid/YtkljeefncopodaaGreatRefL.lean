/- Layer 1, the document's: readers (ListOf). -/
import Derived.Test.YtkljeefncopodaaGreatRefO
import Derived.Test.YtkljeefncopodaaGreatPrjK
namespace Go.Proofs.YtkljeefncopodaaGreat
open Go.RowKit
set_option linter.unusedSimpArgs false
set_option linter.unusedVariables false
set_option maxRecDepth 100000

def RList01R (p : List Nat × RD) (w0 w : World) (e : Ending) (w' : World) : Prop :=
  ∃ la lc a c, e = .returned (.tuple #[.slice la p.1.length lc, rdV p.2 a c]) ∧ w'.ownsRow w.heap.size 86 1 (.slice la p.1.length lc) p.1.length (uVs p.1) ∧ Bytes w0 (.slice a p.2.rest.length c) p.2.rest ∧ Below w.heap.size w w'
set_option maxHeartbeats 4000000 in
theorem rlist01_any (r : RD) (a : Option Addr) (c most : Nat) (hm : most ≤ 1048576) (w0 w : World) (h : Bytes w0 (.slice a r.rest.length c) r.rest) (hb0 : Below w0.heap.size w0 w) :
    Calls Tryz.prog 46 #[rdV r a c, .int .i64 (most : Nat)] w (RList01R (r.list most) w0 w) := by
  have hbl := bytes_len h
  have HCT := Lib.hid' (fun wq hq => rcount01_any r a c most (by omega) w0 wq h hq)
  have HB0 := Lib.hid' hb0
  have hcl := count_le r most
  clear h hb0
  obtain ⟨p, hp⟩ : ∃ p, p = r.list most := ⟨_, rfl⟩
  have HR := Lib.hid' (show RD.nums (r.count most).1 (r.count most).2 [] = p by rw [hp]; rfl)
  rw [← hp]
  have HV := Lib.hid' (show rdV r a c = .agg #[.slice a r.rest.length c, .int .i64 (r.bad : Nat)] from rfl)
  rw [HV.out]
  clear hp
  go_enter Tryz.func46, Tryz.ntmps46
  go_wp2_with fail
  have HX1 := Lib.hid' (show BoxW w.heap.size [.slice a r.rest.length c, .int .i64 (r.bad : Nat)] 95 ((w.alloc (.cells #[.slice a r.rest.length c, .int .i64 (r.bad : Nat)] 95)).alloc (.cells #[.slice none 0 0, .int .i64 0] 95)) from
    (BoxW.start w [.slice a r.rest.length c, .int .i64 (r.bad : Nat)] 95).below (Nat.le_refl _) (show Below (w.alloc (.cells #[.slice a r.rest.length c, .int .i64 (r.bad : Nat)] 95)).heap.size _ _ by go_grown))
  have HZ1 := Lib.hid' (show BoxW (w.heap.size + 1) [.slice none 0 0, .int .i64 0] 95 ((w.alloc (.cells #[.slice a r.rest.length c, .int .i64 (r.bad : Nat)] 95)).alloc (.cells #[.slice none 0 0, .int .i64 0] 95)) from by
    have h1 := BoxW.start (w.alloc (.cells #[.slice a r.rest.length c, .int .i64 (r.bad : Nat)] 95)) [.slice none 0 0, .int .i64 0] 95
    rwa [show (w.alloc (.cells #[.slice a r.rest.length c, .int .i64 (r.bad : Nat)] 95)).heap.size = w.heap.size + 1 by simp] at h1)
  have HB1 := Lib.hid' (show Below w.heap.size w ((w.alloc (.cells #[.slice a r.rest.length c, .int .i64 (r.bad : Nat)] 95)).alloc (.cells #[.slice none 0 0, .int .i64 0] 95)) by go_grown)
  generalize ((w.alloc (.cells #[.slice a r.rest.length c, .int .i64 (r.bad : Nat)] 95)).alloc (.cells #[.slice none 0 0, .int .i64 0] 95)) = w1 at *
  obtain ⟨n, hn⟩ : ∃ n, n = (r.count most).1 := ⟨_, rfl⟩
  obtain ⟨s, hs⟩ : ∃ s, s = (r.count most).2 := ⟨_, rfl⟩
  have hct := HCT.out w1 (HB0.out.trans (HB1.out.mono HB0.out.size))
  unfold RInt01R at hct
  rw [← hn, ← hs] at hct HR
  rw [← hn] at hcl
  clear hn hs HCT
  refine hct.mono ?_
  clear hct
  rintro e w2 ⟨a2, c2, rfl, hy2, hb2⟩
  have HY2 := Lib.hid' hy2
  have HX2 := Lib.hid' (HX1.out.below (Nat.le_refl _) hb2)
  have HZ2 := Lib.hid' (HZ1.out.below (Nat.le_refl _) hb2)
  have HB2 := Lib.hid' (HB1.out.trans (hb2.mono HB1.out.size))
  clear hy2 hb2 HX1 HZ1 HB1
  unfold rdV
  have d0 := HX2.out.box.1 0 _ rfl
  have d1 := HX2.out.box.1 1 _ rfl
  have df0 := HX2.out.box.2.1 0
  have df1 := HX2.out.box.2.1 1
  have hz := HX2.out.lt
  go_wp2_with fail
  have hfr : Fr (fun q => q = w.heap.size) w2 ((w2.setCell ⟨w.heap.size, 0, none⟩ (.slice a2 s.rest.length c2)).setCell ⟨w.heap.size, 1, none⟩ (.int .i64 (s.bad : Nat))) := (fr_set _ _ _ _).trans (fr_set _ _ _ _) (fun i hi => .inl hi)
  have HX3 := Lib.hid' (BoxW.set2 (a' := .slice a2 s.rest.length c2) (b' := .int .i64 (s.bad : Nat)) HX2.out)
  have HZ3 := Lib.hid' (HZ2.out.fr hfr (by omega))
  have HB3 := Lib.hid' (HB2.out.trans (hfr.below HB2.out.size (fun q hq => by omega)))
  have HO4 := Lib.hid' (show (((w2.setCell ⟨w.heap.size, 0, none⟩ (.slice a2 s.rest.length c2)).setCell ⟨w.heap.size, 1, none⟩ (.int .i64 (s.bad : Nat))).alloc (.cells #[] 86)).ownsRow (w.heap.size + 2) 86 1 (.slice (some ⟨w2.heap.size, 0, none⟩) 0 0) 0 [] from by
    have h1 := own_empty ((w2.setCell ⟨w.heap.size, 0, none⟩ (.slice a2 s.rest.length c2)).setCell ⟨w.heap.size, 1, none⟩ (.int .i64 (s.bad : Nat))) 86 1
    rw [show ((w2.setCell ⟨w.heap.size, 0, none⟩ (.slice a2 s.rest.length c2)).setCell ⟨w.heap.size, 1, none⟩ (.int .i64 (s.bad : Nat))).heap.size = w2.heap.size by simp] at h1
    exact own_base h1 (by have := HZ2.out.lt; omega))
  generalize w2.heap.size = q0 at HO4 ⊢
  clear hfr d0 d1 df0 df1 hz HX2 HZ2 HB2
  generalize ((w2.setCell ⟨w.heap.size, 0, none⟩ (.slice a2 s.rest.length c2)).setCell ⟨w.heap.size, 1, none⟩ (.int .i64 (s.bad : Nat))) = w3 at *
  have hg : Below w3.heap.size w3 (w3.alloc (.cells #[] 86)) := by go_grown
  have HX4 := Lib.hid' (HX3.out.below (Nat.le_refl _) hg)
  have HZ4 := Lib.hid' (HZ3.out.below (Nat.le_refl _) hg)
  have HB4 := Lib.hid' (HB3.out.trans (hg.mono HB3.out.size))
  clear hg HX3 HZ3 HB3
  generalize w3.alloc (.cells #[] 86) = w4 at *
  go_loopw [7, 8] (fun v7 v8 wr => ∃ (k : Nat) (s : RD) (acc : List Nat) (la : Option Addr) (lc : Nat) (a' : Option Addr) (c' : Nat), v8 = .int .i64 k ∧ k ≤ n ∧ v7 = .slice la acc.length lc ∧ Hid (acc.length = k) ∧ Hid (RD.nums (n - k) s acc = p) ∧ Hid (BoxW w.heap.size [.slice a' s.rest.length c', .int .i64 (s.bad : Nat)] 95 wr) ∧ Hid (BoxW (w.heap.size + 1) [.slice none 0 0, .int .i64 0] 95 wr) ∧ Hid (wr.ownsRow (w.heap.size + 2) 86 1 (.slice la acc.length lc) acc.length (uVs acc)) ∧ Hid (Bytes w0 (.slice a' s.rest.length c') s.rest) ∧ Hid (Below w.heap.size w wr)) (fun _ v8 _ => n - (intOf v8).toNat)
  case atStart => exact ⟨0, s, [], some ⟨q0, 0, none⟩, 0, a2, c2, rfl, Nat.zero_le _, rfl, Lib.hid' rfl, HR, HX4, HZ4, HO4, HY2, HB4⟩
  case round =>
    clear HR HX4 HZ4 HO4 HY2 HB4
    obtain ⟨k, s, acc, la, lc, a', c', rfl, hk, rfl, HL, HN, HX, HZ, HO, HY, HB⟩ := hrel
    have d0 := HX.out.box.1 0 _ rfl
    have d1 := HX.out.box.1 1 _ rfl
    have df0 := HX.out.box.2.1 0
    have df1 := HX.out.box.2.1 1
    have hz := HX.out.lt
    have e0 := HZ.out.box.1 0 _ rfl
    have e1 := HZ.out.box.1 1 _ rfl
    have f0 := HZ.out.box.2.1 0
    have f1 := HZ.out.box.2.1 1
    have hzz := HZ.out.lt
    by_cases hlt : k < n
    · have HNX := Lib.hid' (nums_next hlt HN.out)
      have hacc : acc.length ≤ 1048576 := by have := HL.out; omega
      obtain ⟨x, hx⟩ : ∃ x, x = s.num.1 := ⟨_, rfl⟩
      obtain ⟨s2, hs2⟩ : ∃ s2, s2 = s.num.2 := ⟨_, rfl⟩
      have hnm := rnum01_any s a' c' w0 wr HY.out (HB0.out.trans (HB.out.mono HB0.out.size))
      unfold RNum01R at hnm
      rw [← hx, ← hs2] at hnm
      rw [← hx, ← hs2] at HNX
      have HNM := Lib.hid' hnm
      clear hnm hx hs2 e0 e1 f0 f1
      go_wp2_with fail
      refine HNM.out.mono ?_
      clear HNM
      rintro e w5 ⟨a5, c5, rfl, hy5, hb5⟩
      have HY5 := Lib.hid' hy5
      have HX5 := Lib.hid' (HX.out.below (Nat.le_refl _) hb5)
      have HZ5 := Lib.hid' (HZ.out.below (Nat.le_refl _) hb5)
      have HO5 := Lib.hid' (own_below HO.out (Nat.le_refl _) hb5)
      have HB5 := Lib.hid' (HB.out.trans (hb5.mono HB.out.size))
      clear hy5 hb5 d0 d1 df0 df1 hz hzz HX HZ HO HB HY
      unfold rdV
      have d0 := HX5.out.box.1 0 _ rfl
      have d1 := HX5.out.box.1 1 _ rfl
      have df0 := HX5.out.box.2.1 0
      have df1 := HX5.out.box.2.1 1
      have hz := HX5.out.lt
      go_upto_region 8 with fail
      have hfr : Fr (fun q => q = w.heap.size) w5 ((w5.setCell ⟨w.heap.size, 0, none⟩ (.slice a5 s2.rest.length c5)).setCell ⟨w.heap.size, 1, none⟩ (.int .i64 (s2.bad : Nat))) := (fr_set _ _ _ _).trans (fr_set _ _ _ _) (fun i hi => .inl hi)
      have HX6 := Lib.hid' (BoxW.set2 (a' := .slice a5 s2.rest.length c5) (b' := .int .i64 (s2.bad : Nat)) HX5.out)
      have HZ6 := Lib.hid' (HZ5.out.fr hfr (by omega))
      have HO6 := Lib.hid' (own_fr HO5.out hfr (own_slin HO5.out (fun q hq => by have := (own_blk HO5.out hq).1; omega)))
      have HB6 := Lib.hid' (HB5.out.trans (hfr.below HB5.out.size (fun q hq => by omega)))
      clear hfr d0 d1 df0 df1 hz HX5 HZ5 HO5 HB5
      generalize ((w5.setCell ⟨w.heap.size, 0, none⟩ (.slice a5 s2.rest.length c5)).setCell ⟨w.heap.size, 1, none⟩ (.int .i64 (s2.bad : Nat))) = w6 at *
      have hg : Below w6.heap.size w6 (w6.alloc (.cells #[.slice a5 s2.rest.length c5, .int .i64 (s2.bad : Nat)] 95)) := by go_grown
      have HX7 := Lib.hid' (HX6.out.below (Nat.le_refl _) hg)
      have HZ7 := Lib.hid' (HZ6.out.below (Nat.le_refl _) hg)
      have HO7 := Lib.hid' (own_below HO6.out (Nat.le_refl _) hg)
      have HB7 := Lib.hid' (HB6.out.trans (hg.mono HB6.out.size))
      clear hg HX6 HZ6 HO6 HB6
      generalize w6.alloc (.cells #[.slice a5 s2.rest.length c5, .int .i64 (s2.bad : Nat)] 95) = w7 at *
      have d0 := HX7.out.box.1 0 _ rfl
      have d1 := HX7.out.box.1 1 _ rfl
      have hz := HX7.out.lt
      have e0 := HZ7.out.box.1 0 _ rfl
      have e1 := HZ7.out.box.1 1 _ rfl
      have f0 := HZ7.out.box.2.1 0
      have f1 := HZ7.out.box.2.1 1
      have hzz := HZ7.out.lt
      by_cases hb : s2.bad = 0
      · have HNN := Lib.hid' (show RD.nums (n - (k + 1)) s2 (acc ++ [x]) = p by have := HNX.out; rwa [if_neg (by simpa using hb)] at this)
        have hbb : ((s2.bad : Int) != 0) = false := by rw [bne_eq_false_iff_eq]; omega
        have hz2 : w.heap.size + 2 ≤ w7.heap.size := by omega
        clear hb
        go_wp2_with (at_builtin; refine append_one etU64 rfl (.tmp 33) (.tmp 35) rfl [.int .u64 (x : Int)] rfl (w.heap.size + 2) acc.length (uVs acc) _ rfl HO7.out rfl (by simp [Value.oneCell']) (by omega) hz2 ?_)
        intro a9 c9 w9 ho9 hf9
        have HL9 := Lib.hid' (show (acc ++ [x]).length = acc.length + 1 by simp)
        have HO9 := Lib.hid' (show w9.ownsRow (w.heap.size + 2) 86 1 (.slice a9 (acc ++ [x]).length c9) (acc ++ [x]).length (uVs (acc ++ [x])) by rw [HL9.out, uVs_append]; exact ho9)
        have hob : ∀ q, (Value.slice la acc.length lc).ownBlock = some q → w.heap.size + 2 ≤ q := fun q hq => (own_blk HO7.out hq).1
        have HX9 := Lib.hid' (HX7.out.fr hf9 (fun hq => by have := hob _ hq; omega))
        have HZ9 := Lib.hid' (HZ7.out.fr hf9 (fun hq => by have := hob _ hq; omega))
        have HB9 := Lib.hid' (HB7.out.trans (hf9.below HB7.out.size (fun q hq => by have := hob q hq; omega)))
        clear ho9 hf9 hob d0 d1 hz e0 e1 f0 f1 hzz
        go_wp2_with fail
        go_roundw
        case rel => exact ⟨k + 1, s2, acc ++ [x], a9, c9, a5, c5, by go_num, by omega, by rw [HL9.out], Lib.hid' (by rw [HL9.out, HL.out]), HNN, HX9, HZ9, HO9, HY5, HB9⟩
        case measure => simp [intOf]; omega
      · have HNN := Lib.hid' (show ([], s2) = p by have := HNX.out; rwa [if_pos hb] at this)
        have hbb : ((s2.bad : Int) != 0) = true := by rw [bne_iff_ne]; omega
        have HRET := Lib.hid' (show ∀ wq, Below w.heap.size w wq → RList01R p w0 w (.returned (.tuple #[.slice none 0 0, .agg #[.slice a5 s2.rest.length c5, .int .i64 (s2.bad : Nat)]])) wq from fun wq hq => by
          rw [← HNN.out]; exact ⟨none, 0, a5, c5, rfl, own_nil _ _ _ _, HY5.out, hq⟩)
        clear hb
        go_wp2_with fail
        go_region
        all_goals
          go_wp2
          refine bodyPost_ret (v := .tuple #[.slice none 0 0, .agg #[.slice a5 s2.rest.length c5, .int .i64 (s2.bad : Nat)]]) (by simp [results, Tryz.results46, go_sem, e0, e1]) rfl (HRET.out _ ?_)
          first | exact ((HB7.out.setCell (by simp) _).setCell (by simp) _) | exact ((HB7.out.drew.setCell (by simp) _).setCell (by simp) _)
    · have HNN := Lib.hid' (show (acc, s) = p by have := HN.out; rwa [show n - k = 0 by omega] at this)
      have HRET := Lib.hid' (show ∀ wq, Below w.heap.size w wq → wq.ownsRow (w.heap.size + 2) 86 1 (.slice la acc.length lc) acc.length (uVs acc) → RList01R p w0 w (.returned (.tuple #[.slice la acc.length lc, .agg #[.slice a' s.rest.length c', .int .i64 (s.bad : Nat)]])) wq from fun wq hq ho => by
        rw [← HNN.out]; exact ⟨la, lc, a', c', rfl, own_base ho (by omega), HY.out, hq⟩)
      have hob : ∀ q, (Value.slice la acc.length lc).ownBlock = some q → ¬ q = w.heap.size + 1 := fun q hq => by have := (own_blk HO.out hq).1; omega
      have HF := Lib.hid' (fun x y => own_fr HO.out (show Fr (fun q => q = w.heap.size + 1) wr ((wr.setCell ⟨w.heap.size + 1, 0, none⟩ x).setCell ⟨w.heap.size + 1, 1, none⟩ y) from (fr_set _ _ _ _).trans (fr_set _ _ _ _) (fun i hi => .inl hi)) (own_slin HO.out hob))
      have HF2 := Lib.hid' (fun x y => own_fr HO.out (show Fr (fun q => q = w.heap.size + 1) wr ((wr.drew.setCell ⟨w.heap.size + 1, 0, none⟩ x).setCell ⟨w.heap.size + 1, 1, none⟩ y) from (Fr.of_below (Below.drew (Below.refl _ wr))).trans ((fr_set _ _ _ _).trans (fr_set _ _ _ _) (fun i hi => .inl hi)) (fun i hi => .inl hi)) (own_slin HO.out hob))
      clear hob
      go_wp2_with fail
      go_region
      all_goals
        go_wp2
        refine bodyPost_ret (v := .tuple #[.slice la acc.length lc, .agg #[.slice a' s.rest.length c', .int .i64 (s.bad : Nat)]]) (by simp [results, Tryz.results46, go_sem, e0, e1]) rfl ?_
        first
          | exact HRET.out _ ((HB.out.setCell (by simp) _).setCell (by simp) _) (HF.out _ _)
          | exact HRET.out _ ((HB.out.drew.setCell (by simp) _).setCell (by simp) _) (HF2.out _ _)
end Go.Proofs.YtkljeefncopodaaGreat
