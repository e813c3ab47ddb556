/- The statement ProjChecks: its walk. -/
import Derived.Test.YtjkbcjliaacebaaGreatPrjL
import Derived.Test.YtjkbcjliaacebaaGreatPrjS
import Derived.Test.YtjkbcjliaacebaaGreatPrjQ
import Derived.Deep.RegionHeld
namespace Go.Proofs.YtjkbcjliaacebaaGreat
open Go.RowKit
set_option linter.unusedSimpArgs false
set_option linter.unusedVariables false
set_option maxRecDepth 100000

theorem add_in (b o j : Nat) : (⟨b, o, none⟩ : Addr).add j = ⟨b, o + j, none⟩ := by unfold Addr.add; split <;> simp_all
theorem slv_far {w : World} {g o n c m q i : Nat} {xs : List Value} {v : Value} (h : SlV w (.slice (some ⟨g, o, none⟩) n c) m xs) (hq : q ≠ g) : SlV (w.setCell ⟨q, i, none⟩ v) (.slice (some ⟨g, o, none⟩) n c) m xs := by
  obtain ⟨a', c', he, h1, h2, h0, h3⟩ := h
  simp only [Value.slice.injEq] at he
  obtain ⟨rfl, rfl, rfl⟩ := he
  refine ⟨_, _, rfl, h1, h2, h0, fun j u hu => ?_⟩
  obtain ⟨p, hp, hc⟩ := h3 j u hu
  refine ⟨p, hp, (World.cell?_setCell_far _ _ _ _ ?_).trans hc⟩
  cases hp
  rw [add_in]; exact hq
theorem OwnJ.bump {w : World} {B : Nat} {a : Option Addr} {c : Nat} {x : Int} (y : Int) {l : List Int} {ra : Option Addr} {rc : Nat} {K : List Ch} (h : OwnJ w B a c ((x :: l, ra, rc) :: K)) :
    ∃ q, ra = some ⟨q, 0, none⟩ ∧ B ≤ q ∧ q < w.heap.size ∧ w.cell? ⟨q, 0, none⟩ = some (.int .i64 x) ∧ w.frozen? ⟨q, 0, none⟩ = false ∧ Chs (w.setCell ⟨q, 0, none⟩ (.int .i64 y)) a c ((y :: l, ra, rc) :: K) := by
  have hr := h.each _ List.mem_cons_self
  rcases own_cases (a := ra) (c := rc) hr with ⟨_, h1, _⟩ | ⟨q, cur, rfl, hB, hq, hh, _⟩
  · simp at h1
  have hz : Zs w (.slice (some ⟨q, 0, none⟩) (x :: l).length rc) (x :: l) := SlV.of_own hr
  obtain ⟨b, off, he, _, hc⟩ := hz.at (k := 0) (by simp)
  simp only [Option.some.injEq, Addr.mk.injEq, and_true] at he
  obtain ⟨rfl, rfl⟩ := he
  have hc : w.cell? ⟨q, 0, none⟩ = some (.int .i64 x) := hc
  refine ⟨q, rfl, hB, hq, hc, hr.frozenAt 0, ⟨?_, ?_⟩⟩
  · rcases own_cases h.row with ⟨_, h1, _⟩ | ⟨g, cur2, rfl, _, _, hh2, _⟩
    · simp at h1
    have hgq : q ≠ g := by
      rintro rfl
      rw [hh] at hh2
      simp at hh2
    exact slv_far (SlV.of_own h.row) hgq
  · intro z hzm
    rcases List.mem_cons.1 hzm with rfl | hzm
    · obtain ⟨a', c', he, h1, h2, h0, h3⟩ := hz
      simp only [Value.slice.injEq] at he
      obtain ⟨rfl, _, rfl⟩ := he
      refine ⟨_, _, rfl, by simpa using h1, h2, h0, fun j u hu => ?_⟩
      cases j with
      | zero =>
        refine ⟨_, rfl, ?_⟩
        simp only [zVs, List.map_cons, List.getElem?_cons_zero, Option.some.injEq] at hu
        subst hu
        rw [add_in]
        exact World.cell?_setCell_same w _ _ hc
      | succ j =>
        obtain ⟨p, hp, hc2⟩ := h3 (j + 1) u (by simpa [zVs] using hu)
        refine ⟨p, hp, (World.cell?_setCell_other w _ _ _ ?_).trans hc2⟩
        cases hp
        rw [add_in]; intro e; simp only [Addr.mk.injEq] at e; omega
    · have hap := (List.pairwise_cons.1 h.apart).1 z hzm q rfl
      have hrz := h.each z (List.mem_cons_of_mem _ hzm)
      obtain ⟨zl, za, zc⟩ := z
      rcases own_cases (a := za) (c := zc) hrz with ⟨rfl, h1, rfl, _⟩ | ⟨g, cur2, rfl, _, _, _, _⟩
      · obtain rfl : zl = [] := List.eq_nil_of_length_eq_zero h1
        exact SlV.empty _ _ _ (Nat.zero_le _) (fun _ => rfl)
      · exact slv_far (SlV.of_own hrz) (by rintro rfl; exact hap rfl)
theorem home_bad {p : Pj} {a : Int} (h : p.check ≠ 0) : p.home a = (0, p.check) := by unfold Pj.home; rw [if_pos h]
theorem home_out {p : Pj} {a : Int} (h : p.check = 0) (h1 : a < 0 ∨ 1048576 ≤ a) : p.home a = (0, 1) := by unfold Pj.home; rw [if_neg (by simpa using h), if_pos h1]
theorem home_in {p : Pj} {a : Int} (h : p.check = 0) (h1 : ¬ (a < 0 ∨ 1048576 ≤ a)) : p.home a = (a.tmod p.cs.length, 0) := by unfold Pj.home; rw [if_neg (by simpa using h), if_neg h1]
set_option maxHeartbeats 8000000 in
theorem projChecks_any (e : Int) (a : Option Addr) (c : Nat) (X : List Ch) (ad : Int) (w : World) (h : Chs w a c X) :
    Calls Tryz.prog 3 #[pjV e a c X, .int .i64 ad] w fun en w' => en = .returned (.bool true) ∧ Below w.heap.size w w' := by
  have HS := Lib.hid' h
  have hlen := h.len
  clear h
  have HV := Lib.hid' (show pjV e a c X = .agg #[.int .i64 e, .slice a X.length c] from rfl)
  rw [HV.out]
  go_enter Tryz.func3, Tryz.ntmps3
  go_wp2_with fail
  refine (alive11_any _).mono ?_
  rintro en w2 ⟨rfl, hb2⟩
  have HB2 := Lib.hid' (show Below w.heap.size w w2 from below_call (by go_grown) (by simp) hb2)
  have hz2 : w.heap.size < w2.heap.size := by have := hb2.size; simp at this; omega
  have c20 := ((bcell hb2).1 w.heap.size 0 (by simp)).trans (show _ = some (.int .i64 e) by simp [go_sem])
  have c21 := ((bcell hb2).1 w.heap.size 1 (by simp)).trans (show _ = some (.slice a X.length c) by simp [go_sem])
  clear hb2
  go_wp2_with fail
  refine (long11_any e a c X w2 (HS.out.below (Nat.le_refl _) HB2.out)).mono ?_
  rintro en w3 ⟨rfl, hb3⟩
  have HB3 := Lib.hid' (HB2.out.trans (hb3.mono (by omega)))
  have hz3 : w.heap.size < w3.heap.size := Nat.lt_of_lt_of_le hz2 hb3.size
  have c30 := (hb3.cell (p := ⟨w.heap.size, 0, none⟩) hz2).trans c20
  have c31 := (hb3.cell (p := ⟨w.heap.size, 1, none⟩) hz2).trans c21
  clear hb3 c20 c21 HB2 hz2
  cases hlo : long11 X with
  | true =>
    clear hlo
    go_wp2
    go_ret
    exact ⟨rfl, HB3.out⟩
  | false =>
  have HFL := Lib.hid' (long11_flat hlo)
  clear hlo
  have HFT := Lib.hid' (show (flatC X).length ≤ 1048576 by have := HFL.out.1; omega)
  go_wp2_with fail
  refine (doc11_any e a c X w3).mono ?_
  rintro en w4 ⟨rfl, hb4⟩
  have HB4 := Lib.hid' (HB3.out.trans (hb4.mono (by omega)))
  have c40 := (hb4.cell (p := ⟨w.heap.size, 0, none⟩) hz3).trans c30
  have c41 := (hb4.cell (p := ⟨w.heap.size, 1, none⟩) hz3).trans c31
  have hz4 := Nat.lt_of_lt_of_le hz3 hb4.size
  clear hb4 c30 c31 HB3 hz3
  unfold pjV
  go_wp2_with fail
  have HM5 := Lib.hid' (show BoxW w4.heap.size [.int .i64 e, .slice a X.length c] 27 (w4.alloc (.cells #[.int .i64 e, .slice a X.length c] 27)) from BoxW.start _ _ _)
  have hg5 : Below w4.heap.size w4 (w4.alloc (.cells #[.int .i64 e, .slice a X.length c] 27)) := by go_grown
  have HB5 := Lib.hid' (HB4.out.trans (hg5.mono (by omega)))
  have c50 := (hg5.cell (p := ⟨w.heap.size, 0, none⟩) hz4).trans c40
  have c51 := (hg5.cell (p := ⟨w.heap.size, 1, none⟩) hz4).trans c41
  have hz5 := Nat.lt_of_lt_of_le hz4 hg5.size
  clear hg5 c40 c41 HB4 hz4
  generalize w4.alloc (.cells #[.int .i64 e, .slice a X.length c] 27) = w5 at *
  generalize w4.heap.size = Nm at *
  obtain ⟨ck, hck⟩ : ∃ n, n = (docJ e X).check := ⟨_, rfl⟩
  have HCK := Lib.hid' hck
  clear hck
  have hrc := rcheck11_any e a c X w5 (HS.out.below (Nat.le_refl _) HB5.out) (by have := HFT.out; omega)
  rw [← HCK.out] at hrc
  refine hrc.mono ?_
  clear hrc
  rintro en w6 ⟨rfl, hb6⟩
  have HM6 := Lib.hid' (HM5.out.below (Nat.le_refl _) hb6)
  have HB6 := Lib.hid' (HB5.out.trans (hb6.mono (by omega)))
  have c60 := (hb6.cell (p := ⟨w.heap.size, 0, none⟩) hz5).trans c50
  have c61 := (hb6.cell (p := ⟨w.heap.size, 1, none⟩) hz5).trans c51
  have hz6 := Nat.lt_of_lt_of_le hz5 hb6.size
  clear hb6 c50 c51 HB5 HM5 hz5
  go_wp2_with fail
  obtain ⟨⟨hm, hn⟩, hr⟩ : ∃ r, r = (docJ e X).home ad := ⟨_, rfl⟩
  have HHM := Lib.hid' hr
  clear hr
  have hho := phome_any e a c X ad w6 (HS.out.below (Nat.le_refl _) HB6.out) (by have := HFT.out; omega)
  rw [← HHM.out] at hho
  refine hho.mono ?_
  clear hho
  rintro en w7 ⟨rfl, hb7⟩
  have HM7 := Lib.hid' (HM6.out.below (Nat.le_refl _) hb7)
  have HB7 := Lib.hid' (HB6.out.trans (hb7.mono (by omega)))
  have c70 := (hb7.cell (p := ⟨w.heap.size, 0, none⟩) hz6).trans c60
  have c71 := (hb7.cell (p := ⟨w.heap.size, 1, none⟩) hz6).trans c61
  have hz7 := Nat.lt_of_lt_of_le hz6 hb7.size
  clear hb7 c60 c61 HB6 HM6 hz6
  simp only
  go_wp2_with fail
  have hpp := pput_any e a c X w7 (HS.out.below (Nat.le_refl _) HB7.out) (by have := HFT.out; omega)
  unfold PPutR at hpp
  rw [← HCK.out] at hpp
  obtain ⟨pb, hpb⟩ : ∃ l, l = (docJ e X).putB := ⟨_, rfl⟩
  have HPB := Lib.hid' hpb
  rw [← hpb] at hpp
  clear hpb
  refine hpp.mono ?_
  clear hpp
  rintro en w8 ⟨a8, c8, rfl, ho8, hb8⟩
  have HY8 := Lib.hid' (own_base (B' := w.heap.size) ho8 (by omega))
  have HM8 := Lib.hid' (HM7.out.below (Nat.le_refl _) hb8)
  have HB8 := Lib.hid' (HB7.out.trans (hb8.mono (by omega)))
  have c80 := (hb8.cell (p := ⟨w.heap.size, 0, none⟩) hz7).trans c70
  have c81 := (hb8.cell (p := ⟨w.heap.size, 1, none⟩) hz7).trans c71
  have hz8 := Nat.lt_of_lt_of_le hz7 hb8.size
  clear hb8 ho8 c70 c71 HB7 HM7 hz7
  go_upto_region 9 with fail
  have m0 := HM8.out.box.1 0 _ rfl
  have m1 := HM8.out.box.1 1 _ rfl
  have hml := HM8.out.lt
  have hne : ((ck : Int) != (ck : Int)) = false := by simp
  refine wp_region_held_drew (S := (fun w' => w'.cell? ⟨w.heap.size, 0, none⟩ = some (.int .i64 e) ∧ w'.cell? ⟨w.heap.size, 1, none⟩ = some (.slice a X.length c) ∧ w'.cell? ⟨Nm, 0, none⟩ = some (.int .i64 e) ∧ w'.cell? ⟨Nm, 1, none⟩ = some (.slice a X.length c))) (by kernel_rfl) ⟨by simpa using c80, by simpa using c81, by simpa using m0, by simpa using m1⟩ (fun hH0 => ?_)
  refine wpAnyH_take (i := 0) (oi := _) (v := .agg #[.int .i64 e, .slice a X.length c]) rfl (by kernel_rfl) (by kernel_rfl) (by kernel_rfl) (fun _ _ _ h => h) (Or.inl ⟨by rfl, ?_⟩) hH0 ?_
  · intro w hSw; go_simp
  simp only [Act.put, List.getElem_toArray, List.getElem_cons_zero, List.getElem_cons_succ, List.setIfInBounds_toArray, List.set_cons_zero, List.set_cons_succ]
  refine wpAnyH_take (i := 3) (oi := _) (v := .int .i64 (ck : Int)) rfl (by kernel_rfl) (by kernel_rfl) (by kernel_rfl) (fun _ _ _ h => h) (Or.inl ⟨by rfl, ?_⟩) hH0 ?_
  · intro w hSw; go_simp
  simp only [Act.put, List.getElem_toArray, List.getElem_cons_zero, List.getElem_cons_succ, List.setIfInBounds_toArray, List.set_cons_zero, List.set_cons_succ]
  refine wpAnyH_ready (rs := [1]) (by kernel_rfl) (by simp) (AllReadyH.cons (o := _) rfl (fun K hK => ?_) AllReadyH.nil)
  go_simp
  have hcc := pcheck_any e a c X _ (HS.out.below (Nat.le_refl _) (HB8.out.trans ((show Below w8.heap.size w8 _ from (Below.drew (Below.refl _ _))).mono HB8.out.size))) (by have := HFT.out; omega)
  rw [← HCK.out] at hcc
  refine hcc.mono ?_
  clear hcc
  rintro en wc1 ⟨rfl, hbc⟩
  have HC1 := Lib.hid' (show Below w8.heap.size w8 wc1 from (Below.drew (Below.refl _ _)).trans (hbc.mono (Nat.le_refl _)))
  clear hbc
  refine hK.out _ _ ?_ (fun hH1 => ?_)
  · exact ⟨(HC1.out.cell (p := ⟨w.heap.size, 0, none⟩) hz8).trans c80, (HC1.out.cell (p := ⟨w.heap.size, 1, none⟩) hz8).trans c81, (HC1.out.cell (p := ⟨Nm, 0, none⟩) hml).trans m0, (HC1.out.cell (p := ⟨Nm, 1, none⟩) hml).trans m1⟩
  clear hK K
  refine wpAnyH_ready (rs := [2]) (by kernel_rfl) (by simp) (AllReadyH.cons (o := _) rfl (fun K hK => ?_) AllReadyH.nil)
  go_simp
  refine (num_any ck _).mono ?_
  rintro en wc2 ⟨rfl, hwc⟩
  have HC2 := Lib.hid' (show Below w8.heap.size w8 wc2 from hwc ▸ HC1.out)
  clear hwc
  refine hK.out _ _ ?_ (fun hH2 => ?_)
  · exact ⟨(HC2.out.cell (p := ⟨w.heap.size, 0, none⟩) hz8).trans c80, (HC2.out.cell (p := ⟨w.heap.size, 1, none⟩) hz8).trans c81, (HC2.out.cell (p := ⟨Nm, 0, none⟩) hml).trans m0, (HC2.out.cell (p := ⟨Nm, 1, none⟩) hml).trans m1⟩
  clear hK K
  refine wpAnyH_take (i := 4) (oi := _) (v := .bool false) rfl (by kernel_rfl) (by kernel_rfl) (by kernel_rfl) (fun _ _ _ h => h) (Or.inl ⟨by rfl, ?_⟩) hH2 ?_
  · intro w hSw; go_simp
  simp only [Act.put, List.getElem_toArray, List.getElem_cons_zero, List.getElem_cons_succ, List.setIfInBounds_toArray, List.set_cons_zero, List.set_cons_succ]
  refine wpAnyH_take (i := 5) (oi := _) (v := .bool false) rfl (by kernel_rfl) (by kernel_rfl) (by kernel_rfl) (fun _ _ _ h => h) (Or.inl ⟨by rfl, ?_⟩) hH2 ?_
  · intro w hSw; go_simp
  simp only [Act.put, List.getElem_toArray, List.getElem_cons_zero, List.getElem_cons_succ, List.setIfInBounds_toArray, List.set_cons_zero, List.set_cons_succ]
  refine wpAnyH_take (i := 6) (oi := _) (v := errV ck) rfl (by kernel_rfl) (by kernel_rfl) (by kernel_rfl) (fun _ _ _ h => h) (Or.inl ⟨by rfl, ?_⟩) hH2 ?_
  · intro w hSw; go_simp
  simp only [Act.put, List.getElem_toArray, List.getElem_cons_zero, List.getElem_cons_succ, List.setIfInBounds_toArray, List.set_cons_zero, List.set_cons_succ]
  refine wpAnyH_take (i := 8) (oi := _) (v := .int .i64 (ck : Int)) rfl (by kernel_rfl) (by kernel_rfl) (by kernel_rfl) (fun _ _ _ h => h) (Or.inl ⟨by rfl, ?_⟩) hH2 ?_
  · intro w hSw; go_simp
  simp only [Act.put, List.getElem_toArray, List.getElem_cons_zero, List.getElem_cons_succ, List.setIfInBounds_toArray, List.set_cons_zero, List.set_cons_succ]
  refine wpAnyH_ready (rs := [7]) (by kernel_rfl) (by simp) (AllReadyH.cons (o := _) rfl (fun K hK => ?_) AllReadyH.nil)
  go_simp
  refine (num_any ck _).mono ?_
  rintro en wc3 ⟨rfl, hwc⟩
  have HC3 := Lib.hid' (show Below w8.heap.size w8 wc3 from hwc ▸ HC2.out)
  clear hwc
  refine hK.out _ _ ?_ (fun hH3 => ?_)
  · exact ⟨(HC3.out.cell (p := ⟨w.heap.size, 0, none⟩) hz8).trans c80, (HC3.out.cell (p := ⟨w.heap.size, 1, none⟩) hz8).trans c81, (HC3.out.cell (p := ⟨Nm, 0, none⟩) hml).trans m0, (HC3.out.cell (p := ⟨Nm, 1, none⟩) hml).trans m1⟩
  clear hK K
  refine wpAnyH_take (i := 9) (oi := _) (v := .bool false) rfl (by kernel_rfl) (by kernel_rfl) (by kernel_rfl) (fun _ _ _ h => h) (Or.inl ⟨by rfl, ?_⟩) hH3 ?_
  · intro w hSw; go_simp
  simp only [Act.put, List.getElem_toArray, List.getElem_cons_zero, List.getElem_cons_succ, List.setIfInBounds_toArray, List.set_cons_zero, List.set_cons_succ]
  refine wpAnyH_take (i := 10) (oi := _) (v := .bool false) rfl (by kernel_rfl) (by kernel_rfl) (by kernel_rfl) (fun _ _ _ h => h) (Or.inl ⟨by rfl, ?_⟩) hH3 ?_
  · intro w hSw; go_simp
  simp only [Act.put, List.getElem_toArray, List.getElem_cons_zero, List.getElem_cons_succ, List.setIfInBounds_toArray, List.set_cons_zero, List.set_cons_succ]
  refine wpAnyH_take (i := 11) (oi := _) (v := .bool false) rfl (by kernel_rfl) (by kernel_rfl) (by kernel_rfl) (fun _ _ _ h => h) (Or.inl ⟨by rfl, ?_⟩) hH3 ?_
  · intro w hSw; go_simp
  simp only [Act.put, List.getElem_toArray, List.getElem_cons_zero, List.getElem_cons_succ, List.setIfInBounds_toArray, List.set_cons_zero, List.set_cons_succ]
  refine wpAnyH_take (i := 12) (oi := _) (v := .agg #[.int .i64 e, .slice a X.length c]) rfl (by kernel_rfl) (by kernel_rfl) (by kernel_rfl) (fun _ _ _ h => h) (Or.inl ⟨by rfl, ?_⟩) hH3 ?_
  · intro w hSw; go_simp
  simp only [Act.put, List.getElem_toArray, List.getElem_cons_zero, List.getElem_cons_succ, List.setIfInBounds_toArray, List.set_cons_zero, List.set_cons_succ]
  refine wpAnyH_take (i := 14) (oi := _) (v := .agg #[.int .i64 e, .slice a X.length c]) rfl (by kernel_rfl) (by kernel_rfl) (by kernel_rfl) (fun _ _ _ h => h) (Or.inl ⟨by rfl, ?_⟩) hH3 ?_
  · intro w hSw; go_simp
  simp only [Act.put, List.getElem_toArray, List.getElem_cons_zero, List.getElem_cons_succ, List.setIfInBounds_toArray, List.set_cons_zero, List.set_cons_succ]
  refine wpAnyH_ready (rs := [13]) (by kernel_rfl) (by simp) (AllReadyH.cons (o := _) rfl (fun K hK => ?_) AllReadyH.nil)
  go_simp
  refine (punits_any e a c X _ (HS.out.below (Nat.le_refl _) (HB8.out.trans ((show Below w8.heap.size w8 _ from HC3.out).mono HB8.out.size))) (by have := HFT.out; omega)).mono ?_
  rintro en wc4 ⟨ua, uc, rfl, hou, hbc⟩
  have HZ1 := Lib.hid' (show Zs wc4 (.slice ua (unitsOf (flatC X)).length uc) (unitsOf (flatC X)) from SlV.of_own hou)
  have HC4 := Lib.hid' (show Below w8.heap.size w8 wc4 from HC3.out.trans (hbc.mono HC3.out.size))
  clear hou hbc
  refine hK.out _ _ ?_ (fun hH4 => ?_)
  · exact ⟨(HC4.out.cell (p := ⟨w.heap.size, 0, none⟩) hz8).trans c80, (HC4.out.cell (p := ⟨w.heap.size, 1, none⟩) hz8).trans c81, (HC4.out.cell (p := ⟨Nm, 0, none⟩) hml).trans m0, (HC4.out.cell (p := ⟨Nm, 1, none⟩) hml).trans m1⟩
  clear hK K
  refine wpAnyH_ready (rs := [15]) (by kernel_rfl) (by simp) (AllReadyH.cons (o := _) rfl (fun K hK => ?_) AllReadyH.nil)
  go_simp
  refine (runits11_any e a c X _ (HS.out.below (Nat.le_refl _) (HB8.out.trans ((show Below w8.heap.size w8 _ from HC4.out).mono HB8.out.size))) HFT.out).mono ?_
  rintro en wc5 ⟨va, vc, rfl, hou, hbc⟩
  have HZ2 := Lib.hid' (show Zs wc5 (.slice va (unitsOf (flatC X)).length vc) (unitsOf (flatC X)) from SlV.of_own hou)
  have HZ3 := Lib.hid' (show Zs wc5 (.slice ua (unitsOf (flatC X)).length uc) (unitsOf (flatC X)) from SlV.below HZ1.out (Nat.le_refl _) hbc)
  have HC5 := Lib.hid' (show Below w8.heap.size w8 wc5 from HC4.out.trans (hbc.mono HC4.out.size))
  clear hou hbc
  refine hK.out _ _ ?_ (fun hH5 => ?_)
  · exact ⟨(HC5.out.cell (p := ⟨w.heap.size, 0, none⟩) hz8).trans c80, (HC5.out.cell (p := ⟨w.heap.size, 1, none⟩) hz8).trans c81, (HC5.out.cell (p := ⟨Nm, 0, none⟩) hml).trans m0, (HC5.out.cell (p := ⟨Nm, 1, none⟩) hml).trans m1⟩
  clear hK K
  refine wpAnyH_ready (rs := [16]) (by kernel_rfl) (by simp) (AllReadyH.cons (o := _) rfl (fun K hK => ?_) AllReadyH.nil)
  go_simp
  have hii := ints_any (unitsOf (flatC X)) (unitsOf (flatC X)) ua va uc vc _ HZ3.out HZ2.out
  rw [show (unitsOf (flatC X) == unitsOf (flatC X)) = true by simp] at hii
  refine hii.mono ?_
  clear hii
  rintro en wc6 ⟨rfl, hbc⟩
  have HC6 := Lib.hid' (show Below w8.heap.size w8 wc6 from HC5.out.trans (hbc.mono HC5.out.size))
  clear hbc
  refine hK.out _ _ ?_ (fun hH6 => ?_)
  · exact ⟨(HC6.out.cell (p := ⟨w.heap.size, 0, none⟩) hz8).trans c80, (HC6.out.cell (p := ⟨w.heap.size, 1, none⟩) hz8).trans c81, (HC6.out.cell (p := ⟨Nm, 0, none⟩) hml).trans m0, (HC6.out.cell (p := ⟨Nm, 1, none⟩) hml).trans m1⟩
  clear hK K
  refine wpAnyH_take (i := 17) (oi := _) (v := .bool false) rfl (by kernel_rfl) (by kernel_rfl) (by kernel_rfl) (fun _ _ _ h => h) (Or.inl ⟨by rfl, ?_⟩) hH6 ?_
  · intro w hSw; go_simp
  simp only [Act.put, List.getElem_toArray, List.getElem_cons_zero, List.getElem_cons_succ, List.setIfInBounds_toArray, List.set_cons_zero, List.set_cons_succ]
  refine wpAnyH_take (i := 18) (oi := _) (v := .bool false) rfl (by kernel_rfl) (by kernel_rfl) (by kernel_rfl) (fun _ _ _ h => h) (Or.inl ⟨by rfl, ?_⟩) hH6 ?_
  · intro w hSw; go_simp
  simp only [Act.put, List.getElem_toArray, List.getElem_cons_zero, List.getElem_cons_succ, List.setIfInBounds_toArray, List.set_cons_zero, List.set_cons_succ]
  refine wpAnyH_done (by kernel_rfl) ?_ _
  have HB9 := Lib.hid' (HB8.out.trans (HC6.out.mono HB8.out.size))
  have HM9 := Lib.hid' (HM8.out.below (Nat.le_refl _) HC6.out)
  have HY9 := Lib.hid' (own_below HY8.out (Nat.le_refl _) HC6.out)
  have c90 := (HC6.out.cell (p := ⟨w.heap.size, 0, none⟩) hz8).trans c80
  have c91 := (HC6.out.cell (p := ⟨w.heap.size, 1, none⟩) hz8).trans c81
  have hz9 := Nat.lt_of_lt_of_le hz8 HC6.out.size
  clear HC1 HC2 HC3 HC4 HC5 HC6 HZ1 HZ2 HZ3 c80 c81 hz8 m0 m1 hml HM8 HB8 HY8
  go_wp2_with fail
  refine (pcopy_any e a c X wc6 (HS.out.below (Nat.le_refl _) HB9.out) (by have := HFL.out.2.1; omega) (fun x hx => by have := HFL.out.2.2 x hx; omega)).mono ?_
  rintro en w10 ⟨a2, c2, K0, rfl, ho10, hk10, hb10⟩
  have HJ10 := Lib.hid' ho10
  have HKX := Lib.hid' hk10
  have HM10 := Lib.hid' (HM9.out.below (Nat.le_refl _) hb10)
  have HY10 := Lib.hid' (own_below HY9.out (Nat.le_refl _) hb10)
  have HB10 := Lib.hid' (HB9.out.trans (hb10.mono (by omega)))
  have d0 := (hb10.cell (p := ⟨w.heap.size, 0, none⟩) hz9).trans c90
  have d1 := (hb10.cell (p := ⟨w.heap.size, 1, none⟩) hz9).trans c91
  have hz10 := Nat.lt_of_lt_of_le hz9 hb10.size
  have hz96 : w.heap.size + 1 ≤ wc6.heap.size := by omega
  clear hb10 ho10 hk10 c90 c91 HB9 HM9 HY9 hz9
  unfold pjV
  go_wp2_with fail
  have HX11 := Lib.hid' (show BoxW w10.heap.size [.int .i64 e, .slice a2 K0.length c2] 24 (w10.alloc (.cells #[.int .i64 e, .slice a2 K0.length c2] 24)) from BoxW.start _ _ _)
  have hg : Below w10.heap.size w10 (w10.alloc (.cells #[.int .i64 e, .slice a2 K0.length c2] 24)) := by go_grown
  have HJ11 := Lib.hid' ((HJ10.out.below (Nat.le_refl _) hg).base (B' := w.heap.size + 1) hz96)
  have HM11 := Lib.hid' (HM10.out.below (Nat.le_refl _) hg)
  have HY11 := Lib.hid' (own_below HY10.out (Nat.le_refl _) hg)
  have HB11 := Lib.hid' (HB10.out.trans (hg.mono (by omega)))
  have e0 := (hg.cell (p := ⟨w.heap.size, 0, none⟩) hz10).trans d0
  have e1 := (hg.cell (p := ⟨w.heap.size, 1, none⟩) hz10).trans d1
  have hz11 := Nat.lt_of_lt_of_le hz10 hg.size
  clear hg d0 d1 hz10 HB10 HY10 HM10 HJ10
  generalize w10.alloc (.cells #[.int .i64 e, .slice a2 K0.length c2] 24) = w11 at *
  generalize w10.heap.size = Nc at *
  have hsm := psame_any e e a2 a c2 c K0 X w11 HJ11.out.chs (HS.out.below (Nat.le_refl _) HB11.out)
  rw [show sameJ (docJ e K0) (docJ e X) = true by unfold docJ; rw [HKX.out]; simp [sameJ]] at hsm
  refine hsm.mono ?_
  clear hsm
  rintro en w12 ⟨rfl, hb12⟩
  have HX12 := Lib.hid' (HX11.out.below (Nat.le_refl _) hb12)
  have HJ12 := Lib.hid' (HJ11.out.below (Nat.le_refl _) hb12)
  have HM12 := Lib.hid' (HM11.out.below (Nat.le_refl _) hb12)
  have HY12 := Lib.hid' (own_below HY11.out (Nat.le_refl _) hb12)
  have HB12 := Lib.hid' (HB11.out.trans (hb12.mono (by omega)))
  have f0 := (hb12.cell (p := ⟨w.heap.size, 0, none⟩) hz11).trans e0
  have f1 := (hb12.cell (p := ⟨w.heap.size, 1, none⟩) hz11).trans e1
  have hz12 := Nat.lt_of_lt_of_le hz11 hb12.size
  clear hb12 e0 e1 hz11 HB11 HY11 HM11 HJ11 HX11
  by_cases hc : ck = 0
  rotate_left
  · have HH := Lib.hid' (show hm = 0 ∧ hn = ck from by
      have := HHM.out; rw [home_bad (by rw [← HCK.out]; exact hc), ← HCK.out] at this; simpa using this)
    have HP0 := Lib.hid' (show pb = [] from by rw [HPB.out]; unfold Pj.putB; rw [if_pos (by rw [← HCK.out]; exact hc)])
    obtain ⟨rfl, rfl⟩ := HH.out
    have hbl : ((pb.length : Int) == 0) = true := by rw [HP0.out]; rfl
    have hcb : ((hn : Int) != 0) = true := by rw [bne_iff_ne]; omega
    clear hc
    go_wp2_with (go_at_call 15; refine (num_any hn _).mono ?_; rintro en w' ⟨rfl, rfl⟩)
    go_ret
    exact ⟨rfl, HB12.out⟩
  subst hc
  have HC0 := Lib.hid' (show (docJ e X).check = 0 from HCK.out.symm)
  have HOK := Lib.hid' (Pj.ok_of HC0.out)
  obtain ⟨x, l, ra, rc, K, hK0⟩ : ∃ (x : Int) (l : List Int) (ra : Option Addr) (rc : Nat) (K : List Ch), K0 = (x :: l, ra, rc) :: K := by
    match K0, HKX.out with
    | [], h =>
      exfalso
      have h1 := HOK.out.n0
      unfold docJ at h1
      rw [← h] at h1
      simp at h1
    | (z, ra, rc) :: K, h =>
      have h1 := HOK.out.c z (by unfold docJ; rw [← h]; exact List.mem_cons_self)
      match z, h1 with
      | [], h1 => simp at h1
      | x :: l, _ => exact ⟨x, l, ra, rc, K, rfl⟩
  subst hK0
  have hx8 : 0 ≤ x ∧ x < 8 := HOK.out.u x (by unfold docJ Pj.all; rw [← HKX.out]; simp)
  obtain ⟨g, rfl, _, hgl, hcg, _⟩ := HJ12.out.at (i := 0) (by simp)
  obtain ⟨q, rfl, hBq, hql, hcq, hfq, hch⟩ := HJ12.out.bump (x + 1)
  simp only [List.getElem_cons_zero] at hcg
  have x1 := HX12.out.box.1 1 _ rfl
  have x0 := HX12.out.box.1 0 _ rfl
  have hxl := HX12.out.lt
  have HCH := Lib.hid' hch
  clear hch
  have HROW := Lib.hid' (HJ12.out.each _ List.mem_cons_self)
  have hqN : q ≠ Nc := fun hq => own_not_box (v := .slice (some ⟨q, 0, none⟩) (x :: l).length rc) HROW.out HX12.out (by decide) (by rw [← hq]; rfl)
  have hqm : q ≠ Nm := fun hq => own_not_box (v := .slice (some ⟨q, 0, none⟩) (x :: l).length rc) HROW.out HM12.out (by decide) (by rw [← hq]; rfl)
  have hqy : q ≠ w.heap.size := by omega
  go_upto_region 17 with fail
  have HB13 := Lib.hid' (show Below w.heap.size w (w12.setCell ⟨q, 0, none⟩ (.int .i64 (x + 1))) from HB12.out.setCell (by simp; omega) _)
  have HX13 := Lib.hid' (show BoxW Nc [.int .i64 e, .slice (some ⟨g, 0, none⟩) ((x :: l, some ⟨q, 0, none⟩, rc) :: K).length c2] 24 (w12.setCell ⟨q, 0, none⟩ (.int .i64 (x + 1))) from HX12.out.fr (fr_set _ _ _ _) (fun hq => hqN hq.symm))
  have HM13 := Lib.hid' (show BoxW Nm [.int .i64 e, .slice a X.length c] 27 (w12.setCell ⟨q, 0, none⟩ (.int .i64 (x + 1))) from HM12.out.fr (fr_set _ _ _ _) (fun hq => hqm hq.symm))
  have HY13 := Lib.hid' (show (w12.setCell ⟨q, 0, none⟩ (.int .i64 (x + 1))).ownsRow w.heap.size 5 1 (.slice a8 pb.length c8) pb.length (byteVs pb) from
    own_fr HY12.out ((fr_set w12 q 0 _).mono (F' := fun k => (Value.slice (some ⟨q, 0, none⟩) (x :: l).length rc).ownBlock = some k) (fun k hk => by subst hk; rfl)) (own_apart HY12.out (v' := .slice (some ⟨q, 0, none⟩) (x :: l).length rc) HROW.out (by decide)))
  have g0 := (World.cell?_setCell_far w12 ⟨q, 0, none⟩ ⟨w.heap.size, 0, none⟩ (.int .i64 (x + 1)) hqy).trans f0
  have g1 := (World.cell?_setCell_far w12 ⟨q, 0, none⟩ ⟨w.heap.size, 1, none⟩ (.int .i64 (x + 1)) hqy).trans f1
  have hz13 : w.heap.size < (w12.setCell ⟨q, 0, none⟩ (.int .i64 (x + 1))).heap.size := by simpa using hz12
  clear f0 f1 hz12 HB12 HX12 HM12 HY12 HJ12 x0 x1 hxl hcg hcq hfq hql HROW
  generalize w12.setCell ⟨q, 0, none⟩ (.int .i64 (x + 1)) = w13 at *
  have x0 := HX13.out.box.1 0 _ rfl
  have x1 := HX13.out.box.1 1 _ rfl
  have hxl := HX13.out.lt
  have hsm := psame_any e e (some ⟨g, 0, none⟩) a c2 c (((x + 1) :: l, some ⟨q, 0, none⟩, rc) :: K) X w13 HCH.out (HS.out.below (Nat.le_refl _) HB13.out)
  rw [show sameJ (docJ e (((x + 1) :: l, some ⟨q, 0, none⟩, rc) :: K)) (docJ e X) = false by unfold docJ; rw [← HKX.out]; simp [sameJ]; omega] at hsm
  have HSM := Lib.hid' hsm
  clear hsm
  go_wp2_with fail
  refine HSM.out.mono ?_
  clear HSM
  rintro en w14 ⟨rfl, hb14⟩
  have HM14 := Lib.hid' (HM13.out.below (Nat.le_refl _) hb14)
  have HY14 := Lib.hid' (own_below HY13.out (Nat.le_refl _) hb14)
  have HB14 := Lib.hid' (HB13.out.trans (hb14.mono (by omega)))
  have i0 := (hb14.cell (p := ⟨w.heap.size, 0, none⟩) hz13).trans g0
  have i1 := (hb14.cell (p := ⟨w.heap.size, 1, none⟩) hz13).trans g1
  have hz14 := Nat.lt_of_lt_of_le hz13 hb14.size
  clear hb14 g0 g1 hz13 HB13 HX13 HM13 HY13 HCH x0 x1 hxl
  have m0 := HM14.out.box.1 0 _ rfl
  have m1 := HM14.out.box.1 1 _ rfl
  have hml := HM14.out.lt
  have hrp := rput11_any e a c X w14 (HS.out.below (Nat.le_refl _) HB14.out) HC0.out
  rw [← HPB.out] at hrp
  have HRP := Lib.hid' hrp
  clear hrp
  go_wp2_with fail
  refine HRP.out.mono ?_
  clear HRP
  rintro en w15 ⟨a15, c15, rfl, ho15, hb15⟩
  have hnb := numBytes_any (.slice a8 pb.length c8) (.slice a15 pb.length c15) pb pb w15 (SlV.of_own (own_below HY14.out (Nat.le_refl _) hb15)) (SlV.of_own ho15)
  rw [show (pb == pb) = true by simp] at hnb
  have HNB := Lib.hid' hnb
  have HB15 := Lib.hid' (HB14.out.trans (hb15.mono (by omega)))
  have k0 := (hb15.cell (p := ⟨w.heap.size, 0, none⟩) hz14).trans i0
  have k1 := (hb15.cell (p := ⟨w.heap.size, 1, none⟩) hz14).trans i1
  have hz15 := Nat.lt_of_lt_of_le hz14 hb15.size
  clear hnb ho15 hb15 i0 i1 hz14 HB14 HM14 HY14 m0 m1 hml
  go_wp2_with fail
  refine HNB.out.mono ?_
  rintro en wq ⟨rfl, rfl⟩
  clear HNB
  by_cases hout : ad < 0 ∨ 1048576 ≤ ad
  · have HH := Lib.hid' (show hm = 0 ∧ hn = 1 from by
      have := HHM.out; rw [home_out HC0.out hout] at this; simpa using this)
    obtain ⟨rfl, rfl⟩ := HH.out
    have hia := is_any 1 1 w15
    rw [show (((1 : Nat) : Int) == 1) = true from rfl] at hia
    have HIA := Lib.hid' hia
    clear hia
    rcases hout with h1 | h1
    · go_wp2_with fail
      refine HIA.out.mono ?_
      rintro en wq ⟨rfl, rfl⟩
      go_wp2
      go_ret
      exact ⟨rfl, HB15.out⟩
    · have h2 : ¬ ad < 0 := by omega
      have h3 : 1048575 < ad := by omega
      go_wp2_with fail
      refine HIA.out.mono ?_
      rintro en wq ⟨rfl, rfl⟩
      go_wp2
      go_ret
      exact ⟨rfl, HB15.out⟩
  · have HH := Lib.hid' (show hm = ad.tmod X.length ∧ hn = 0 from by
      have := HHM.out; rw [home_in HC0.out hout] at this
      simp only [Prod.mk.injEq] at this
      refine ⟨?_, this.2⟩
      rw [this.1]; unfold docJ; simp)
    obtain ⟨rfl, rfl⟩ := HH.out
    have h1 : ¬ ad < 0 := by omega
    have h2 : ¬ 1048575 < ad := by omega
    have hX0 : 0 < X.length := by have := HOK.out.n0; unfold docJ at this; simpa using this
    have hX12 := HFL.out.2.1
    clear hout
    rw [errV_0]
    go_wp2
    go_ret
    exact ⟨rfl, HB15.out⟩
end Go.Proofs.YtjkbcjliaacebaaGreat
