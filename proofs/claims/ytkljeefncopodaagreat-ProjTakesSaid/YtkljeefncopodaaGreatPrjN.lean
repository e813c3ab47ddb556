/- Layer 11 (proj): what follows a projection. -/
import Derived.Test.YtkljeefncopodaaGreatPrjC
namespace Go.Proofs.YtkljeefncopodaaGreat
open Go.RowKit
set_option linter.unusedSimpArgs false
set_option linter.unusedVariables false
set_option maxRecDepth 100000

/- plain -/
def stepL (D : List Int) (L : List (List Int)) (k : Nat) : List (List Int) := (L.take k).map (liveC D) ++ L.drop k
theorem stepL_zero (D : List Int) (L : List (List Int)) : stepL D L 0 = L := by simp [stepL]
theorem stepL_all (D : List Int) (L : List (List Int)) : stepL D L L.length = L.map (liveC D) := by simp [stepL]
theorem stepL_get {D : List Int} {L : List (List Int)} {k : Nat} (hk : k < L.length) : (stepL D L k)[k]? = some L[k] := by
  unfold stepL
  rw [List.getElem?_append_right (by simp; omega)]
  have e : k - (List.map (liveC D) (List.take k L)).length = 0 := by simp; omega
  rw [e, List.getElem?_drop, Nat.add_zero, List.getElem?_eq_getElem hk]
theorem stepL_set {D : List Int} {L : List (List Int)} {k : Nat} (hk : k < L.length) : (stepL D L k).set k (liveC D L[k]) = stepL D L (k + 1) := by
  unfold stepL
  rw [List.set_append_right _ _ (by simp; omega), List.take_succ_eq_append_getElem hk, List.drop_eq_getElem_cons hk]
  have e : k - (List.map (liveC D) (List.take k L)).length = 0 := by simp; omega
  rw [e, List.set_cons_zero, List.map_append, List.append_assoc]; rfl
theorem fill_next {D S : List Int} {L : List (List Int)} {k : Nat} (hk : k < L.length) (cs : List (List Int)) : fillC D S (L.drop k) k cs = fillC D S (L.drop (k + 1)) (k + 1) (S.foldl (spareStep D k L[k].length) cs) := by
  rw [List.drop_eq_getElem_cons hk]; rfl
theorem fill_end {D S : List Int} {L : List (List Int)} (cs : List (List Int)) : fillC D S (L.drop L.length) L.length cs = cs := by rw [List.drop_length]; rfl
theorem fold_next {D S : List Int} {i m : Nat} {j : Nat} (hj : j < S.length) (cs : List (List Int)) : (S.drop j).foldl (spareStep D i m) cs = (S.drop (j + 1)).foldl (spareStep D i m) (spareStep D i m cs S[j]) := by
  rw [List.drop_eq_getElem_cons hj]; rfl
theorem step_no1 {D : List Int} {i m : Nat} {cs : List (List Int)} {u : Int} (h : ¬ (cs.getD i []).length < m) : spareStep D i m cs u = cs := by unfold spareStep; rw [if_neg (fun h' => h h'.1)]
theorem step_no2 {D : List Int} {i m : Nat} {cs : List (List Int)} {u : Int} (h : D.contains u = true) : spareStep D i m cs u = cs := by unfold spareStep; rw [if_neg (fun h' => by rw [h] at h'; exact absurd h'.2.1 (by decide))]
theorem step_no3 {D : List Int} {i m : Nat} {cs : List (List Int)} {u : Int} (h : u ∈ cs.flatten) : spareStep D i m cs u = cs := by unfold spareStep; rw [if_neg (fun h' => h'.2.2 h)]
theorem step_yes {D : List Int} {i m : Nat} {cs : List (List Int)} {u : Int} (h : (cs.getD i []).length < m) (h2 : D.contains u = false) (h3 : u ∉ cs.flatten) : spareStep D i m cs u = cs.set i (cs.getD i [] ++ [u]) := by unfold spareStep; rw [if_pos ⟨h, h2, h3⟩]
theorem contains_any (D : List Int) (u : Int) : D.any (fun y => u == y) = D.contains u := (List.contains_eq_any_beq).symm
theorem flat_len4 {X : List Ch} (h : ∀ x ∈ X, x.1.length ≤ 4) : (flatC X).length ≤ 4 * X.length := by
  unfold flatC
  induction X with
  | nil => simp
  | cons x X ih =>
    have h1 := h x List.mem_cons_self
    have h2 := ih (fun y hy => h y (List.mem_cons_of_mem _ hy))
    simp only [List.map_cons, List.flatten_cons, List.length_append, List.length_cons]; omega

/- the function values of Next -/
theorem cf_gone (args : Array Value) (w : World) : (callFunc 89 args).run Tryz.prog w = .ok (.enter 89 args) w := by kernel_rfl
theorem cf_lost (args : Array Value) (w : World) : (callFunc 91 args).run Tryz.prog w = .ok (.enter 91 args) w := by kernel_rfl
theorem pgone_any (D : List Int) (da : Option Addr) (dc b : Nat) (x : Int) (w : World) (hc : w.cell? ⟨b, 0, none⟩ = some (.slice da D.length dc)) (hD : Zs w (.slice da D.length dc) D) :
    Calls Tryz.prog 89 #[.int .i64 x, .pointer (some ⟨b, 0, none⟩)] w fun e w' => e = .returned (.bool (D.contains x)) ∧ w = w' := by
  have HC := Lib.hid' (containsZ_any x D da dc w hD)
  have HA := Lib.hid' (contains_any D x)
  clear hD
  go_enter Tryz.func89, Tryz.ntmps89
  go_wp2_with fail
  refine HC.out.mono ?_
  rintro e w' ⟨rfl, rfl⟩
  rw [HA.out]
  obtain ⟨r, hr⟩ : ∃ r, r = D.contains x := ⟨_, rfl⟩
  have HR := Lib.hid' hr
  rw [← hr]
  clear hr
  go_wp2
  go_ret
  exact ⟨ret_eq (by rw [← HR.out]; rfl), rfl⟩
def lostN (n : Nat) : Bool := decide (n = 0)
theorem pred_lost : PredN 91 lostN := by
  intro a n c w hn
  cases h : decide (n = 0) with
  | true =>
    have h' : ((n : Int) == 0) = true := by simpa using h
    have H := Lib.hid' h
    clear h
    go_enter Tryz.func91, Tryz.ntmps91
    go_wp2
    go_ret
    exact ⟨ret_eq (by unfold lostN; rw [H.out]; rfl), rfl⟩
  | false =>
    have h' : ((n : Int) == 0) = false := by simpa using h
    have H := Lib.hid' h
    clear h
    go_enter Tryz.func91, Tryz.ntmps91
    go_wp2
    go_ret
    exact ⟨ret_eq (by unfold lostN; rw [H.out]; rfl), rfl⟩
theorem any_lost (K : List Ch) : K.any (fun x => lostN x.1.length) = (K.map (·.1)).any (·.isEmpty) := by
  rw [List.any_map]; congr 1; funext x; unfold lostN; simp only [Function.comp_apply]; cases x.1 <;> simp

/- what Next answers, case by case -/
theorem next_bad {p : Pj} {D S : List Int} (h : p.check ≠ 0) : p.next D S = (p.check, Pj.zero) := by unfold Pj.next; rw [if_pos h]
theorem next_1 {p : Pj} {D S : List Int} (h : p.check = 0) (h1 : D.any oddU = true ∨ S.any oddU = true) : p.next D S = (1, Pj.zero) := by unfold Pj.next; rw [if_neg (by simpa using h), if_pos h1]
theorem next_5 {p : Pj} {D S : List Int} (h : p.check = 0) (h1 : ¬ (D.any oddU = true ∨ S.any oddU = true)) (h2 : p.e = 1099511627776) : p.next D S = (5, Pj.zero) := by unfold Pj.next; rw [if_neg (by simpa using h), if_neg h1, if_pos h2]
theorem next_13 {p : Pj} {D S : List Int} (h : p.check = 0) (h1 : ¬ (D.any oddU = true ∨ S.any oddU = true)) (h2 : ¬ p.e = 1099511627776) (h3 : (p.cs.map (liveC D)).any (·.isEmpty) = true) : p.next D S = (13, Pj.zero) := by unfold Pj.next; rw [if_neg (by simpa using h), if_neg h1, if_neg h2, if_pos h3]
theorem next_0 {p : Pj} {D S : List Int} (h : p.check = 0) (h1 : ¬ (D.any oddU = true ∨ S.any oddU = true)) (h2 : ¬ p.e = 1099511627776) (h3 : ¬ (p.cs.map (liveC D)).any (·.isEmpty) = true) : p.next D S = (0, ⟨p.e + 1, fillC D S p.cs 0 (p.cs.map (liveC D))⟩) := by unfold Pj.next; rw [if_neg (by simpa using h), if_neg h1, if_neg h2, if_neg h3]

def NextR (r : Nat × Pj) (w : World) (en : Ending) (w' : World) : Prop :=
  ∃ e a c K, en = .returned (.tuple #[pjV e a c K, errV r.1]) ∧ docJ e K = r.2 ∧ OwnJ w' w.heap.size a c K ∧ Below w.heap.size w w'
set_option maxHeartbeats 8000000 in
theorem pnext_any (e : Int) (a : Option Addr) (c : Nat) (X : List Ch) (D S : List Int) (da sa : Option Addr) (dc sc : Nat) (w : World) (h : Chs w a c X) (ht : (flatC X).length ≤ 1099511627776)
    (hD : Zs w (.slice da D.length dc) D) (hS : Zs w (.slice sa S.length sc) S) :
    Calls Tryz.prog 34 #[pjV e a c X, .slice da D.length dc, .slice sa S.length sc] w (NextR ((docJ e X).next D S) w) := by
  have HS := Lib.hid' h
  have hlen := h.len
  have HD := Lib.hid' hD
  have HSP := Lib.hid' hS
  have hDl := hD.len
  have hSl := hS.len
  have hcf1 := cf_gone
  have hcf2 := cf_lost
  have hcf3 := cf_odd
  clear h hD hS
  have HV := Lib.hid' (show pjV e a c X = .agg #[.int .i64 e, .slice a X.length c] from rfl)
  rw [HV.out]
  obtain ⟨NX, hNX⟩ : ∃ NX, NX = (docJ e X).next D S := ⟨_, rfl⟩
  rw [← hNX]
  have HNX := Lib.hid' hNX
  clear hNX
  go_enter Tryz.func34, Tryz.ntmps34
  go_wp2_with fail
  obtain ⟨w3, hw3⟩ : ∃ w3, w3 = (((w.alloc (.cells #[.int .i64 e, .slice a X.length c] 25)).alloc (.cells #[.slice da D.length dc] 81)).alloc (.cells #[.int .i64 0, .slice none 0 0] 25)) := ⟨_, rfl⟩
  obtain ⟨N, hN⟩ : ∃ N, N = w.heap.size := ⟨_, rfl⟩
  have HZ := Lib.hid' (show w3.heap.size = N + 3 by rw [hw3, hN]; simp)
  have HB3 := Lib.hid' (show Below N w w3 by rw [hw3, hN]; go_grown)
  have HK := Lib.hid' (show (w3.cell? ⟨N, 0, none⟩ = some (.int .i64 e) ∧ w3.cell? ⟨N, 1, none⟩ = some (.slice a X.length c)) ∧ w3.cell? ⟨N + 1, 0, none⟩ = some (.slice da D.length dc) ∧ (w3.cell? ⟨N + 2, 0, none⟩ = some (.int .i64 0) ∧ w3.cell? ⟨N + 2, 1, none⟩ = some (.slice none 0 0) ∧ w3.frozen? ⟨N + 2, 0, none⟩ = false ∧ w3.frozen? ⟨N + 2, 1, none⟩ = false) by
    rw [hw3, hN]; refine ⟨⟨?_, ?_⟩, ?_, ?_, ?_, ?_, ?_⟩ <;> simp [go_sem])
  have HOLD : Hid (∀ wq, Below (N + 3) w3 wq → ((wq.cell? ⟨N, 0, none⟩ = some (.int .i64 e) ∧ wq.cell? ⟨N, 1, none⟩ = some (.slice a X.length c)) ∧ wq.cell? ⟨N + 1, 0, none⟩ = some (.slice da D.length dc) ∧ (wq.cell? ⟨N + 2, 0, none⟩ = some (.int .i64 0) ∧ wq.cell? ⟨N + 2, 1, none⟩ = some (.slice none 0 0) ∧ wq.frozen? ⟨N + 2, 0, none⟩ = false ∧ wq.frozen? ⟨N + 2, 1, none⟩ = false)) ∧ Below N w wq ∧ N + 3 ≤ wq.heap.size) := Lib.hid' (by
    intro wq hb
    obtain ⟨hc, hf⟩ := bcell hb
    obtain ⟨⟨q1, q2⟩, q3, q4, q5, q6, q7⟩ := HK.out
    refine ⟨⟨⟨(hc _ _ (by omega)).trans q1, (hc _ _ (by omega)).trans q2⟩, (hc _ _ (by omega)).trans q3, (hc _ _ (by omega)).trans q4, (hc _ _ (by omega)).trans q5, (hf _ _ (by omega)).trans q6, (hf _ _ (by omega)).trans q7⟩, HB3.out.trans (hb.mono (by omega)), ?_⟩
    have := hb.size; have := HZ.out; omega)
  have HERR : Hid (∀ wq err, Below (N + 3) w3 wq → NX = (err, Pj.zero) → NextR NX w (.returned (.tuple #[pjV 0 none 0 [], errV err])) ((wq.setCell ⟨N + 2, 0, none⟩ (.int .i64 0)).setCell ⟨N + 2, 1, none⟩ (.slice none 0 0))) := Lib.hid' (by
    intro wq err hb hx
    subst hx
    exact ⟨0, none, 0, [], rfl, rfl, OwnJ.nil _ _, by rw [← hN]; exact ((HOLD.out wq hb).2.1.setCell (by simp) _).setCell (by simp) _⟩)
  rw [← hw3]
  have HN := Lib.hid' hN
  simp only [← hN]
  clear hw3 hN
  refine (pcheck_any e a c X w3 (HS.out.below (by rw [← HN.out]; exact Nat.le_refl _) HB3.out) ht).mono ?_
  rintro en w4 ⟨rfl, hb4⟩
  have HB4 := Lib.hid' (show Below (N + 3) w3 w4 from hb4.mono (by rw [HZ.out]; exact Nat.le_refl _))
  clear hb4
  obtain ⟨⟨⟨k30, k31⟩, k40, k60, k61, f60, f61⟩, hbw4, hz4⟩ := HOLD.out w4 HB4.out
  have HBW4 := Lib.hid' hbw4
  clear hbw4
  by_cases hc : (docJ e X).check = 0
  rotate_left
  · have HE := Lib.hid' (HERR.out w4 _ HB4.out (HNX.out.trans (next_bad hc)))
    rw [errV_pos hc] at HE ⊢
    clear hc
    go_wp2
    refine bodyPost_ret (v := .tuple #[pjV 0 none 0 [], .iface 71 (.int .i64 ((docJ e X).check))]) (by simp [results, Tryz.results34, go_sem, pjV, k60, k61]) rfl HE.out
  have HCK := Lib.hid' hc
  rw [hc, errV_0]
  have HOK := Lib.hid' (Pj.ok_of hc)
  have hX4 : X.length ≤ 4 := by have := HOK.out.n1; unfold docJ at this; simpa using this
  have HX4 := Lib.hid' (show ∀ x ∈ X, x.1.length ≤ 4 from fun x hx => (HOK.out.c x.1 (List.mem_map_of_mem hx)).2)
  have he0 : 0 ≤ e := HOK.out.e0
  have he1 : e ≤ 1099511627776 := HOK.out.e1
  clear hc
  go_wp2_with fail
  refine (pcopy_any e a c X w4 (HS.out.below (by rw [← HN.out]; exact Nat.le_refl _) HBW4.out) (by omega) (fun x hx => by have := HX4.out x hx; omega)).mono ?_
  rintro en w5 ⟨a2, c2, K0, rfl, ho5, hk5, hb5⟩
  have HJ5 := Lib.hid' (ho5.base (B' := N + 3) hz4)
  have HB5 := Lib.hid' (HB4.out.trans (hb5.mono hz4))
  have HK5 := Lib.hid' hk5
  have hz5 : N + 3 ≤ w5.heap.size := Nat.le_trans hz4 hb5.size
  have hK0 : K0.length ≤ 4 := by have := congrArg List.length hk5; simp at this; omega
  clear k30 k31 k40 k60 k61 f60 f61 ho5 hk5 hb5
  unfold pjV
  go_wp2_with fail
  have hM5 : N + 3 ≤ w5.heap.size := hz5
  have HBX6 := Lib.hid' (show BoxW w5.heap.size [.int .i64 e, .slice a2 K0.length c2] 25 (w5.alloc (.cells #[.int .i64 e, .slice a2 K0.length c2] 25)) from BoxW.start _ _ _)
  have HJ6 := Lib.hid' (HJ5.out.below (w' := w5.alloc (.cells #[.int .i64 e, .slice a2 K0.length c2] 25)) (Nat.le_refl _) (by go_grown))
  have HB6 := Lib.hid' (show Below (N + 3) w3 (w5.alloc (.cells #[.int .i64 e, .slice a2 K0.length c2] 25)) from HB5.out.alloc hM5 _)
  generalize w5.alloc (.cells #[.int .i64 e, .slice a2 K0.length c2] 25) = w6 at *
  obtain ⟨M, hM⟩ : ∃ M, M = w5.heap.size := ⟨_, rfl⟩
  have HMM := Lib.hid' hM
  simp only [← hM] at HBX6 hM5 ⊢
  clear hM HJ5 hz5 hz4
  have HLX := Lib.hid' (show (X.map (·.1)).length = K0.length by have := congrArg List.length HK5.out; simpa using this.symm)
  go_loopw [30] (fun v30 wr => ∃ (k : Nat) (Ks : List Ch), v30 = .int .i64 k ∧ k ≤ K0.length ∧ Hid (Ks.length = K0.length) ∧ Hid (Ks.map (·.1) = stepL D (X.map (·.1)) k) ∧ Hid (BoxW M [.int .i64 e, .slice a2 K0.length c2] 25 wr) ∧ Hid (OwnJ wr (N + 3) a2 c2 Ks) ∧ Hid (Below (N + 3) w3 wr)) (fun v30 _ => K0.length - (intOf v30).toNat)
  case atStart => exact ⟨0, K0, rfl, Nat.zero_le _, Lib.hid' rfl, Lib.hid' (by rw [stepL_zero]; exact HK5.out), HBX6, HJ6, HB6⟩
  case round =>
    obtain ⟨k, Ks, rfl, hk, HL, HKs, HBX, HJ, HB⟩ := hrel
    obtain ⟨⟨⟨k30, k31⟩, k40, k60, k61, f60, f61⟩, hbw, hzr⟩ := HOLD.out wr HB.out
    have HBW := Lib.hid' hbw
    have x1 := HBX.out.box.1 1 _ rfl
    have x0 := HBX.out.box.1 0 _ rfl
    have f0 := HBX.out.box.2.1 0
    clear hbw
    by_cases hlt : k < K0.length
    · have hltk : k < Ks.length := by have := HL.out; omega
      have hltx : k < (X.map (·.1)).length := by have := HLX.out; omega
      obtain ⟨g, rfl, hg0, hg1, cg, fg⟩ := HJ.out.at hltk
      have HST := Lib.hid' (stepL_set (D := D) hltx)
      have HGE := Lib.hid' (show some Ks[k].1 = some ((X.map (fun x : Ch => x.1))[k]) by rw [← stepL_get (D := D) hltx, ← HKs.out, List.getElem?_map, List.getElem?_eq_getElem hltk]; rfl)
      have hxl : ((X.map (fun x : Ch => x.1))[k]).length ≤ 4 := by rw [List.getElem_map]; exact HX4.out _ (List.getElem_mem _)
      have HXL := Lib.hid' hxl
      have HRO := Lib.hid' (HJ.out.each _ (List.getElem_mem hltk))
      obtain ⟨x, hx⟩ : ∃ x, Ks[k] = x := ⟨_, rfl⟩
      have HX := Lib.hid' hx
      rw [hx] at cg HRO HGE
      clear hx hxl
      obtain ⟨xs, xa, xc⟩ := x
      simp only at cg HGE
      have hxs : xs.length ≤ 4 := by have := HGE.out; simp only [Option.some.injEq] at this; rw [this]; exact HXL.out
      clear k30 k31 k60 k61 f60 f61 x0 f0
      go_wp2_with fail

      refine wp_region_held_drew (S := (fun w' => w'.cell? ⟨M, 1, none⟩ = some (.slice (some ⟨g, 0, none⟩) K0.length c2))) (by kernel_rfl) (by simpa using x1) (fun hH0 => ?_)
      refine wpAnyH_take (i := 0) (oi := _) (v := .pointer (some ⟨M, 1, none⟩)) rfl (by kernel_rfl) (by kernel_rfl) (by kernel_rfl) (fun _ _ _ h => h) (Or.inl ⟨by rfl, ?_⟩) hH0 ?_
      · intro w hSw; go_simp
      simp only [Act.put, List.getElem_toArray, List.getElem_cons_zero, List.getElem_cons_succ, List.setIfInBounds_toArray, List.set_cons_zero, List.set_cons_succ]
      refine wpAnyH_take (i := 1) (oi := _) (v := .slice (some ⟨g, 0, none⟩) K0.length c2) rfl (by kernel_rfl) (by kernel_rfl) (by kernel_rfl) (fun _ _ _ h => h) (Or.inl ⟨by rfl, ?_⟩) hH0 ?_
      · intro w hSw; go_simp
      simp only [Act.put, List.getElem_toArray, List.getElem_cons_zero, List.getElem_cons_succ, List.setIfInBounds_toArray, List.set_cons_zero, List.set_cons_succ]
      refine wpAnyH_take (i := 2) (oi := _) (v := .int .i64 (k : Int)) rfl (by kernel_rfl) (by kernel_rfl) (by kernel_rfl) (fun _ _ _ h => h) (Or.inl ⟨by rfl, ?_⟩) hH0 ?_
      · intro w hSw; go_simp
      simp only [Act.put, List.getElem_toArray, List.getElem_cons_zero, List.getElem_cons_succ, List.setIfInBounds_toArray, List.set_cons_zero, List.set_cons_succ]
      refine wpAnyH_take (i := 3) (oi := _) (v := .slice xa xs.length xc) rfl (by kernel_rfl) (by kernel_rfl) (by kernel_rfl) (fun _ _ _ h => h) (Or.inl ⟨by rfl, ?_⟩) hH0 ?_
      · intro w hSw; go_simp
      simp only [Act.put, List.getElem_toArray, List.getElem_cons_zero, List.getElem_cons_succ, List.setIfInBounds_toArray, List.set_cons_zero, List.set_cons_succ]
      refine wpAnyH_take (i := 4) (oi := _) (v := .func (.func 89) #[] #[.pointer (some ⟨N + 1, 0, none⟩)]) rfl (by kernel_rfl) (by kernel_rfl) (by kernel_rfl) (fun _ _ _ h => h) (Or.inl ⟨by rfl, ?_⟩) hH0 ?_
      · intro w hSw; go_simp
      simp only [Act.put, List.getElem_toArray, List.getElem_cons_zero, List.getElem_cons_succ, List.setIfInBounds_toArray, List.set_cons_zero, List.set_cons_succ]
      refine wpAnyH_ready (rs := [5]) (by kernel_rfl) (by simp) (AllReadyH.cons (o := _) rfl (fun K hK => ?_) AllReadyH.nil)
      go_simp
      refine (show Calls Tryz.prog 93 #[.slice xa xs.length xc, .func (.func 89) #[] #[.pointer (some ⟨N + 1, 0, none⟩)]] wr.drew (CutR (N + 3) xa xc (liveC D xs) (fun q => (Value.slice xa 0 xc).ownBlock = some q) wr.drew) from deleteZ_any (B := N + 3) 89 #[.pointer (some ⟨N + 1, 0, none⟩)] (fun u => D.contains u) xs xa xc wr.drew HRO.out (by omega) hcf1 ?_).mono ?_
      · intro w9 u hf9
        have hb9 : Below (N + 3) w3 w9 := (HB.out.trans (Below.drew (Below.refl _ wr))).trans (hf9.below (by show N + 3 ≤ wr.heap.size; exact hzr) (fun q hq => (own_blk HRO.out (v := .slice xa xs.length xc) (by rw [← hq]; cases xa <;> rfl)).1))
        have hq := HOLD.out w9 hb9
        exact (pgone_any D da dc (N + 1) u w9 hq.1.2.1 (SlV.below HD.out (by rw [← HN.out]; exact Nat.le_refl _) hq.2.1)).mono (fun e w' ⟨h1, h2⟩ => ⟨h1, 0, by rw [← h2]; rfl⟩)
      rintro en w7 ⟨rfl, ho7, hf7⟩
      have hf7' : Fr (fun q => (chV (xs, xa, xc)).ownBlock = some q) wr w7 := (Fr.of_below (F := fun q => (chV (xs, xa, xc)).ownBlock = some q) (Below.drew (Below.refl _ wr))).trans hf7 (fun i hi => .inl (by rw [← hi]; cases xa <;> rfl))
      obtain ⟨⟨zg, gg, hx7, hMg⟩, hp2, hp3, hp4⟩ := HJ.out.put hzr hltk HX.out (liveC D xs, xa, xc) HBX.out (by decide) (by decide) hf7' ho7 (fun b hb => .inl (by rw [← hb]; cases xa <;> rfl))
      have z1 := hx7.box.1 1 _ rfl
      have HX7 := Lib.hid' hx7
      have HP2 := Lib.hid' (show OwnJ (w7.setCell ⟨g, k, none⟩ (.slice xa (liveC D xs).length xc)) _ _ _ _ from hp2)
      have HP3 := Lib.hid' (show BoxW M _ _ (w7.setCell ⟨g, k, none⟩ (.slice xa (liveC D xs).length xc)) from hp3)
      have HP4 := Lib.hid' (show Below (N + 3) w3 (w7.setCell ⟨g, k, none⟩ (.slice xa (liveC D xs).length xc)) from hp4 _ HB.out)
      simp only [chV] at zg
      have HMG := Lib.hid' hMg
      clear ho7 hf7 hf7' hp2 hp3 hp4 hx7 hMg
      refine hK.out _ _ ?_ (fun hH1 => ?_)
      · exact z1
      clear hK K
      refine wpAnyH_ready (rs := [6]) (by kernel_rfl) (by simp) (AllReadyH.cons (o := _) rfl (fun K hK => ?_) AllReadyH.nil)
      go_simp
      refine hK.out _ _ ?_ (fun hH2 => ?_)
      · exact z1
      clear hK K
      refine wpAnyH_ready (rs := [7]) (by kernel_rfl) (by simp) (AllReadyH.cons (o := _) rfl (fun K hK => ?_) AllReadyH.nil)
      go_simp
      refine hK.out _ _ ?_ (fun hH3 => ?_)
      · exact (fr_set _ _ _ _).cell z1 HMG.out
      clear hK K
      refine wpAnyH_done (by kernel_rfl) ?_ _
      generalize w7.setCell ⟨g, k, none⟩ (.slice xa (liveC D xs).length xc) = w8 at *
      go_wp2_with fail
      go_roundw
      case rel => exact ⟨k + 1, Ks.set k (liveC D xs, xa, xc), by go_num, by omega, Lib.hid' (by rw [List.length_set]; exact HL.out), Lib.hid' (by rw [List.map_set, HKs.out, ← HST.out]; have := HGE.out; simp only [Option.some.injEq] at this; rw [← this]), HP3, HP2, HP4⟩
      case measure => simp [intOf]; omega

    · obtain rfl : k = K0.length := by omega
      have HCS := Lib.hid' (show Ks.map (·.1) = (X.map (·.1)).map (liveC D) by rw [HKs.out, ← stepL_all, HLX.out])
      clear hlt hk HKs HBX6 HJ6 HB6
      have HPD := Lib.hid' (containsFZ_any 95 #[] oddU D da dc wr (SlV.below HD.out (by rw [← HN.out]; exact Nat.le_refl _) HBW.out) hcf3 (Lib.hid' (pred_odd _)))
      go_wp2_with fail
      refine HPD.out.mono ?_
      rintro en wa ⟨rfl, hba⟩
      have HBA := Lib.hid' (HB.out.trans (hba.mono hzr))
      have HJA := Lib.hid' (HJ.out.below (Nat.le_refl _) hba)
      have HXA := Lib.hid' (HBX.out.below (Nat.le_refl _) hba)
      clear hba HPD k30 k31 k40 k60 k61 f60 f61 x1 x0 f0 HBW hzr HB HJ HBX
      obtain ⟨⟨⟨k30, k31⟩, k40, k60, k61, f60, f61⟩, hbw, hzr⟩ := HOLD.out wa HBA.out
      have HBW := Lib.hid' hbw
      clear hbw
      cases hod : D.any oddU with
      | true =>
        have HE := Lib.hid' (HERR.out wa 1 HBA.out (HNX.out.trans (next_1 HCK.out (.inl hod))))
        clear hod
        go_wp2
        refine bodyPost_ret (v := .tuple #[pjV 0 none 0 [], .iface 71 (.int .i64 1)]) (by simp [results, Tryz.results34, go_sem, pjV, k60, k61]) rfl HE.out
      | false =>
      have HOD := Lib.hid' hod
      clear hod
      have HPS := Lib.hid' (containsFZ_any 95 #[] oddU S sa sc wa (SlV.below HSP.out (by rw [← HN.out]; exact Nat.le_refl _) HBW.out) hcf3 (Lib.hid' (pred_odd _)))
      go_wp2_with fail
      refine HPS.out.mono ?_
      rintro en wb ⟨rfl, hbb⟩
      have HBB := Lib.hid' (HBA.out.trans (hbb.mono hzr))
      have HJB := Lib.hid' (HJA.out.below (Nat.le_refl _) hbb)
      have HXB := Lib.hid' (HXA.out.below (Nat.le_refl _) hbb)
      clear hbb HPS k30 k31 k40 k60 k61 f60 f61 HBW hzr HBA HJA HXA
      obtain ⟨⟨⟨k30, k31⟩, k40, k60, k61, f60, f61⟩, hbw, hzr⟩ := HOLD.out wb HBB.out
      have HBW := Lib.hid' hbw
      clear hbw
      cases hos : S.any oddU with
      | true =>
        have HE := Lib.hid' (HERR.out wb 1 HBB.out (HNX.out.trans (next_1 HCK.out (.inr hos))))
        clear hos
        go_wp2
        refine bodyPost_ret (v := .tuple #[pjV 0 none 0 [], .iface 71 (.int .i64 1)]) (by simp [results, Tryz.results34, go_sem, pjV, k60, k61]) rfl HE.out
      | false =>
      have HNO := Lib.hid' (show ¬ (D.any oddU = true ∨ S.any oddU = true) by rw [HOD.out, hos]; rintro (h | h) <;> cases h)
      clear hos
      cases hE : (e == 1099511627776) with
      | true =>
        have HE := Lib.hid' (HERR.out wb 5 HBB.out (HNX.out.trans (next_5 HCK.out HNO.out (show e = _ by simpa using hE))))
        go_wp2
        refine bodyPost_ret (v := .tuple #[pjV 0 none 0 [], .iface 71 (.int .i64 5)]) (by simp [results, Tryz.results34, go_sem, pjV, k60, k61]) rfl HE.out
      | false =>
      have HEF := Lib.hid' (show ¬ e = 1099511627776 by simpa using hE)
      have he2 : e < 1099511627776 := by have := HEF.out; omega
      have x1 := HXB.out.box.1 1 _ rfl
      have x0 := HXB.out.box.1 0 _ rfl
      have f0 := HXB.out.box.2.1 0
      have hlost := containsFR_any 91 lostN Ks a2 c2 wb HJB.out.chs hcf2 (Lib.hid' pred_lost)
      rw [HL.out, any_lost, HCS.out] at hlost
      have HLOST := Lib.hid' hlost
      clear hlost
      go_wp2_with fail
      refine HLOST.out.mono ?_
      rintro en wc ⟨rfl, rfl⟩
      clear HLOST
      cases hlo : ((X.map (·.1)).map (liveC D)).any (·.isEmpty) with
      | true =>
        have HE := Lib.hid' (HERR.out wb 13 HBB.out (HNX.out.trans (next_13 HCK.out HNO.out HEF.out hlo)))
        clear hlo
        go_wp2
        refine bodyPost_ret (v := .tuple #[pjV 0 none 0 [], .iface 71 (.int .i64 13)]) (by simp [results, Tryz.results34, go_sem, pjV, k60, k61]) rfl HE.out
      | false =>
      have HFIN := Lib.hid' (HNX.out.trans (next_0 HCK.out HNO.out HEF.out (show ¬ ((docJ e X).cs.map (liveC D)).any (·.isEmpty) = true by rw [show (docJ e X).cs = X.map (·.1) from rfl, hlo]; decide)))
      clear hlo hE HERR HOD
      have hMz := HXB.out.lt
      go_wp2_with fail
      have HXD := Lib.hid' (show BoxW M [.int .i64 (e + 1), .slice a2 K0.length c2] 25 (wb.setCell ⟨M, 0, none⟩ (.int .i64 (e + 1))) from heap_setCell_same _ _ 0 _ _ _ HXB.out)
      have HJD := Lib.hid' (show OwnJ (wb.setCell ⟨M, 0, none⟩ (.int .i64 (e + 1))) (N + 3) a2 c2 Ks from
        have hF : ∀ {e' n : Nat} {v : Value} {xs : List Value}, wb.ownsRow (N + 3) e' 1 v n xs → 25 ≠ e' → SlIn (fun q => ¬ q = M) v := fun ho hne => own_slin ho (fun b hb h => own_not_box ho HXB.out hne (h ▸ hb))
        ⟨own_fr HJB.out.row (fr_set _ _ _ _) (hF HJB.out.row (by decide)), fun x hx => own_fr (HJB.out.each x hx) (fr_set _ _ _ _) (hF (HJB.out.each x hx) (by decide)), HJB.out.apart⟩)
      have HBD := Lib.hid' (show Below (N + 3) w3 (wb.setCell ⟨M, 0, none⟩ (.int .i64 (e + 1))) from HBB.out.setCell (by simp; exact hM5) _)
      generalize wb.setCell ⟨M, 0, none⟩ (.int .i64 (e + 1)) = wd at *
      have HK4 := Lib.hid' (show ∀ x ∈ Ks, x.1.length ≤ 4 by
        intro x hx
        have h1 : x.1 ∈ (X.map (·.1)).map (liveC D) := by rw [← HCS.out]; exact List.mem_map_of_mem hx
        obtain ⟨y, hy, he⟩ := List.mem_map.1 h1
        obtain ⟨z, hz, hzy⟩ := List.mem_map.1 hy
        rw [← he]
        have h2 := List.length_filter_le (fun u => !D.contains u) y
        have h3 := HX4.out z hz
        rw [hzy] at h3
        exact Nat.le_trans h2 h3)
      obtain ⟨FIN, hFI⟩ : ∃ FIN, FIN = fillC D S (X.map (·.1)) 0 ((X.map (·.1)).map (liveC D)) := ⟨_, rfl⟩
      have HFI := Lib.hid' (show NX = (0, ⟨e + 1, FIN⟩) by rw [hFI]; exact HFIN.out)
      have HFS := Lib.hid' (show fillC D S ((X.map (·.1)).drop 0) 0 (Ks.map (·.1)) = FIN by rw [HCS.out, hFI]; rfl)
      clear hFI x0 x1 f0 k30 k31 k40 k60 k61 f60 f61 HBW hzr HXB HJB HBB HCS hcf2 hcf3 HFIN hMz
      go_loopw [72] (fun v72 wr => ∃ (k : Nat) (Ks : List Ch), v72 = .int .i64 k ∧ k ≤ X.length ∧ Hid (Ks.length = K0.length) ∧ Hid (∀ x ∈ Ks, x.1.length ≤ 4) ∧ Hid (fillC D S ((X.map (·.1)).drop k) k (Ks.map (·.1)) = FIN) ∧ Hid (BoxW M [.int .i64 (e + 1), .slice a2 K0.length c2] 25 wr) ∧ Hid (OwnJ wr (N + 3) a2 c2 Ks) ∧ Hid (Below (N + 3) w3 wr)) (fun v72 _ => X.length - (intOf v72).toNat)
      case atStart => exact ⟨0, Ks, rfl, Nat.zero_le _, HL, HK4, HFS, HXD, HJD, HBD⟩
      case round =>
        clear HK4 HFS HXD HJD HBD HL
        obtain ⟨k, Ks, rfl, hk, HL, HK4, HFS, HBX, HJ, HB⟩ := hrel
        obtain ⟨⟨⟨k30, k31⟩, k40, k60, k61, f60, f61⟩, hbw, hzr⟩ := HOLD.out wr HB.out
        have HBW := Lib.hid' hbw
        clear hbw
        by_cases hlt : k < X.length
        · have hltL : k < (X.map (·.1)).length := by simpa using hlt
          obtain ⟨b, off, rfl, hb, hc, _⟩ := (HS.out.below (by rw [← HN.out]; exact Nat.le_refl _) HBW.out).at hlt
          have HFS2 := Lib.hid' ((fill_next hltL _).symm.trans HFS.out)
          have HY := Lib.hid' (show (X.map (·.1))[k] = X[k].1 from List.getElem_map _)
          rw [HY.out] at HFS2
          have hy4 := HX4.out _ (List.getElem_mem hlt)
          clear HFS HY
          generalize X[k] = y at *
          obtain ⟨ys, ya, yc⟩ := y
          simp only at hc hy4 HFS2
          go_wp2_with fail
          obtain ⟨wo, rfl⟩ : ∃ wo : World, wo = wr := ⟨_, rfl⟩
          obtain ⟨Ko, rfl⟩ : ∃ Ko : List Ch, Ko = Ks := ⟨_, rfl⟩
          go_loopw [79] (fun v79 wr => ∃ (j : Nat) (Ks : List Ch), v79 = .int .i64 j ∧ j ≤ S.length ∧ Hid (Ks.length = K0.length) ∧ Hid (∀ x ∈ Ks, x.1.length ≤ 4) ∧ Hid (fillC D S ((X.map (·.1)).drop (k + 1)) (k + 1) ((S.drop j).foldl (spareStep D k ys.length) (Ks.map (·.1))) = FIN) ∧ Hid (BoxW M [.int .i64 (e + 1), .slice a2 K0.length c2] 25 wr) ∧ Hid (OwnJ wr (N + 3) a2 c2 Ks) ∧ Hid (Below (N + 3) w3 wr)) (fun v79 _ => S.length - (intOf v79).toNat)
          case atStart => exact ⟨0, Ko, rfl, Nat.zero_le _, HL, HK4, Lib.hid' (by rw [List.drop_zero]; exact HFS2.out), HBX, HJ, HB⟩
          case round =>
            clear HL HK4 HFS2 HBX HJ HB HBW hzr k30 k31 k40 k60 k61 f60 f61 hb hc
            obtain ⟨j, Ks, rfl, hj, HL, HK4, HFS, HBX, HJ, HB⟩ := hrel
            obtain ⟨⟨⟨k30, k31⟩, k40, k60, k61, f60, f61⟩, hbw, hzr⟩ := HOLD.out wr HB.out
            have HBW := Lib.hid' hbw
            clear hbw k30 k31 k60 k61 f60 f61
            by_cases hltj : j < S.length
            · obtain ⟨b3, off3, rfl, hb3, hc3⟩ := (show Zs wr (.slice sa S.length sc) S from SlV.below HSP.out (by rw [← HN.out]; exact Nat.le_refl _) HBW.out).at hltj
              have hltk : k < Ks.length := by have := HL.out; have := HLX.out; simp at this; omega
              obtain ⟨g, rfl, hg0, hg1, cg, fg⟩ := HJ.out.at hltk
              have HF2 := Lib.hid' ((congrArg (fillC D S ((X.map (·.1)).drop (k + 1)) (k + 1)) (fold_next hltj _)).symm.trans HFS.out)
              have HRO := Lib.hid' (HJ.out.each _ (List.getElem_mem hltk))
              have hx4 := HK4.out _ (List.getElem_mem hltk)
              have HGD := Lib.hid' (show (Ks.map (·.1)).getD k [] = Ks[k].1 by simp [List.getD, hltk])
              obtain ⟨x, hx⟩ : ∃ x, Ks[k] = x := ⟨_, rfl⟩
              have HX := Lib.hid' hx
              rw [hx] at cg HRO HGD hx4
              clear hx HFS
              obtain ⟨xs, xa, xc⟩ := x
              simp only at cg HGD hx4
              have x1 := HBX.out.box.1 1 _ rfl
              have x0 := HBX.out.box.1 0 _ rfl
              have hMz := HBX.out.lt
              have hltK0 : k < K0.length := by have := HL.out; omega
              generalize S[j] = u at *
              by_cases hroom : xs.length < ys.length
              rotate_left
              · have HSTEP := Lib.hid' (step_no1 (D := D) (u := u) (show ¬ ((Ks.map (·.1)).getD k []).length < ys.length by rw [HGD.out]; exact hroom))
                go_wp2_with fail
                go_roundw
                case rel => exact ⟨j + 1, Ks, by go_num, by omega, HL, HK4, Lib.hid' (by have := HF2.out; rw [HSTEP.out] at this; exact this), HBX, HJ, HB⟩
                case measure => simp [intOf]; omega
              have HPG := Lib.hid' (pgone_any D da dc (N + 1) u wr k40 (SlV.below HD.out (by rw [← HN.out]; exact Nat.le_refl _) HBW.out))
              go_wp2_with fail
              refine HPG.out.mono ?_
              rintro en wq ⟨rfl, rfl⟩
              clear HPG
              cases hgone : D.contains u with
              | true =>
                have HSTEP := Lib.hid' (step_no2 (i := k) (m := ys.length) (cs := Ks.map (·.1)) hgone)
                clear hgone
                go_wp2_with fail
                go_roundw
                case rel => exact ⟨j + 1, Ks, by go_num, by omega, HL, HK4, Lib.hid' (by have := HF2.out; rw [HSTEP.out] at this; exact this), HBX, HJ, HB⟩
                case measure => simp [intOf]; omega
              | false =>
              have HGONE := Lib.hid' hgone
              clear hgone
              have hfl : (flatC Ks).length ≤ 1099511627776 := by have := flat_len4 HK4.out; have := HL.out; omega
              have hun := punits_any (e + 1) (some ⟨g, 0, none⟩) c2 Ks wr HJ.out.chs hfl
              unfold pjV at hun
              rw [HL.out] at hun
              have HUN := Lib.hid' hun
              clear hun
              go_wp2_with fail
              refine HUN.out.mono ?_
              rintro en wu ⟨a8, c8, rfl, ho8, hb8⟩
              have HO8 := Lib.hid' ho8
              have HBU := Lib.hid' (HB.out.trans (hb8.mono hzr))
              have HJU := Lib.hid' (HJ.out.below (Nat.le_refl _) hb8)
              have HXU := Lib.hid' (HBX.out.below (Nat.le_refl _) hb8)
              have hzu : N + 3 ≤ wu.heap.size := Nat.le_trans hzr hb8.size
              have HCN := Lib.hid' (containsZ_any u (unitsOf (flatC Ks)) a8 c8 wu (SlV.of_own ho8))
              clear ho8 hb8 HUN
              go_wp2_with fail
              refine HCN.out.mono ?_
              rintro en wq ⟨rfl, rfl⟩
              clear HCN
              have HANY := Lib.hid' (show (unitsOf (flatC Ks)).any (fun y => u == y) = true ↔ u ∈ (Ks.map (·.1)).flatten by
                rw [contains_any, List.contains_iff_mem, unitsOf_mem]; rfl)
              generalize (unitsOf (flatC Ks)).any (fun y => u == y) = isin at *
              cases isin with
              | true =>
                have HSTEP := Lib.hid' (step_no3 (D := D) (i := k) (m := ys.length) (HANY.out.1 rfl))
                go_wp2_with fail
                go_roundw
                case rel => exact ⟨j + 1, Ks, by go_num, by omega, HL, HK4, Lib.hid' (by have := HF2.out; rw [HSTEP.out] at this; exact this), HXU, HJU, HBU⟩
                case measure => simp [intOf]; omega
              | false =>
              have HSTEP := Lib.hid' (step_yes (i := k) (m := ys.length) (cs := Ks.map (·.1)) (u := u) (show ((Ks.map (·.1)).getD k []).length < ys.length by rw [HGD.out]; exact hroom) HGONE.out (fun h => by have := HANY.out.2 h; cases this))
              rw [HGD.out] at HSTEP
              clear x0 x1 cg fg hg0 hg1 k40
              obtain ⟨g', hgg, hg0, hg1, cg, fg⟩ := HJU.out.at hltk
              simp only [Option.some.injEq, Addr.mk.injEq, and_true] at hgg
              subst hgg
              rw [HX.out] at cg
              simp only at cg
              have x1 := HXU.out.box.1 1 _ rfl
              have hMu := HXU.out.lt
              have HROU := Lib.hid' (show wu.ownsRow (N + 3) 3 1 (.slice xa xs.length xc) xs.length (zVs xs) by have := HJU.out.each _ (List.getElem_mem hltk); rw [HX.out] at this; exact this)
              clear HO8 HB HJ HBX HBW hzr HRO
              go_wp2_with fail

              refine wp_region_held_drew (S := (fun w' => w'.cell? ⟨M, 1, none⟩ = some (.slice (some ⟨g, 0, none⟩) K0.length c2))) (by kernel_rfl) (by simpa using x1) (fun hH0 => ?_)
              refine wpAnyH_take (i := 0) (oi := _) (v := .pointer (some ⟨M, 1, none⟩)) rfl (by kernel_rfl) (by kernel_rfl) (by kernel_rfl) (fun _ _ _ h => h) (Or.inl ⟨by rfl, ?_⟩) hH0 ?_
              · intro w hSw; go_simp
              simp only [Act.put, List.getElem_toArray, List.getElem_cons_zero, List.getElem_cons_succ, List.setIfInBounds_toArray, List.set_cons_zero, List.set_cons_succ]
              refine wpAnyH_take (i := 1) (oi := _) (v := .slice (some ⟨g, 0, none⟩) K0.length c2) rfl (by kernel_rfl) (by kernel_rfl) (by kernel_rfl) (fun _ _ _ h => h) (Or.inl ⟨by rfl, ?_⟩) hH0 ?_
              · intro w hSw; go_simp
              simp only [Act.put, List.getElem_toArray, List.getElem_cons_zero, List.getElem_cons_succ, List.setIfInBounds_toArray, List.set_cons_zero, List.set_cons_succ]
              refine wpAnyH_take (i := 2) (oi := _) (v := .int .i64 (k : Int)) rfl (by kernel_rfl) (by kernel_rfl) (by kernel_rfl) (fun _ _ _ h => h) (Or.inl ⟨by rfl, ?_⟩) hH0 ?_
              · intro w hSw; go_simp
              simp only [Act.put, List.getElem_toArray, List.getElem_cons_zero, List.getElem_cons_succ, List.setIfInBounds_toArray, List.set_cons_zero, List.set_cons_succ]
              refine wpAnyH_take (i := 3) (oi := _) (v := .pointer (some ⟨M, 1, none⟩)) rfl (by kernel_rfl) (by kernel_rfl) (by kernel_rfl) (fun _ _ _ h => h) (Or.inl ⟨by rfl, ?_⟩) hH0 ?_
              · intro w hSw; go_simp
              simp only [Act.put, List.getElem_toArray, List.getElem_cons_zero, List.getElem_cons_succ, List.setIfInBounds_toArray, List.set_cons_zero, List.set_cons_succ]
              refine wpAnyH_take (i := 4) (oi := _) (v := .slice (some ⟨g, 0, none⟩) K0.length c2) rfl (by kernel_rfl) (by kernel_rfl) (by kernel_rfl) (fun _ _ _ h => h) (Or.inl ⟨by rfl, ?_⟩) hH0 ?_
              · intro w hSw; go_simp
              simp only [Act.put, List.getElem_toArray, List.getElem_cons_zero, List.getElem_cons_succ, List.setIfInBounds_toArray, List.set_cons_zero, List.set_cons_succ]
              refine wpAnyH_take (i := 5) (oi := _) (v := .int .i64 (k : Int)) rfl (by kernel_rfl) (by kernel_rfl) (by kernel_rfl) (fun _ _ _ h => h) (Or.inl ⟨by rfl, ?_⟩) hH0 ?_
              · intro w hSw; go_simp
              simp only [Act.put, List.getElem_toArray, List.getElem_cons_zero, List.getElem_cons_succ, List.setIfInBounds_toArray, List.set_cons_zero, List.set_cons_succ]
              refine wpAnyH_take (i := 8) (oi := _) (v := .int .i64 u) rfl (by kernel_rfl) (by kernel_rfl) (by kernel_rfl) (fun _ _ _ h => h) (Or.inl ⟨by rfl, ?_⟩) hH0 ?_
              · intro w hSw; go_simp
              simp only [Act.put, List.getElem_toArray, List.getElem_cons_zero, List.getElem_cons_succ, List.setIfInBounds_toArray, List.set_cons_zero, List.set_cons_succ]
              refine wpAnyH_ready (rs := [6, 9]) (by kernel_rfl) (by simp) (AllReadyH.cons (o := _) rfl (fun K hK => ?_) (AllReadyH.cons (o := _) rfl (fun K hK => ?_) AllReadyH.nil))
              · skip
                go_simp
                refine hK.out _ _ ?_ (fun hH1 => ?_)
                · exact hH0
                clear hK K
                refine wpAnyH_ready (rs := [7, 9]) (by kernel_rfl) (by simp) (AllReadyH.cons (o := _) rfl (fun K hK => ?_) (AllReadyH.cons (o := _) rfl (fun K hK => ?_) AllReadyH.nil))
                · skip
                  go_simp
                  refine hK.out _ _ ?_ (fun hH2 => ?_)
                  · exact hH1
                  clear hK K
                  refine wpAnyH_ready (rs := [9]) (by kernel_rfl) (by simp) (AllReadyH.cons (o := _) rfl (fun K hK => ?_) AllReadyH.nil)
                  go_simp
                  refine hK.out _ _ ?_ (fun hH3 => ?_)
                  · simp [go_sem, x1, hMu]
                  clear hK K
                  refine wpAnyH_ready (rs := [10]) (by kernel_rfl) (by simp) (AllReadyH.cons (o := _) rfl (fun K hK => ?_) AllReadyH.nil)
                  refine step_one2 (w := wu.drew) etInts rfl (.tmp 112) (.tmp 114) rfl [.int .i64 u] rfl (N + 3) xs.length (zVs xs) (.slice xa xs.length xc) rfl HROU.out rfl (by simp [Value.oneCell']) (by omega) (by show N + 3 ≤ wu.heap.size; exact hzu) ?_
                  intro a9 c9 w9 ho9 hf9 hq9
                  have hf9' : Fr (fun q => (chV (xs, xa, xc)).ownBlock = some q) wu w9 := (Fr.of_below (F := fun q => (chV (xs, xa, xc)).ownBlock = some q) (Below.drew (Below.refl _ wu))).trans hf9 (fun i hi => .inl hi)
                  have HL9 := Lib.hid' (show (xs ++ [u]).length = xs.length + 1 from by simp)
                  obtain ⟨⟨zg, gg, hx7, hMg⟩, hp2, hp3, hp4⟩ := HJU.out.put hzu hltk HX.out (xs ++ [u], a9, c9) HXU.out (by decide) (by decide) hf9' (by unfold chV; simp only [HL9.out, zVs_append]; exact ho9) (fun b hb => by unfold chV at hb; simp only [HL9.out] at hb; exact hq9 b hb)
                  simp only [chV, HL9.out] at zg hp2 hp3 hp4
                  have z1 := hx7.box.1 1 _ rfl
                  have HP2 := Lib.hid' hp2
                  have HP3 := Lib.hid' hp3
                  have HP4 := Lib.hid' (hp4 _ HBU.out)
                  have HMG := Lib.hid' hMg
                  clear ho9 hf9 hf9' hp2 hp3 hp4 hx7 hMg hq9
                  refine hK.out _ _ ?_ (fun hH4 => ?_)
                  · exact z1
                  clear hK K
                  refine wpAnyH_ready (rs := [11]) (by kernel_rfl) (by simp) (AllReadyH.cons (o := _) rfl (fun K hK => ?_) AllReadyH.nil)
                  go_simp
                  refine hK.out _ _ ?_ (fun hH5 => ?_)
                  · exact z1
                  clear hK K
                  refine wpAnyH_ready (rs := [12]) (by kernel_rfl) (by simp) (AllReadyH.cons (o := _) rfl (fun K hK => ?_) AllReadyH.nil)
                  go_simp
                  refine hK.out _ _ ?_ (fun hH6 => ?_)
                  · exact (fr_set _ _ _ _).cell z1 HMG.out
                  clear hK K
                  refine wpAnyH_done (by kernel_rfl) ?_ _
                  generalize w9.setCell ⟨g, k, none⟩ (.slice a9 (xs.length + 1) c9) = w8 at *
                  go_wp2_with fail
                  go_roundw
                  case rel => exact ⟨j + 1, Ks.set k (xs ++ [u], a9, c9), by go_num, by omega, Lib.hid' (by rw [List.length_set]; exact HL.out), Lib.hid' (fun z hz => by rcases List.mem_or_eq_of_mem_set hz with hz | rfl; exact HK4.out z hz; simp only [HL9.out]; omega), Lib.hid' (by have := HF2.out; rw [HSTEP.out] at this; rw [List.map_set]; exact this), HP3, HP2, HP4⟩
                  case measure => simp [intOf]; omega
                · skip
                  go_simp
                  refine hK.out _ _ ?_ (fun hH2 => ?_)
                  · simp [go_sem, x1, hMu]
                  clear hK K
                  refine wpAnyH_ready (rs := [7]) (by kernel_rfl) (by simp) (AllReadyH.cons (o := _) rfl (fun K hK => ?_) AllReadyH.nil)
                  go_simp
                  refine hK.out _ _ ?_ (fun hH3 => ?_)
                  · exact hH2
                  clear hK K
                  refine wpAnyH_ready (rs := [10]) (by kernel_rfl) (by simp) (AllReadyH.cons (o := _) rfl (fun K hK => ?_) AllReadyH.nil)
                  refine step_one2 (w := wu.drew) etInts rfl (.tmp 112) (.tmp 114) rfl [.int .i64 u] rfl (N + 3) xs.length (zVs xs) (.slice xa xs.length xc) rfl HROU.out rfl (by simp [Value.oneCell']) (by omega) (by show N + 3 ≤ wu.heap.size; exact hzu) ?_
                  intro a9 c9 w9 ho9 hf9 hq9
                  have hf9' : Fr (fun q => (chV (xs, xa, xc)).ownBlock = some q) wu w9 := (Fr.of_below (F := fun q => (chV (xs, xa, xc)).ownBlock = some q) (Below.drew (Below.refl _ wu))).trans hf9 (fun i hi => .inl hi)
                  have HL9 := Lib.hid' (show (xs ++ [u]).length = xs.length + 1 from by simp)
                  obtain ⟨⟨zg, gg, hx7, hMg⟩, hp2, hp3, hp4⟩ := HJU.out.put hzu hltk HX.out (xs ++ [u], a9, c9) HXU.out (by decide) (by decide) hf9' (by unfold chV; simp only [HL9.out, zVs_append]; exact ho9) (fun b hb => by unfold chV at hb; simp only [HL9.out] at hb; exact hq9 b hb)
                  simp only [chV, HL9.out] at zg hp2 hp3 hp4
                  have z1 := hx7.box.1 1 _ rfl
                  have HP2 := Lib.hid' hp2
                  have HP3 := Lib.hid' hp3
                  have HP4 := Lib.hid' (hp4 _ HBU.out)
                  have HMG := Lib.hid' hMg
                  clear ho9 hf9 hf9' hp2 hp3 hp4 hx7 hMg hq9
                  refine hK.out _ _ ?_ (fun hH4 => ?_)
                  · exact z1
                  clear hK K
                  refine wpAnyH_ready (rs := [11]) (by kernel_rfl) (by simp) (AllReadyH.cons (o := _) rfl (fun K hK => ?_) AllReadyH.nil)
                  go_simp
                  refine hK.out _ _ ?_ (fun hH5 => ?_)
                  · exact z1
                  clear hK K
                  refine wpAnyH_ready (rs := [12]) (by kernel_rfl) (by simp) (AllReadyH.cons (o := _) rfl (fun K hK => ?_) AllReadyH.nil)
                  go_simp
                  refine hK.out _ _ ?_ (fun hH6 => ?_)
                  · exact (fr_set _ _ _ _).cell z1 HMG.out
                  clear hK K
                  refine wpAnyH_done (by kernel_rfl) ?_ _
                  generalize w9.setCell ⟨g, k, none⟩ (.slice a9 (xs.length + 1) c9) = w8 at *
                  go_wp2_with fail
                  go_roundw
                  case rel => exact ⟨j + 1, Ks.set k (xs ++ [u], a9, c9), by go_num, by omega, Lib.hid' (by rw [List.length_set]; exact HL.out), Lib.hid' (fun z hz => by rcases List.mem_or_eq_of_mem_set hz with hz | rfl; exact HK4.out z hz; simp only [HL9.out]; omega), Lib.hid' (by have := HF2.out; rw [HSTEP.out] at this; rw [List.map_set]; exact this), HP3, HP2, HP4⟩
                  case measure => simp [intOf]; omega
              · skip
                go_simp
                refine hK.out _ _ ?_ (fun hH1 => ?_)
                · simp [go_sem, x1, hMu]
                clear hK K
                refine wpAnyH_ready (rs := [6]) (by kernel_rfl) (by simp) (AllReadyH.cons (o := _) rfl (fun K hK => ?_) AllReadyH.nil)
                go_simp
                refine hK.out _ _ ?_ (fun hH2 => ?_)
                · exact hH1
                clear hK K
                refine wpAnyH_ready (rs := [7]) (by kernel_rfl) (by simp) (AllReadyH.cons (o := _) rfl (fun K hK => ?_) AllReadyH.nil)
                go_simp
                refine hK.out _ _ ?_ (fun hH3 => ?_)
                · exact hH2
                clear hK K
                refine wpAnyH_ready (rs := [10]) (by kernel_rfl) (by simp) (AllReadyH.cons (o := _) rfl (fun K hK => ?_) AllReadyH.nil)
                refine step_one2 (w := wu.drew) etInts rfl (.tmp 112) (.tmp 114) rfl [.int .i64 u] rfl (N + 3) xs.length (zVs xs) (.slice xa xs.length xc) rfl HROU.out rfl (by simp [Value.oneCell']) (by omega) (by show N + 3 ≤ wu.heap.size; exact hzu) ?_
                intro a9 c9 w9 ho9 hf9 hq9
                have hf9' : Fr (fun q => (chV (xs, xa, xc)).ownBlock = some q) wu w9 := (Fr.of_below (F := fun q => (chV (xs, xa, xc)).ownBlock = some q) (Below.drew (Below.refl _ wu))).trans hf9 (fun i hi => .inl hi)
                have HL9 := Lib.hid' (show (xs ++ [u]).length = xs.length + 1 from by simp)
                obtain ⟨⟨zg, gg, hx7, hMg⟩, hp2, hp3, hp4⟩ := HJU.out.put hzu hltk HX.out (xs ++ [u], a9, c9) HXU.out (by decide) (by decide) hf9' (by unfold chV; simp only [HL9.out, zVs_append]; exact ho9) (fun b hb => by unfold chV at hb; simp only [HL9.out] at hb; exact hq9 b hb)
                simp only [chV, HL9.out] at zg hp2 hp3 hp4
                have z1 := hx7.box.1 1 _ rfl
                have HP2 := Lib.hid' hp2
                have HP3 := Lib.hid' hp3
                have HP4 := Lib.hid' (hp4 _ HBU.out)
                have HMG := Lib.hid' hMg
                clear ho9 hf9 hf9' hp2 hp3 hp4 hx7 hMg hq9
                refine hK.out _ _ ?_ (fun hH4 => ?_)
                · exact z1
                clear hK K
                refine wpAnyH_ready (rs := [11]) (by kernel_rfl) (by simp) (AllReadyH.cons (o := _) rfl (fun K hK => ?_) AllReadyH.nil)
                go_simp
                refine hK.out _ _ ?_ (fun hH5 => ?_)
                · exact z1
                clear hK K
                refine wpAnyH_ready (rs := [12]) (by kernel_rfl) (by simp) (AllReadyH.cons (o := _) rfl (fun K hK => ?_) AllReadyH.nil)
                go_simp
                refine hK.out _ _ ?_ (fun hH6 => ?_)
                · exact (fr_set _ _ _ _).cell z1 HMG.out
                clear hK K
                refine wpAnyH_done (by kernel_rfl) ?_ _
                generalize w9.setCell ⟨g, k, none⟩ (.slice a9 (xs.length + 1) c9) = w8 at *
                go_wp2_with fail
                go_roundw
                case rel => exact ⟨j + 1, Ks.set k (xs ++ [u], a9, c9), by go_num, by omega, Lib.hid' (by rw [List.length_set]; exact HL.out), Lib.hid' (fun z hz => by rcases List.mem_or_eq_of_mem_set hz with hz | rfl; exact HK4.out z hz; simp only [HL9.out]; omega), Lib.hid' (by have := HF2.out; rw [HSTEP.out] at this; rw [List.map_set]; exact this), HP3, HP2, HP4⟩
                case measure => simp [intOf]; omega

            · obtain rfl : j = S.length := by omega
              have HFN := Lib.hid' (show fillC D S ((X.map (·.1)).drop (k + 1)) (k + 1) (Ks.map (·.1)) = FIN by have := HFS.out; rw [List.drop_length] at this; exact this)
              go_wp2_with fail
              go_roundw
              case rel => exact ⟨k + 1, Ks, by go_num, by omega, HL, HK4, HFN, HBX, HJ, HB⟩
              case measure => simp [intOf]; omega
        · obtain rfl : k = X.length := by omega
          have x1 := HBX.out.box.1 1 _ rfl
          have x0 := HBX.out.box.1 0 _ rfl
          have HCSN := Lib.hid' (show Ks.map (·.1) = FIN by have := HFS.out; rwa [show X.length = (X.map (·.1)).length from by simp, fill_end] at this)
          have HRET := Lib.hid' (show NextR NX w (.returned (.tuple #[.agg #[.int .i64 (e + 1), .slice a2 K0.length c2], .nilIface])) ((wr.setCell ⟨N + 2, 0, none⟩ (.int .i64 (e + 1))).setCell ⟨N + 2, 1, none⟩ (.slice a2 K0.length c2)) from by
            rw [HFI.out]
            refine ⟨e + 1, a2, c2, Ks, by unfold pjV; rw [HL.out]; rfl, by unfold docJ; rw [HCSN.out], ?_, ?_⟩
            · exact (HJ.out.fr (F := fun q => q = N + 2) ((fr_set _ _ _ _).trans (fr_set _ _ _ _) (fun i hi => .inl hi)) (fun q hq => by omega)).base (by rw [← HN.out]; omega)
            · rw [← HN.out]; exact (HBW.out.setCell (by simp) _).setCell (by simp) _)
          go_wp2
          refine bodyPost_ret (v := .tuple #[.agg #[.int .i64 (e + 1), .slice a2 K0.length c2], .nilIface]) (by simp [results, Tryz.results34, go_sem, x0, x1, k60, k61]) rfl HRET.out
end Go.Proofs.YtkljeefncopodaaGreat
