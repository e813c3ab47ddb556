/- Layer 11 (proj), the document's: what follows a projection. -/
import Derived.Test.YtjkbcjliaacebaaPrjV
import Derived.Test.YtjkbcjliaacebaaPrjN
namespace Go.Proofs.Ytjkbcjliaacebaa
open Go.RowKit
set_option linter.unusedSimpArgs false
set_option linter.unusedVariables false
set_option maxRecDepth 100000

/- plain -/
theorem liveC_next {D l : List Int} {j : Nat} (hj : j < l.length) : liveC D (l.take (j + 1)) = if D.contains l[j] = true then liveC D (l.take j) else liveC D (l.take j) ++ [l[j]] := by
  unfold liveC
  rw [List.take_succ_eq_append_getElem hj, List.filter_append]
  by_cases h : D.contains l[j] = true
  · rw [if_pos h]; simp only [List.filter_cons, h, Bool.not_true, List.filter_nil, List.append_nil]; simp
  · have h' : D.contains l[j] = false := by simpa using h
    rw [if_neg h]; simp only [List.filter_cons, h', Bool.not_false, List.filter_nil, if_true]
theorem liveC_len (D l : List Int) : (liveC D l).length ≤ l.length := List.length_filter_le _ _
theorem rnext_bad {p : Pj} {D S : List Int} (h : p.rCheck ≠ 0) : p.rNext D S = (Pj.zero, p.rCheck) := if_pos h
theorem rnext_1 {p : Pj} {D S : List Int} (h : p.rCheck = 0) (h1 : (D ++ S).any oddU = true) : p.rNext D S = (Pj.zero, 1) := by unfold Pj.rNext; rw [if_neg (by simpa using h), if_pos h1]
theorem rnext_5 {p : Pj} {D S : List Int} (h : p.rCheck = 0) (h1 : ¬ (D ++ S).any oddU = true) (h2 : p.e = 1099511627776) : p.rNext D S = (Pj.zero, 5) := by unfold Pj.rNext; rw [if_neg (by simpa using h), if_neg h1, if_pos h2]
theorem rnext_13 {p : Pj} {D S : List Int} (h : p.rCheck = 0) (h1 : ¬ (D ++ S).any oddU = true) (h2 : ¬ p.e = 1099511627776) (h3 : (p.cs.map (liveC D)).any (·.isEmpty) = true) : p.rNext D S = (Pj.zero, 13) := by unfold Pj.rNext; rw [if_neg (by simpa using h), if_neg h1, if_neg h2, if_pos h3]
theorem rnext_0 {p : Pj} {D S : List Int} (h : p.rCheck = 0) (h1 : ¬ (D ++ S).any oddU = true) (h2 : ¬ p.e = 1099511627776) (h3 : ¬ (p.cs.map (liveC D)).any (·.isEmpty) = true) : p.rNext D S = (⟨p.e + 1, rFill D S p.cs 0 (p.cs.map (liveC D))⟩, 0) := by unfold Pj.rNext; rw [if_neg (by simpa using h), if_neg h1, if_neg h2, if_neg h3]

theorem OwnJ.box {w w' : World} {B M t : Nat} {R : List Value} {a : Option Addr} {c : Nat} {K : List Ch} (h : OwnJ w B a c K) (hx : BoxW M R t w) (h1 : t ≠ 3) (h2 : t ≠ 25) (hf : Fr (fun q => q = M) w w') : OwnJ w' B a c K :=
  have hF : ∀ {e' n : Nat} {v : Value} {xs : List Value}, w.ownsRow B e' 1 v n xs → t ≠ e' → SlIn (fun q => ¬ q = M) v := fun ho hne => own_slin ho (fun b hb h => own_not_box ho hx hne (h ▸ hb))
  ⟨own_fr h.row hf (hF h.row h2), fun x hm => own_fr (h.each x hm) hf (hF (h.each x hm) h1), h.apart⟩
theorem live_next {D : List Int} {L : List (List Int)} {k : Nat} (hk : k < L.length) : (L.take (k + 1)).map (liveC D) = (L.take k).map (liveC D) ++ [liveC D L[k]] := by
  rw [List.take_succ_eq_append_getElem hk, List.map_append]; rfl
theorem rsp_full {D : List Int} {i m j : Nat} {S : List Int} {cs : List (List Int)} (hj : j < S.length) (h : ¬ (cs.getD i []).length < m) : rSpares D i m (S.drop j) cs = cs := by
  rw [List.drop_eq_getElem_cons hj]; unfold rSpares; rw [if_neg h]
theorem rsp_next {D : List Int} {i m j : Nat} {S : List Int} {cs : List (List Int)} (hj : j < S.length) (h : (cs.getD i []).length < m) : rSpares D i m (S.drop j) cs = rSpares D i m (S.drop (j + 1)) (if D.contains S[j] = false ∧ cs.flatten.count S[j] = 0 then cs.set i (cs.getD i [] ++ [S[j]]) else cs) := by
  rw [List.drop_eq_getElem_cons hj]; rw [rSpares, if_pos h]
def RNextR (r : Pj × Nat) (w : World) (en : Ending) (w' : World) : Prop :=
  ∃ e a c K, en = .returned (.tuple #[pjV e a c K, .int .i64 r.2]) ∧ docJ e K = r.1 ∧ OwnJ w' w.heap.size a c K ∧ Below w.heap.size w w'
set_option maxHeartbeats 8000000 in
theorem rnext_any (e : Int) (a : Option Addr) (c : Nat) (X : List Ch) (D S : List Int) (da sa : Option Addr) (dc sc : Nat) (w : World) (h : Chs w a c X) (ht : (flatC X).length ≤ 1099511627776)
    (hD : Zs w (.slice da D.length dc) D) (hS : Zs w (.slice sa S.length sc) S) (hd4 : D.length ≤ 1048576) (hs4 : S.length ≤ 1048576) :
    Calls Try.prog 12 #[pjV e a c X, .slice da D.length dc, .slice sa S.length sc] w (RNextR ((docJ e X).rNext D S) w) := by
  have HS := Lib.hid' h
  have hlen := h.len
  have HD := Lib.hid' hD
  have HSP := Lib.hid' hS
  have hDl := hD.len
  have hSl := hS.len
  clear h hD hS
  have HV := Lib.hid' (show pjV e a c X = .agg #[.int .i64 e, .slice a X.length c] from rfl)
  rw [HV.out]
  obtain ⟨NX, hNX⟩ : ∃ NX, NX = (docJ e X).rNext D S := ⟨_, rfl⟩
  rw [← hNX]
  have HNX := Lib.hid' hNX
  clear hNX
  go_enter Try.func12, Try.ntmps12
  go_wp2_with fail
  obtain ⟨w3, hw3⟩ : ∃ w3, w3 = ((w.alloc (.cells #[.int .i64 e, .slice a X.length c] 33)).alloc (.cells #[.int .i64 0, .slice none 0 0] 33)) := ⟨_, rfl⟩
  obtain ⟨N, hN⟩ : ∃ N, N = w.heap.size := ⟨_, rfl⟩
  have HZ := Lib.hid' (show w3.heap.size = N + 2 by rw [hw3, hN]; simp)
  have HB3 := Lib.hid' (show Below N w w3 by rw [hw3, hN]; go_grown)
  have HK := Lib.hid' (show (w3.cell? ⟨N, 0, none⟩ = some (.int .i64 e) ∧ w3.cell? ⟨N, 1, none⟩ = some (.slice a X.length c)) ∧ (w3.cell? ⟨N + 1, 0, none⟩ = some (.int .i64 0) ∧ w3.cell? ⟨N + 1, 1, none⟩ = some (.slice none 0 0) ∧ w3.frozen? ⟨N + 1, 0, none⟩ = false ∧ w3.frozen? ⟨N + 1, 1, none⟩ = false) by
    rw [hw3, hN]; refine ⟨⟨?_, ?_⟩, ?_, ?_, ?_, ?_⟩ <;> simp [go_sem])
  have HOLD : Hid (∀ wq, Below (N + 2) w3 wq → ((wq.cell? ⟨N, 0, none⟩ = some (.int .i64 e) ∧ wq.cell? ⟨N, 1, none⟩ = some (.slice a X.length c)) ∧ (wq.cell? ⟨N + 1, 0, none⟩ = some (.int .i64 0) ∧ wq.cell? ⟨N + 1, 1, none⟩ = some (.slice none 0 0) ∧ wq.frozen? ⟨N + 1, 0, none⟩ = false ∧ wq.frozen? ⟨N + 1, 1, none⟩ = false)) ∧ Below N w wq ∧ N + 2 ≤ wq.heap.size) := Lib.hid' (by
    intro wq hb
    obtain ⟨hc, hf⟩ := bcell hb
    obtain ⟨⟨q1, q2⟩, q4, q5, q6, q7⟩ := HK.out
    refine ⟨⟨⟨(hc _ _ (by omega)).trans q1, (hc _ _ (by omega)).trans q2⟩, (hc _ _ (by omega)).trans q4, (hc _ _ (by omega)).trans q5, (hf _ _ (by omega)).trans q6, (hf _ _ (by omega)).trans q7⟩, HB3.out.trans (hb.mono (by omega)), ?_⟩
    have := hb.size; have := HZ.out; omega)
  have HERR : Hid (∀ wq (err : Nat), Below (N + 2) w3 wq → NX = (Pj.zero, err) → RNextR NX w (.returned (.tuple #[pjV 0 none 0 [], .int .i64 err])) ((wq.setCell ⟨N + 1, 0, none⟩ (.int .i64 0)).setCell ⟨N + 1, 1, none⟩ (.slice none 0 0))) := Lib.hid' (by
    intro wq err hb hx
    subst hx
    exact ⟨0, none, 0, [], rfl, rfl, OwnJ.nil _ _, by rw [← hN]; exact ((HOLD.out wq hb).2.1.setCell (by simp) _).setCell (by simp) _⟩)
  rw [← hw3]
  have HN := Lib.hid' hN
  simp only [← hN]
  clear hw3 hN
  refine (rcheck11_any e a c X w3 (HS.out.below (by rw [← HN.out]; exact Nat.le_refl _) HB3.out) ht).mono ?_
  rintro en w4 ⟨rfl, hb4⟩
  have HB4 := Lib.hid' (show Below (N + 2) w3 w4 from hb4.mono (by rw [HZ.out]; exact Nat.le_refl _))
  clear hb4
  obtain ⟨⟨⟨k30, k31⟩, k60, k61, f60, f61⟩, hbw4, hz4⟩ := HOLD.out w4 HB4.out
  have HBW4 := Lib.hid' hbw4
  clear hbw4
  obtain ⟨ck, hck⟩ : ∃ n, n = (docJ e X).check := ⟨_, rfl⟩
  have HCK := Lib.hid' hck
  rw [← hck]
  clear hck
  by_cases hc : ck = 0
  rotate_left
  · have HE := Lib.hid' (HERR.out w4 ck HB4.out (HNX.out.trans (by rw [rnext_bad (by rw [Pj.check_ref, ← HCK.out]; exact hc), Pj.check_ref, ← HCK.out])))
    have hcb : ((ck : Int) != 0) = true := by rw [bne_iff_ne]; omega
    clear hc
    go_wp2
    refine bodyPost_ret (v := .tuple #[pjV 0 none 0 [], .int .i64 ck]) (by simp [results, Try.results12, go_sem, pjV, k60, k61]) rfl HE.out
  have hcb : ((ck : Int) != 0) = false := by rw [bne_eq_false_iff_eq]; omega
  have HCK0 := Lib.hid' (show (docJ e X).rCheck = 0 by rw [Pj.check_ref, ← HCK.out]; exact hc)
  have HOK := Lib.hid' (Pj.ok_of (show (docJ e X).check = 0 by rw [← HCK.out]; exact hc))
  have hX4 : X.length ≤ 4 := by have := HOK.out.n1; unfold docJ at this; simpa using this
  have HX4 := Lib.hid' (show ∀ x ∈ X, x.1.length ≤ 4 from fun x hx => (HOK.out.c x.1 (List.mem_map_of_mem hx)).2)
  have he0 : 0 ≤ e := HOK.out.e0
  have he1 : e ≤ 1099511627776 := HOK.out.e1
  clear hc HCK
  have hza : N + 2 ≤ (w4.alloc (.cells #[] 3)).heap.size := by simp; omega
  have HDA := Lib.hid' (show Zs (w4.alloc (.cells #[] 3)) (.slice da D.length dc) D from SlV.below (SlV.below HD.out (by rw [← HN.out]; exact Nat.le_refl _) HBW4.out) (Nat.le_refl _) (by go_grown))
  have HOA := Lib.hid' (own_base (B' := N + 2) (own_empty w4 3 1) hz4)
  have HGA := Lib.hid' (show Below (N + 2) w3 (w4.alloc (.cells #[] 3)) from HB4.out.alloc hz4 _)
  go_wp2_with (at_builtin; refine append_sl etInts rfl (.tmp 25) (.tmp 26) rfl (N + 2) 0 [] _ rfl HOA.out D.length (zVs D) _ rfl HDA.out (by simp [zVs]) (zVs_one _) (by omega) hza ?_)
  intro a5 c5 w5 ho5 hf5
  have HB5 := Lib.hid' (hf5.row HOA.out (Nat.le_refl _) hza HGA.out)
  have hz5 : N + 2 ≤ w5.heap.size := by have := hf5.size; omega
  have HO5 := Lib.hid' ho5
  clear ho5 hf5 k30 k31 k60 k61 f60 f61 HDA HOA HGA hza
  have HS5 := Lib.hid' (show Zs w5 (.slice sa S.length sc) S from SlV.below HSP.out (by rw [← HN.out]; exact Nat.le_refl _) (HOLD.out w5 HB5.out).2.1)
  go_wp2_with (at_builtin; refine append_sl etInts rfl (.tmp 27) (.tmp 28) rfl (N + 2) D.length (zVs D) _ rfl HO5.out S.length (zVs S) _ rfl HS5.out (by simp [zVs]) (zVs_one _) (by omega) hz5 ?_)
  intro a6 c6 w6 ho6 hf6
  have HB6 := Lib.hid' (hf6.row HO5.out (Nat.le_refl _) hz5 HB5.out)
  have hz6 : N + 2 ≤ w6.heap.size := by have := hf6.size; omega
  obtain ⟨DS, hds⟩ : ∃ l, l = D ++ S := ⟨_, rfl⟩
  have HDL := Lib.hid' (show D.length + S.length = DS.length by rw [hds, List.length_append])
  rw [← zVs_append, ← hds, HDL.out] at ho6
  rw [HDL.out]
  have HDS := Lib.hid' hds
  have HZ6 := Lib.hid' (show Zs w6 (.slice a6 DS.length c6) DS from SlV.of_own ho6)
  have hdsl := HZ6.out.len
  clear ho6 hf6 HO5 HS5 hds HB5 hz5
  obtain ⟨⟨⟨k30, k31⟩, k60, k61, f60, f61⟩, hbw6, _⟩ := HOLD.out w6 HB6.out
  have HBW6 := Lib.hid' hbw6
  clear hbw6
  go_wp2_with fail
  go_loop [31] (fun v31 => ∃ k : Nat, v31 = .int .i64 k ∧ k ≤ DS.length ∧ Hid (∀ y ∈ DS.take k, oddU y = false)) (fun v31 => DS.length - (intOf v31).toNat)
  case atStart => exact ⟨0, rfl, Nat.zero_le _, Lib.hid' (by simp)⟩
  case round =>
    obtain ⟨k, rfl, hk, HNO⟩ := hrel
    by_cases hlt : k < DS.length
    · obtain ⟨b, off, rfl, hb, hc⟩ := HZ6.out.at hlt
      have HT := Lib.hid' (fun h2 => take_no (f := oddU) hlt HNO.out h2)
      have HM := Lib.hid' (List.getElem_mem hlt)
      generalize DS[k] = z at *
      by_cases hodd : z < 0 ∨ 7 < z
      · have HE := Lib.hid' (HERR.out w6 1 HB6.out (HNX.out.trans (rnext_1 HCK0.out (by rw [← HDS.out]; exact List.any_eq_true.2 ⟨z, HM.out, odd_t hodd⟩))))
        by_cases hz0 : z < 0
        · clear hodd
          go_wp2
          refine bodyPost_ret (v := .tuple #[pjV 0 none 0 [], .int .i64 1]) (by simp [results, Try.results12, go_sem, pjV, k60, k61]) rfl HE.out
        · have hz7 : 7 < z := by omega
          clear hodd
          go_wp2
          refine bodyPost_ret (v := .tuple #[pjV 0 none 0 [], .int .i64 1]) (by simp [results, Try.results12, go_sem, pjV, k60, k61]) rfl HE.out
      · have HF := Lib.hid' (HT.out (odd_f hodd))
        have hz0 : ¬ z < 0 := by omega
        have hz7 : ¬ 7 < z := by omega
        clear hodd
        go_wp2_with fail
        go_round
        case rel => exact ⟨k + 1, by go_num, by omega, HF⟩
        case measure => simp [intOf]; omega
    · have HNDS := Lib.hid' (show ¬ (D ++ S).any oddU = true by
        have h1 := HNO.out
        rw [List.take_of_length_le (by omega)] at h1
        rw [← HDS.out, List.any_eq_true]; rintro ⟨y, hy, h⟩; rw [h1 y hy] at h; cases h)
      clear HNO
      cases hE : (e == 1099511627776) with
      | true =>
        have HE := Lib.hid' (HERR.out w6 5 HB6.out (HNX.out.trans (rnext_5 HCK0.out HNDS.out (show e = _ by simpa using hE))))
        go_wp2
        refine bodyPost_ret (v := .tuple #[pjV 0 none 0 [], .int .i64 5]) (by simp [results, Try.results12, go_sem, pjV, k60, k61]) rfl HE.out
      | false =>
      have HEF := Lib.hid' (show ¬ e = 1099511627776 by simpa using hE)
      have he2 : e < 1099511627776 := by have := HEF.out; omega
      have hN6 : N < w6.heap.size := by omega
      go_wp2_with fail
      clear hN6
      have HBX7 := Lib.hid' (show BoxW w6.heap.size [.int .i64 (e + 1), .slice none 0 0] 33 (w6.alloc (.cells #[.int .i64 (e + 1), .slice none 0 0] 33)) from BoxW.start _ _ _)
      have HB7 := Lib.hid' (show Below (N + 2) w3 (w6.alloc (.cells #[.int .i64 (e + 1), .slice none 0 0] 33)) from HB6.out.alloc hz6 _)
      generalize w6.alloc (.cells #[.int .i64 (e + 1), .slice none 0 0] 33) = w7 at *
      obtain ⟨M, hM⟩ : ∃ M, M = w6.heap.size := ⟨_, rfl⟩
      have hNM : N + 2 ≤ M := by omega
      simp only [← hM] at HBX7 ⊢
      clear hM hz6 HZ6 HDL HDS hdsl hE k30 k31 k60 k61 f60 f61 HBW6 HB6
      obtain ⟨XL, hXL⟩ : ∃ L, L = X.map (·.1) := ⟨_, rfl⟩
      have HXL := Lib.hid' hXL
      have HXN := Lib.hid' (show XL.length = X.length by rw [hXL, List.length_map])
      clear hXL
      go_loopw [54] (fun v54 wr => ∃ (k : Nat) (a' : Option Addr) (c' : Nat) (Ks : List Ch), v54 = .int .i64 k ∧ k ≤ X.length ∧ Hid (Ks.length = k) ∧ Hid (Ks.map (·.1) = (XL.take k).map (liveC D)) ∧ Hid (∀ y ∈ (XL.take k).map (liveC D), y.isEmpty = false) ∧ Hid (BoxW M [.int .i64 (e + 1), .slice a' Ks.length c'] 33 wr) ∧ Hid (OwnJ wr (N + 2) a' c' Ks) ∧ Hid (Below (N + 2) w3 wr)) (fun v54 _ => X.length - (intOf v54).toNat)
      case atStart => exact ⟨0, none, 0, [], rfl, Nat.zero_le _, Lib.hid' rfl, Lib.hid' rfl, Lib.hid' (by simp), HBX7, Lib.hid' (OwnJ.nil _ _), HB7⟩
      case round =>
        clear HBX7 HB7
        obtain ⟨k, a', c', Ks, rfl, hk, HL, HKs, HNE, HBX, HJ, HB⟩ := hrel
        obtain ⟨⟨⟨k30, k31⟩, k60, k61, f60, f61⟩, hbw, hzr⟩ := HOLD.out wr HB.out
        have HBW := Lib.hid' hbw
        clear hbw k30 k31 k60 k61 f60 f61
        by_cases hltx : k < X.length
        · obtain ⟨b, off, rfl, hb, hc, hz⟩ := (HS.out.below (by rw [← HN.out]; exact Nat.le_refl _) HBW.out).at hltx
          have hltl : k < XL.length := by rw [HXN.out]; exact hltx
          have HZY := Lib.hid' hz
          have hy4 := HX4.out _ (List.getElem_mem hltx)
          have HYL := Lib.hid' (show XL[k] = X[k].1 by rw [List.getElem_of_eq HXL.out]; exact List.getElem_map _)
          have HLN := Lib.hid' (live_next (D := D) hltl)
          rw [HYL.out] at HLN
          clear hz HYL
          generalize X[k] = y at *
          obtain ⟨ys, ya, yc⟩ := y
          simp only at hc hy4 HZY HLN
          go_wp2_with fail
          have HOA := Lib.hid' (own_empty wr 3 1)
          have HGA := Lib.hid' (show Below wr.heap.size wr (wr.alloc (.cells #[] 3)) by go_grown)
          generalize wr.alloc (.cells #[] 3) = wa at *
          obtain ⟨wo, rfl⟩ : ∃ wo : World, wo = wr := ⟨_, rfl⟩
          obtain ⟨L0, hL0⟩ : ∃ L0, L0 = wo.heap.size := ⟨_, rfl⟩
          rw [← hL0] at HOA
          simp only [← hL0]
          have HL0 := Lib.hid' hL0
          clear hL0
          go_loopw [14, 61] (fun v14 v61 ws => ∃ (j : Nat) (a2 : Option Addr) (c2 : Nat), v61 = .int .i64 j ∧ j ≤ ys.length ∧ v14 = .slice a2 (liveC D (ys.take j)).length c2 ∧ Hid (ws.ownsRow L0 3 1 (.slice a2 (liveC D (ys.take j)).length c2) (liveC D (ys.take j)).length (zVs (liveC D (ys.take j)))) ∧ Hid (Below L0 wo ws)) (fun _ v61 _ => ys.length - (intOf v61).toNat)
          case atStart => exact ⟨0, some ⟨L0, 0, none⟩, 0, rfl, Nat.zero_le _, rfl, HOA, by rw [HL0.out]; exact HGA⟩
          case round =>
            clear HOA HGA
            obtain ⟨j, a2, c2, rfl, hj, rfl, HO, HBJ⟩ := hrel
            have hzs : L0 ≤ wr.heap.size := by rw [HL0.out]; exact HBJ.out.size
            by_cases hltj : j < ys.length
            · obtain ⟨b3, off3, rfl, hb3, hc3⟩ := (show Zs wr (.slice ya ys.length yc) ys from SlV.below HZY.out (by rw [← HL0.out]; exact Nat.le_refl _) HBJ.out).at hltj
              have HLT := Lib.hid' (liveC_next (D := D) hltj)
              have hll : (liveC D (ys.take j)).length ≤ 4 := by have := liveC_len D (ys.take j); rw [List.length_take] at this; omega
              have HDZ := Lib.hid' (SlV.below (SlV.below HD.out (by rw [← HN.out]; exact Nat.le_refl _) HBW.out) (by rw [← HL0.out]; exact Nat.le_refl _) HBJ.out)
              generalize ys[j] = u at *
              obtain ⟨xs, hxs⟩ : ∃ xs, xs = liveC D (ys.take j) := ⟨_, rfl⟩
              rw [← hxs] at HLT HO hll ⊢
              clear hxs
              go_wp2_with fail
              refine (rhas_any u D da dc wr HDZ.out).mono ?_
              rintro en wq ⟨rfl, rfl⟩
              obtain ⟨B, hBB⟩ : ∃ B, B = D.contains u := ⟨_, rfl⟩
              rw [← hBB] at HLT ⊢
              clear hBB
              cases B with
              | true =>
                have HQ := Lib.hid' (HLT.out.trans (if_pos rfl))
                go_wp2_with fail
                go_roundw
                case rel => exact ⟨j + 1, a2, c2, by go_num, by omega, by rw [HQ.out], by rw [HQ.out]; exact HO, HBJ⟩
                case measure => simp [intOf]; omega
              | false =>
                have HQ := Lib.hid' (HLT.out.trans (if_neg (by decide)))
                go_wp2_with (at_builtin; refine append_one etInts rfl (.tmp 69) (.tmp 71) rfl [.int .i64 u] rfl L0 xs.length (zVs xs) _ rfl HO.out rfl (by simp [Value.oneCell']) (by omega) hzs ?_)
                intro a4 c4 w8 ho8 hf8
                have HQL := Lib.hid' (show (liveC D (ys.take (j + 1))).length = xs.length + 1 by rw [HQ.out]; simp)
                have HO8 := Lib.hid' (show w8.ownsRow L0 3 1 (.slice a4 (liveC D (ys.take (j + 1))).length c4) (liveC D (ys.take (j + 1))).length (zVs (liveC D (ys.take (j + 1)))) by rw [HQL.out, HQ.out, zVs_append]; exact ho8)
                have HB8 := Lib.hid' (hf8.row HO.out (Nat.le_refl _) hzs HBJ.out)
                clear ho8 hf8
                go_wp2_with fail
                go_roundw
                case rel => exact ⟨j + 1, a4, c4, by go_num, by omega, by rw [HQL.out], HO8, HB8⟩
                case measure => simp [intOf]; omega
            · have HTK := Lib.hid' (show ys.take j = ys from List.take_of_length_le (by omega))
              rw [HTK.out] at HO ⊢
              have hll : (liveC D ys).length ≤ 4 := by have := liveC_len D ys; omega
              have hzL : N + 2 ≤ L0 := by rw [HL0.out]; exact hzr
              have HBS := Lib.hid' (HB.out.trans (HBJ.out.mono hzL))
              obtain ⟨xs, hxs⟩ : ∃ xs, xs = liveC D ys := ⟨_, rfl⟩
              rw [← hxs] at HO hll HLN ⊢
              clear hxs
              by_cases h0 : xs.length = 0
              · have HXE := Lib.hid' (show ((XL.map (liveC D)).any (·.isEmpty)) = true by
                  rw [List.any_eq_true]
                  refine ⟨xs, ?_, by simpa using h0⟩
                  have h1 : xs ∈ (XL.take (k + 1)).map (liveC D) := by rw [HLN.out]; simp
                  obtain ⟨y, hy, he⟩ := List.mem_map.1 h1
                  exact List.mem_map.2 ⟨y, List.mem_of_mem_take hy, he⟩)
                rw [HXL.out] at HXE
                have HE := Lib.hid' (HERR.out wr 13 HBS.out (HNX.out.trans (rnext_13 HCK0.out HNDS.out HEF.out HXE.out)))
                obtain ⟨⟨⟨k30, k31⟩, k60, k61, f60, f61⟩, _, _⟩ := HOLD.out wr HBS.out
                have hb0 : ((xs.length : Int) == 0) = true := by rw [beq_iff_eq]; omega
                clear h0
                go_wp2
                refine bodyPost_ret (v := .tuple #[pjV 0 none 0 [], .int .i64 13]) (by simp [results, Try.results12, go_sem, pjV, k60, k61]) rfl HE.out
              have hb0 : ((xs.length : Int) == 0) = false := by rw [beq_eq_false_iff_ne]; omega
              have HX0 := Lib.hid' h0
              clear h0
              have hle0 : wo.heap.size ≤ L0 := by rw [HL0.out]; exact Nat.le_refl _
              have HBXs := Lib.hid' (HBX.out.below hle0 HBJ.out)
              have HJs := Lib.hid' (HJ.out.below hle0 HBJ.out)
              have x1 := HBXs.out.box.1 1 _ rfl
              have hkl : Ks.length ≤ 4 := by have := HL.out; omega
              have hzw : N + 2 ≤ wr.heap.size := by omega
              have hMw := HBXs.out.lt
              have HLK := Lib.hid' (show (Ks ++ [((xs, a2, c2) : Ch)]).length = Ks.length + 1 by simp)
              go_wp2_with (at_builtin; refine append_one etRows rfl (.tmp 79) (.tmp 81) rfl [.slice a2 xs.length c2] rfl (N + 2) Ks.length (Ks.map chV) _ rfl HJs.out.row rfl (by simp [Value.oneCell']) (by omega) (by omega) ?_)
              intro a9 c9 w9 ho9 hf9
              have HBX9 := Lib.hid' (HBXs.out.fr hf9 (own_not_box HJs.out.row HBXs.out (by decide)))
              have HJ9 := Lib.hid' (HJ.out.push (y := (xs, a2, c2)) hzr (by rw [← HL0.out]; exact HBJ.out) (by rw [← HL0.out]; exact HO.out) hf9 ho9)
              have HB9 := Lib.hid' (hf9.row HJs.out.row (Nat.le_refl _) hzw HBS.out)
              have y1 := HBX9.out.box.1 1 _ rfl
              have g1 := HBX9.out.box.2.1 1
              clear ho9 hf9 x1
              have hfs : Fr (fun q => q = M) w9 (w9.setCell ⟨M, 1, none⟩ (.slice a9 (Ks.length + 1) c9)) := fr_set _ _ _ _
              have HX10 := Lib.hid' (show BoxW M [.int .i64 (e + 1), .slice a9 (Ks ++ [((xs, a2, c2) : Ch)]).length c9] 33 (w9.setCell ⟨M, 1, none⟩ (.slice a9 (Ks.length + 1) c9)) by rw [HLK.out]; exact HBX9.out.set 1 _)
              have HJ10 := Lib.hid' (HJ9.out.box HBX9.out (by decide) (by decide) hfs)
              have HB10 := Lib.hid' (HB9.out.trans (hfs.below (by have := HB9.out.size; have := HZ.out; omega) (fun q hq => by omega)))
              clear hfs
              go_wp2_with fail
              go_roundw
              case rel => exact ⟨k + 1, a9, c9, Ks ++ [(xs, a2, c2)], by go_num, by omega, Lib.hid' (by rw [HLK.out, HL.out]), Lib.hid' (by rw [List.map_append, HKs.out, HLN.out]; rfl), Lib.hid' (by
                rw [HLN.out]; intro y hy
                rcases List.mem_append.1 hy with hy | hy
                · exact HNE.out y hy
                · simp only [List.mem_singleton] at hy; subst hy; rw [Bool.eq_false_iff]; intro h; exact HX0.out (by rw [List.isEmpty_iff.1 h]; rfl)), HX10, HJ10, HB10⟩
              case measure => simp [intOf]; omega
        · obtain rfl : k = X.length := by omega
          have HKE := Lib.hid' (show Ks.map (·.1) = XL.map (liveC D) by have := HKs.out; rwa [List.take_of_length_le (by rw [HXN.out]; exact Nat.le_refl _)] at this)
          have HNA := Lib.hid' (show ¬ (XL.map (liveC D)).any (·.isEmpty) = true by
            have h1 := HNE.out
            rw [List.take_of_length_le (by rw [HXN.out]; exact Nat.le_refl _)] at h1
            rw [List.any_eq_true]; rintro ⟨y, hy, h⟩; rw [h1 y hy] at h; cases h)
          have HFIN := Lib.hid' (HNX.out.trans (rnext_0 HCK0.out HNDS.out HEF.out (show ¬ ((docJ e X).cs.map (liveC D)).any (·.isEmpty) = true by rw [show (docJ e X).cs = X.map (·.1) from rfl, ← HXL.out]; exact HNA.out)))
          obtain ⟨FIN, hFI⟩ : ∃ FIN, FIN = rFill D S XL 0 (XL.map (liveC D)) := ⟨_, rfl⟩
          have HFI := Lib.hid' (show NX = (⟨e + 1, FIN⟩, 0) by rw [hFI, HXL.out]; exact HFIN.out)
          have HFS := Lib.hid' (show rFill D S (XL.drop 0) 0 (Ks.map (·.1)) = FIN by rw [HKE.out, hFI]; rfl)
          clear hFI HFIN HNA HKs HNE HERR
          have HK4 := Lib.hid' (show ∀ x ∈ Ks, x.1.length ≤ 4 by
            intro x hx
            have h1 : x.1 ∈ XL.map (liveC D) := by rw [← HKE.out]; exact List.mem_map_of_mem hx
            obtain ⟨y, hy, he⟩ := List.mem_map.1 h1
            rw [HXL.out] at hy
            obtain ⟨z, hz, hzy⟩ := List.mem_map.1 hy
            rw [← he]
            have h2 := liveC_len D y
            have h3 := HX4.out z hz
            rw [hzy] at h3
            exact Nat.le_trans h2 h3)
          clear HKE
          have x1 := HBX.out.box.1 1 _ rfl
          go_wp2_with fail
          clear x1
          obtain ⟨K0, rfl⟩ : ∃ K0 : List Ch, K0 = Ks := ⟨_, rfl⟩
          go_loopw [88] (fun v88 wr => ∃ (k : Nat) (Ks : List Ch), v88 = .int .i64 k ∧ k ≤ K0.length ∧ Hid (Ks.length = K0.length) ∧ Hid (∀ x ∈ Ks, x.1.length ≤ 4) ∧ Hid (rFill D S (XL.drop k) k (Ks.map (·.1)) = FIN) ∧ Hid (BoxW M [.int .i64 (e + 1), .slice a' K0.length c'] 33 wr) ∧ Hid (OwnJ wr (N + 2) a' c' Ks) ∧ Hid (Below (N + 2) w3 wr)) (fun v88 _ => K0.length - (intOf v88).toNat)
          case atStart => exact ⟨0, K0, rfl, Nat.zero_le _, Lib.hid' rfl, HK4, HFS, HBX, HJ, HB⟩
          case round =>
            clear HK4 HFS HBX HJ HB
            obtain ⟨k, Ks, rfl, hk, HLk, HK4, HFS, HBX, HJ, HB⟩ := hrel
            by_cases hlt : k < K0.length
            · have hltx : k < X.length := by have := HL.out; omega
              have hltl : k < XL.length := by rw [HXN.out]; exact hltx
              obtain ⟨m, hm⟩ : ∃ m, m = X[k].1.length := ⟨_, rfl⟩
              have HM := Lib.hid' hm
              have HF0 := Lib.hid' (show rFill D S (XL.drop (k + 1)) (k + 1) (rSpares D k m (S.drop 0) (Ks.map (·.1))) = FIN by
                have h1 := HFS.out
                rw [List.drop_eq_getElem_cons hltl, rFill] at h1
                rw [hm, List.drop_zero, show X[k].1.length = XL[k].length by rw [List.getElem_of_eq HXL.out]; simp]; exact h1)
              clear hm HFS
              go_wp2_with fail
              obtain ⟨wo, rfl⟩ : ∃ wo : World, wo = wr := ⟨_, rfl⟩
              obtain ⟨Ko, rfl⟩ : ∃ Ko : List Ch, Ko = Ks := ⟨_, rfl⟩
              go_loopw [18] (fun v18 wr => ∃ (j : Nat) (Ks : List Ch), v18 = .int .i64 j ∧ j ≤ S.length ∧ Hid (Ks.length = K0.length) ∧ Hid (∀ x ∈ Ks, x.1.length ≤ 4) ∧ Hid (rFill D S (XL.drop (k + 1)) (k + 1) (rSpares D k m (S.drop j) (Ks.map (·.1))) = FIN) ∧ Hid (BoxW M [.int .i64 (e + 1), .slice a' K0.length c'] 33 wr) ∧ Hid (OwnJ wr (N + 2) a' c' Ks) ∧ Hid (Below (N + 2) w3 wr)) (fun v18 _ => S.length - (intOf v18).toNat)
              case atStart => exact ⟨0, Ko, rfl, Nat.zero_le _, HLk, HK4, HF0, HBX, HJ, HB⟩
              case round =>
                clear HLk HK4 HF0 HBX HJ HB
                obtain ⟨j, Ks, rfl, hj, HLk, HK4, HFS, HBX, HJ, HB⟩ := hrel
                obtain ⟨⟨⟨k30, k31⟩, k60, k61, f60, f61⟩, hbw, hzr⟩ := HOLD.out wr HB.out
                have HBW := Lib.hid' hbw
                clear hbw k30 k60 k61 f60 f61
                have hba : Below wr.heap.size wr wr.drew := Below.drew (Below.refl _ _)
                have HBXa := Lib.hid' (HBX.out.below (Nat.le_refl _) hba)
                have HJa := Lib.hid' (HJ.out.below (Nat.le_refl _) hba)
                have HBa := Lib.hid' (HB.out.trans (hba.mono hzr))
                clear hba
                go_wp2_with fail
                by_cases hltj : j < S.length
                rotate_left
                · have HFN := Lib.hid' (show rFill D S (XL.drop (k + 1)) (k + 1) (Ks.map (·.1)) = FIN by have := HFS.out; rwa [List.drop_eq_nil_of_le (show S.length ≤ j by omega), rSpares] at this)

                  refine wp_region_held_drew (S := (fun _ => True)) (by kernel_rfl) trivial (fun hH0 => ?_)
                  refine wpAnyH_take (i := 0) (oi := _) (v := .int .i64 (j : Int)) rfl (by kernel_rfl) (by kernel_rfl) (by kernel_rfl) (fun _ _ _ h => h) (Or.inl ⟨by rfl, ?_⟩) hH0 ?_
                  · intro w hSw; go_simp
                  simp only [Act.put, List.getElem_toArray, List.getElem_cons_zero, List.getElem_cons_succ, List.setIfInBounds_toArray, List.set_cons_zero, List.set_cons_succ]
                  refine wpAnyH_take (i := 1) (oi := _) (v := .slice sa S.length sc) rfl (by kernel_rfl) (by kernel_rfl) (by kernel_rfl) (fun _ _ _ h => h) (Or.inl ⟨by rfl, ?_⟩) hH0 ?_
                  · intro w hSw; go_simp
                  simp only [Act.put, List.getElem_toArray, List.getElem_cons_zero, List.getElem_cons_succ, List.setIfInBounds_toArray, List.set_cons_zero, List.set_cons_succ]
                  refine wpAnyH_take (i := 2) (oi := _) (v := .int .i64 (S.length : Int)) rfl (by kernel_rfl) (by kernel_rfl) (by kernel_rfl) (fun _ _ _ h => h) (Or.inl ⟨by rfl, ?_⟩) hH0 ?_
                  · intro w hSw; go_simp
                  simp only [Act.put, List.getElem_toArray, List.getElem_cons_zero, List.getElem_cons_succ, List.setIfInBounds_toArray, List.set_cons_zero, List.set_cons_succ]
                  refine wpAnyH_take (i := 3) (oi := _) (v := .bool false) rfl (by kernel_rfl) (by kernel_rfl) (by kernel_rfl) (fun _ _ _ h => h) (Or.inl ⟨by rfl, ?_⟩) hH0 ?_
                  · intro w hSw; go_simp
                  simp only [Act.put, List.getElem_toArray, List.getElem_cons_zero, List.getElem_cons_succ, List.setIfInBounds_toArray, List.set_cons_zero, List.set_cons_succ]
                  refine wpAnyH_take (i := 4) (oi := _) (v := .bool false) rfl (by kernel_rfl) (by kernel_rfl) (by kernel_rfl) (fun _ _ _ h => h) (Or.inl ⟨by rfl, ?_⟩) hH0 ?_
                  · intro w hSw; go_simp
                  simp only [Act.put, List.getElem_toArray, List.getElem_cons_zero, List.getElem_cons_succ, List.setIfInBounds_toArray, List.set_cons_zero, List.set_cons_succ]
                  refine wpAnyH_take (i := 5) (oi := _) (v := undef) rfl (by kernel_rfl) (by kernel_rfl) (by kernel_rfl) (fun _ _ _ h => h) (Or.inr ⟨by kernel_rfl, rfl⟩) hH0 ?_
                  simp only [Act.put, List.getElem_toArray, List.getElem_cons_zero, List.getElem_cons_succ, List.setIfInBounds_toArray, List.set_cons_zero, List.set_cons_succ]
                  refine wpAnyH_take (i := 6) (oi := _) (v := undef) rfl (by kernel_rfl) (by kernel_rfl) (by kernel_rfl) (fun _ _ _ h => h) (Or.inr ⟨by kernel_rfl, rfl⟩) hH0 ?_
                  simp only [Act.put, List.getElem_toArray, List.getElem_cons_zero, List.getElem_cons_succ, List.setIfInBounds_toArray, List.set_cons_zero, List.set_cons_succ]
                  refine wpAnyH_take (i := 7) (oi := _) (v := undef) rfl (by kernel_rfl) (by kernel_rfl) (by kernel_rfl) (fun _ _ _ h => h) (Or.inr ⟨by kernel_rfl, rfl⟩) hH0 ?_
                  simp only [Act.put, List.getElem_toArray, List.getElem_cons_zero, List.getElem_cons_succ, List.setIfInBounds_toArray, List.set_cons_zero, List.set_cons_succ]
                  refine wpAnyH_take (i := 8) (oi := _) (v := undef) rfl (by kernel_rfl) (by kernel_rfl) (by kernel_rfl) (fun _ _ _ h => h) (Or.inr ⟨by kernel_rfl, rfl⟩) hH0 ?_
                  simp only [Act.put, List.getElem_toArray, List.getElem_cons_zero, List.getElem_cons_succ, List.setIfInBounds_toArray, List.set_cons_zero, List.set_cons_succ]
                  refine wpAnyH_take (i := 9) (oi := _) (v := undef) rfl (by kernel_rfl) (by kernel_rfl) (by kernel_rfl) (fun _ _ _ h => h) (Or.inr ⟨by kernel_rfl, rfl⟩) hH0 ?_
                  simp only [Act.put, List.getElem_toArray, List.getElem_cons_zero, List.getElem_cons_succ, List.setIfInBounds_toArray, List.set_cons_zero, List.set_cons_succ]
                  refine wpAnyH_take (i := 10) (oi := _) (v := undef) rfl (by kernel_rfl) (by kernel_rfl) (by kernel_rfl) (fun _ _ _ h => h) (Or.inr ⟨by kernel_rfl, rfl⟩) hH0 ?_
                  simp only [Act.put, List.getElem_toArray, List.getElem_cons_zero, List.getElem_cons_succ, List.setIfInBounds_toArray, List.set_cons_zero, List.set_cons_succ]
                  refine wpAnyH_take (i := 11) (oi := _) (v := undef) rfl (by kernel_rfl) (by kernel_rfl) (by kernel_rfl) (fun _ _ _ h => h) (Or.inr ⟨by kernel_rfl, rfl⟩) hH0 ?_
                  simp only [Act.put, List.getElem_toArray, List.getElem_cons_zero, List.getElem_cons_succ, List.setIfInBounds_toArray, List.set_cons_zero, List.set_cons_succ]
                  refine wpAnyH_take (i := 12) (oi := _) (v := undef) rfl (by kernel_rfl) (by kernel_rfl) (by kernel_rfl) (fun _ _ _ h => h) (Or.inr ⟨by kernel_rfl, rfl⟩) hH0 ?_
                  simp only [Act.put, List.getElem_toArray, List.getElem_cons_zero, List.getElem_cons_succ, List.setIfInBounds_toArray, List.set_cons_zero, List.set_cons_succ]
                  refine wpAnyH_take (i := 13) (oi := _) (v := undef) rfl (by kernel_rfl) (by kernel_rfl) (by kernel_rfl) (fun _ _ _ h => h) (Or.inr ⟨by kernel_rfl, rfl⟩) hH0 ?_
                  simp only [Act.put, List.getElem_toArray, List.getElem_cons_zero, List.getElem_cons_succ, List.setIfInBounds_toArray, List.set_cons_zero, List.set_cons_succ]
                  refine wpAnyH_take (i := 14) (oi := _) (v := undef) rfl (by kernel_rfl) (by kernel_rfl) (by kernel_rfl) (fun _ _ _ h => h) (Or.inr ⟨by kernel_rfl, rfl⟩) hH0 ?_
                  simp only [Act.put, List.getElem_toArray, List.getElem_cons_zero, List.getElem_cons_succ, List.setIfInBounds_toArray, List.set_cons_zero, List.set_cons_succ]
                  refine wpAnyH_take (i := 15) (oi := _) (v := undef) rfl (by kernel_rfl) (by kernel_rfl) (by kernel_rfl) (fun _ _ _ h => h) (Or.inr ⟨by kernel_rfl, rfl⟩) hH0 ?_
                  simp only [Act.put, List.getElem_toArray, List.getElem_cons_zero, List.getElem_cons_succ, List.setIfInBounds_toArray, List.set_cons_zero, List.set_cons_succ]
                  refine wpAnyH_take (i := 16) (oi := _) (v := undef) rfl (by kernel_rfl) (by kernel_rfl) (by kernel_rfl) (fun _ _ _ h => h) (Or.inr ⟨by kernel_rfl, rfl⟩) hH0 ?_
                  simp only [Act.put, List.getElem_toArray, List.getElem_cons_zero, List.getElem_cons_succ, List.setIfInBounds_toArray, List.set_cons_zero, List.set_cons_succ]
                  refine wpAnyH_take (i := 17) (oi := _) (v := undef) rfl (by kernel_rfl) (by kernel_rfl) (by kernel_rfl) (fun _ _ _ h => h) (Or.inr ⟨by kernel_rfl, rfl⟩) hH0 ?_
                  simp only [Act.put, List.getElem_toArray, List.getElem_cons_zero, List.getElem_cons_succ, List.setIfInBounds_toArray, List.set_cons_zero, List.set_cons_succ]
                  refine wpAnyH_take (i := 18) (oi := _) (v := .bool false) rfl (by kernel_rfl) (by kernel_rfl) (by kernel_rfl) (fun _ _ _ h => h) (Or.inl ⟨by rfl, ?_⟩) hH0 ?_
                  · intro w hSw; go_simp
                  simp only [Act.put, List.getElem_toArray, List.getElem_cons_zero, List.getElem_cons_succ, List.setIfInBounds_toArray, List.set_cons_zero, List.set_cons_succ]
                  refine wpAnyH_done (by kernel_rfl) ?_ _
                  generalize wr.drew = wa at *
                  go_wp2_with fail
                  go_roundw
                  case rel => exact ⟨k + 1, Ks, by go_num, by omega, HLk, HK4, HFN, HBXa, HJa, HBa⟩
                  case measure => simp [intOf]; omega
                have hltk : k < Ks.length := by have := HLk.out; omega
                obtain ⟨g, rfl, hg0, hg1, cg, fg⟩ := HJ.out.at hltk
                obtain ⟨b, off, rfl, hb, hc, hz⟩ := (HS.out.below (by rw [← HN.out]; exact Nat.le_refl _) HBW.out).at hltx
                obtain ⟨b3, off3, rfl, hb3, hc3⟩ := HSP.out.at hltj
                rw [← HN.out] at hb3
                have HCU := Lib.hid' (fun (wq : World) (hq : Below (N + 2) w3 wq) => ((HOLD.out wq hq).2.1.cell (p := ⟨b3, off3 + j, none⟩) hb3).trans hc3)
                clear hz hc3
                have HY4 := Lib.hid' (HX4.out _ (List.getElem_mem hltx))
                generalize X[k] = y at *
                obtain ⟨ys, ya, yc⟩ := y
                simp only at hc HM HY4
                have hml : m = ys.length := HM.out
                have HRO := Lib.hid' (HJ.out.each _ (List.getElem_mem hltk))
                have hx4 := HK4.out _ (List.getElem_mem hltk)
                have HGD := Lib.hid' (show (Ks.map (·.1)).getD k [] = Ks[k].1 by simp [List.getD, hltk])
                have HNX2 := Lib.hid' (rsp_next (D := D) (i := k) (m := m) (cs := Ks.map (·.1)) hltj)
                have HFU := Lib.hid' (rsp_full (D := D) (i := k) (m := m) (cs := Ks.map (·.1)) hltj)
                obtain ⟨x, hx⟩ : ∃ x, Ks[k] = x := ⟨_, rfl⟩
                have HX := Lib.hid' hx
                rw [hx] at cg HRO HGD hx4
                clear hx
                rw [HGD.out] at HNX2 HFU
                obtain ⟨xs, xa, xc⟩ := x
                simp only at cg HGD hx4 HNX2 HFU
                have x1 := HBX.out.box.1 1 _ rfl
                have x0 := HBX.out.box.1 0 _ rfl
                have hMz := HBX.out.lt
                generalize S[j] = u at *
                have hltK : k < K0.length := hlt
                by_cases hroom : xs.length < ys.length
                rotate_left
                · have HFN := Lib.hid' (show rFill D S (XL.drop (k + 1)) (k + 1) (Ks.map (·.1)) = FIN by have := HFS.out; rwa [HFU.out (by omega)] at this)

                  refine wp_region_held_drew (S := (fun w' => w'.cell? ⟨M, 1, none⟩ = some (.slice (some ⟨g, 0, none⟩) K0.length c') ∧ w'.cell? ⟨g, k, none⟩ = some (.slice xa xs.length xc) ∧ w'.cell? ⟨N, 1, none⟩ = some (.slice (some ⟨b, off, none⟩) X.length c) ∧ w'.cell? ⟨b, off + k, none⟩ = some (.slice ya ys.length yc))) (by kernel_rfl) ⟨by simpa using x1, by simpa using cg, by simpa using k31, by simpa using hc⟩ (fun hH0 => ?_)
                  refine wpAnyH_take (i := 0) (oi := _) (v := .int .i64 (j : Int)) rfl (by kernel_rfl) (by kernel_rfl) (by kernel_rfl) (fun _ _ _ h => h) (Or.inl ⟨by rfl, ?_⟩) hH0 ?_
                  · intro w hSw; go_simp
                  simp only [Act.put, List.getElem_toArray, List.getElem_cons_zero, List.getElem_cons_succ, List.setIfInBounds_toArray, List.set_cons_zero, List.set_cons_succ]
                  refine wpAnyH_take (i := 1) (oi := _) (v := .slice (some ⟨b3, off3, none⟩) S.length sc) rfl (by kernel_rfl) (by kernel_rfl) (by kernel_rfl) (fun _ _ _ h => h) (Or.inl ⟨by rfl, ?_⟩) hH0 ?_
                  · intro w hSw; go_simp
                  simp only [Act.put, List.getElem_toArray, List.getElem_cons_zero, List.getElem_cons_succ, List.setIfInBounds_toArray, List.set_cons_zero, List.set_cons_succ]
                  refine wpAnyH_take (i := 2) (oi := _) (v := .int .i64 (S.length : Int)) rfl (by kernel_rfl) (by kernel_rfl) (by kernel_rfl) (fun _ _ _ h => h) (Or.inl ⟨by rfl, ?_⟩) hH0 ?_
                  · intro w hSw; go_simp
                  simp only [Act.put, List.getElem_toArray, List.getElem_cons_zero, List.getElem_cons_succ, List.setIfInBounds_toArray, List.set_cons_zero, List.set_cons_succ]
                  refine wpAnyH_take (i := 3) (oi := _) (v := .bool true) rfl (by kernel_rfl) (by kernel_rfl) (by kernel_rfl) (fun _ _ _ h => h) (Or.inl ⟨by rfl, ?_⟩) hH0 ?_
                  · intro w hSw; go_simp
                  simp only [Act.put, List.getElem_toArray, List.getElem_cons_zero, List.getElem_cons_succ, List.setIfInBounds_toArray, List.set_cons_zero, List.set_cons_succ]
                  refine wpAnyH_take (i := 4) (oi := _) (v := .bool true) rfl (by kernel_rfl) (by kernel_rfl) (by kernel_rfl) (fun _ _ _ h => h) (Or.inl ⟨by rfl, ?_⟩) hH0 ?_
                  · intro w hSw; go_simp
                  simp only [Act.put, List.getElem_toArray, List.getElem_cons_zero, List.getElem_cons_succ, List.setIfInBounds_toArray, List.set_cons_zero, List.set_cons_succ]
                  refine wpAnyH_take (i := 5) (oi := _) (v := .pointer (some ⟨M, 1, none⟩)) rfl (by kernel_rfl) (by kernel_rfl) (by kernel_rfl) (fun _ _ _ h => h) (Or.inl ⟨by rfl, ?_⟩) hH0 ?_
                  · intro w hSw; go_simp
                  simp only [Act.put, List.getElem_toArray, List.getElem_cons_zero, List.getElem_cons_succ, List.setIfInBounds_toArray, List.set_cons_zero, List.set_cons_succ]
                  refine wpAnyH_take (i := 6) (oi := _) (v := .slice (some ⟨g, 0, none⟩) K0.length c') rfl (by kernel_rfl) (by kernel_rfl) (by kernel_rfl) (fun _ _ _ h => h) (Or.inl ⟨by rfl, ?_⟩) hH0 ?_
                  · intro w hSw; go_simp
                  simp only [Act.put, List.getElem_toArray, List.getElem_cons_zero, List.getElem_cons_succ, List.setIfInBounds_toArray, List.set_cons_zero, List.set_cons_succ]
                  refine wpAnyH_take (i := 7) (oi := _) (v := .int .i64 (k : Int)) rfl (by kernel_rfl) (by kernel_rfl) (by kernel_rfl) (fun _ _ _ h => h) (Or.inl ⟨by rfl, ?_⟩) hH0 ?_
                  · intro w hSw; go_simp
                  simp only [Act.put, List.getElem_toArray, List.getElem_cons_zero, List.getElem_cons_succ, List.setIfInBounds_toArray, List.set_cons_zero, List.set_cons_succ]
                  refine wpAnyH_take (i := 8) (oi := _) (v := .pointer (some ⟨g, k, none⟩)) rfl (by kernel_rfl) (by kernel_rfl) (by kernel_rfl) (fun _ _ _ h => h) (Or.inl ⟨by rfl, ?_⟩) hH0 ?_
                  · intro w hSw; go_simp
                  simp only [Act.put, List.getElem_toArray, List.getElem_cons_zero, List.getElem_cons_succ, List.setIfInBounds_toArray, List.set_cons_zero, List.set_cons_succ]
                  refine wpAnyH_take (i := 9) (oi := _) (v := .slice xa xs.length xc) rfl (by kernel_rfl) (by kernel_rfl) (by kernel_rfl) (fun _ _ _ h => h) (Or.inl ⟨by rfl, ?_⟩) hH0 ?_
                  · intro w hSw; go_simp
                  simp only [Act.put, List.getElem_toArray, List.getElem_cons_zero, List.getElem_cons_succ, List.setIfInBounds_toArray, List.set_cons_zero, List.set_cons_succ]
                  refine wpAnyH_take (i := 10) (oi := _) (v := .int .i64 (xs.length : Int)) rfl (by kernel_rfl) (by kernel_rfl) (by kernel_rfl) (fun _ _ _ h => h) (Or.inl ⟨by rfl, ?_⟩) hH0 ?_
                  · intro w hSw; go_simp
                  simp only [Act.put, List.getElem_toArray, List.getElem_cons_zero, List.getElem_cons_succ, List.setIfInBounds_toArray, List.set_cons_zero, List.set_cons_succ]
                  refine wpAnyH_take (i := 11) (oi := _) (v := .pointer (some ⟨N, 1, none⟩)) rfl (by kernel_rfl) (by kernel_rfl) (by kernel_rfl) (fun _ _ _ h => h) (Or.inl ⟨by rfl, ?_⟩) hH0 ?_
                  · intro w hSw; go_simp
                  simp only [Act.put, List.getElem_toArray, List.getElem_cons_zero, List.getElem_cons_succ, List.setIfInBounds_toArray, List.set_cons_zero, List.set_cons_succ]
                  refine wpAnyH_take (i := 12) (oi := _) (v := .slice (some ⟨b, off, none⟩) X.length c) rfl (by kernel_rfl) (by kernel_rfl) (by kernel_rfl) (fun _ _ _ h => h) (Or.inl ⟨by rfl, ?_⟩) hH0 ?_
                  · intro w hSw; go_simp
                  simp only [Act.put, List.getElem_toArray, List.getElem_cons_zero, List.getElem_cons_succ, List.setIfInBounds_toArray, List.set_cons_zero, List.set_cons_succ]
                  refine wpAnyH_take (i := 13) (oi := _) (v := .int .i64 (k : Int)) rfl (by kernel_rfl) (by kernel_rfl) (by kernel_rfl) (fun _ _ _ h => h) (Or.inl ⟨by rfl, ?_⟩) hH0 ?_
                  · intro w hSw; go_simp
                  simp only [Act.put, List.getElem_toArray, List.getElem_cons_zero, List.getElem_cons_succ, List.setIfInBounds_toArray, List.set_cons_zero, List.set_cons_succ]
                  refine wpAnyH_take (i := 14) (oi := _) (v := .pointer (some ⟨b, off + k, none⟩)) rfl (by kernel_rfl) (by kernel_rfl) (by kernel_rfl) (fun _ _ _ h => h) (Or.inl ⟨by rfl, ?_⟩) hH0 ?_
                  · intro w hSw; go_simp
                  simp only [Act.put, List.getElem_toArray, List.getElem_cons_zero, List.getElem_cons_succ, List.setIfInBounds_toArray, List.set_cons_zero, List.set_cons_succ]
                  refine wpAnyH_take (i := 15) (oi := _) (v := .slice ya ys.length yc) rfl (by kernel_rfl) (by kernel_rfl) (by kernel_rfl) (fun _ _ _ h => h) (Or.inl ⟨by rfl, ?_⟩) hH0 ?_
                  · intro w hSw; go_simp
                  simp only [Act.put, List.getElem_toArray, List.getElem_cons_zero, List.getElem_cons_succ, List.setIfInBounds_toArray, List.set_cons_zero, List.set_cons_succ]
                  refine wpAnyH_take (i := 16) (oi := _) (v := .int .i64 (ys.length : Int)) rfl (by kernel_rfl) (by kernel_rfl) (by kernel_rfl) (fun _ _ _ h => h) (Or.inl ⟨by rfl, ?_⟩) hH0 ?_
                  · intro w hSw; go_simp
                  simp only [Act.put, List.getElem_toArray, List.getElem_cons_zero, List.getElem_cons_succ, List.setIfInBounds_toArray, List.set_cons_zero, List.set_cons_succ]
                  refine wpAnyH_take (i := 17) (oi := _) (v := .bool false) rfl (by kernel_rfl) (by kernel_rfl) (by kernel_rfl) (fun _ _ _ h => h) (Or.inl ⟨by rfl, ?_⟩) hH0 ?_
                  · intro w hSw; go_simp
                  simp only [Act.put, List.getElem_toArray, List.getElem_cons_zero, List.getElem_cons_succ, List.setIfInBounds_toArray, List.set_cons_zero, List.set_cons_succ]
                  refine wpAnyH_take (i := 18) (oi := _) (v := .bool false) rfl (by kernel_rfl) (by kernel_rfl) (by kernel_rfl) (fun _ _ _ h => h) (Or.inl ⟨by rfl, ?_⟩) hH0 ?_
                  · intro w hSw; go_simp
                  simp only [Act.put, List.getElem_toArray, List.getElem_cons_zero, List.getElem_cons_succ, List.setIfInBounds_toArray, List.set_cons_zero, List.set_cons_succ]
                  refine wpAnyH_done (by kernel_rfl) ?_ _
                  generalize wr.drew = wa at *
                  go_wp2_with fail
                  go_roundw
                  case rel => exact ⟨k + 1, Ks, by go_num, by omega, HLk, HK4, HFN, HBXa, HJa, HBa⟩
                  case measure => simp [intOf]; omega
                refine wp_region_held_drew (S := (fun w' => w'.cell? ⟨M, 1, none⟩ = some (.slice (some ⟨g, 0, none⟩) K0.length c') ∧ w'.cell? ⟨g, k, none⟩ = some (.slice xa xs.length xc) ∧ w'.cell? ⟨N, 1, none⟩ = some (.slice (some ⟨b, off, none⟩) X.length c) ∧ w'.cell? ⟨b, off + k, none⟩ = some (.slice ya ys.length yc))) (by kernel_rfl) ⟨by simpa using x1, by simpa using cg, by simpa using k31, by simpa using hc⟩ (fun hH0 => ?_)
                refine wpAnyH_take (i := 0) (oi := _) (v := .int .i64 (j : Int)) rfl (by kernel_rfl) (by kernel_rfl) (by kernel_rfl) (fun _ _ _ h => h) (Or.inl ⟨by rfl, ?_⟩) hH0 ?_
                · intro w hSw; go_simp
                simp only [Act.put, List.getElem_toArray, List.getElem_cons_zero, List.getElem_cons_succ, List.setIfInBounds_toArray, List.set_cons_zero, List.set_cons_succ]
                refine wpAnyH_take (i := 1) (oi := _) (v := .slice (some ⟨b3, off3, none⟩) S.length sc) rfl (by kernel_rfl) (by kernel_rfl) (by kernel_rfl) (fun _ _ _ h => h) (Or.inl ⟨by rfl, ?_⟩) hH0 ?_
                · intro w hSw; go_simp
                simp only [Act.put, List.getElem_toArray, List.getElem_cons_zero, List.getElem_cons_succ, List.setIfInBounds_toArray, List.set_cons_zero, List.set_cons_succ]
                refine wpAnyH_take (i := 2) (oi := _) (v := .int .i64 (S.length : Int)) rfl (by kernel_rfl) (by kernel_rfl) (by kernel_rfl) (fun _ _ _ h => h) (Or.inl ⟨by rfl, ?_⟩) hH0 ?_
                · intro w hSw; go_simp
                simp only [Act.put, List.getElem_toArray, List.getElem_cons_zero, List.getElem_cons_succ, List.setIfInBounds_toArray, List.set_cons_zero, List.set_cons_succ]
                refine wpAnyH_take (i := 3) (oi := _) (v := .bool true) rfl (by kernel_rfl) (by kernel_rfl) (by kernel_rfl) (fun _ _ _ h => h) (Or.inl ⟨by rfl, ?_⟩) hH0 ?_
                · intro w hSw; go_simp
                simp only [Act.put, List.getElem_toArray, List.getElem_cons_zero, List.getElem_cons_succ, List.setIfInBounds_toArray, List.set_cons_zero, List.set_cons_succ]
                refine wpAnyH_take (i := 4) (oi := _) (v := .bool true) rfl (by kernel_rfl) (by kernel_rfl) (by kernel_rfl) (fun _ _ _ h => h) (Or.inl ⟨by rfl, ?_⟩) hH0 ?_
                · intro w hSw; go_simp
                simp only [Act.put, List.getElem_toArray, List.getElem_cons_zero, List.getElem_cons_succ, List.setIfInBounds_toArray, List.set_cons_zero, List.set_cons_succ]
                refine wpAnyH_take (i := 5) (oi := _) (v := .pointer (some ⟨M, 1, none⟩)) rfl (by kernel_rfl) (by kernel_rfl) (by kernel_rfl) (fun _ _ _ h => h) (Or.inl ⟨by rfl, ?_⟩) hH0 ?_
                · intro w hSw; go_simp
                simp only [Act.put, List.getElem_toArray, List.getElem_cons_zero, List.getElem_cons_succ, List.setIfInBounds_toArray, List.set_cons_zero, List.set_cons_succ]
                refine wpAnyH_take (i := 6) (oi := _) (v := .slice (some ⟨g, 0, none⟩) K0.length c') rfl (by kernel_rfl) (by kernel_rfl) (by kernel_rfl) (fun _ _ _ h => h) (Or.inl ⟨by rfl, ?_⟩) hH0 ?_
                · intro w hSw; go_simp
                simp only [Act.put, List.getElem_toArray, List.getElem_cons_zero, List.getElem_cons_succ, List.setIfInBounds_toArray, List.set_cons_zero, List.set_cons_succ]
                refine wpAnyH_take (i := 7) (oi := _) (v := .int .i64 (k : Int)) rfl (by kernel_rfl) (by kernel_rfl) (by kernel_rfl) (fun _ _ _ h => h) (Or.inl ⟨by rfl, ?_⟩) hH0 ?_
                · intro w hSw; go_simp
                simp only [Act.put, List.getElem_toArray, List.getElem_cons_zero, List.getElem_cons_succ, List.setIfInBounds_toArray, List.set_cons_zero, List.set_cons_succ]
                refine wpAnyH_take (i := 8) (oi := _) (v := .pointer (some ⟨g, k, none⟩)) rfl (by kernel_rfl) (by kernel_rfl) (by kernel_rfl) (fun _ _ _ h => h) (Or.inl ⟨by rfl, ?_⟩) hH0 ?_
                · intro w hSw; go_simp
                simp only [Act.put, List.getElem_toArray, List.getElem_cons_zero, List.getElem_cons_succ, List.setIfInBounds_toArray, List.set_cons_zero, List.set_cons_succ]
                refine wpAnyH_take (i := 9) (oi := _) (v := .slice xa xs.length xc) rfl (by kernel_rfl) (by kernel_rfl) (by kernel_rfl) (fun _ _ _ h => h) (Or.inl ⟨by rfl, ?_⟩) hH0 ?_
                · intro w hSw; go_simp
                simp only [Act.put, List.getElem_toArray, List.getElem_cons_zero, List.getElem_cons_succ, List.setIfInBounds_toArray, List.set_cons_zero, List.set_cons_succ]
                refine wpAnyH_take (i := 10) (oi := _) (v := .int .i64 (xs.length : Int)) rfl (by kernel_rfl) (by kernel_rfl) (by kernel_rfl) (fun _ _ _ h => h) (Or.inl ⟨by rfl, ?_⟩) hH0 ?_
                · intro w hSw; go_simp
                simp only [Act.put, List.getElem_toArray, List.getElem_cons_zero, List.getElem_cons_succ, List.setIfInBounds_toArray, List.set_cons_zero, List.set_cons_succ]
                refine wpAnyH_take (i := 11) (oi := _) (v := .pointer (some ⟨N, 1, none⟩)) rfl (by kernel_rfl) (by kernel_rfl) (by kernel_rfl) (fun _ _ _ h => h) (Or.inl ⟨by rfl, ?_⟩) hH0 ?_
                · intro w hSw; go_simp
                simp only [Act.put, List.getElem_toArray, List.getElem_cons_zero, List.getElem_cons_succ, List.setIfInBounds_toArray, List.set_cons_zero, List.set_cons_succ]
                refine wpAnyH_take (i := 12) (oi := _) (v := .slice (some ⟨b, off, none⟩) X.length c) rfl (by kernel_rfl) (by kernel_rfl) (by kernel_rfl) (fun _ _ _ h => h) (Or.inl ⟨by rfl, ?_⟩) hH0 ?_
                · intro w hSw; go_simp
                simp only [Act.put, List.getElem_toArray, List.getElem_cons_zero, List.getElem_cons_succ, List.setIfInBounds_toArray, List.set_cons_zero, List.set_cons_succ]
                refine wpAnyH_take (i := 13) (oi := _) (v := .int .i64 (k : Int)) rfl (by kernel_rfl) (by kernel_rfl) (by kernel_rfl) (fun _ _ _ h => h) (Or.inl ⟨by rfl, ?_⟩) hH0 ?_
                · intro w hSw; go_simp
                simp only [Act.put, List.getElem_toArray, List.getElem_cons_zero, List.getElem_cons_succ, List.setIfInBounds_toArray, List.set_cons_zero, List.set_cons_succ]
                refine wpAnyH_take (i := 14) (oi := _) (v := .pointer (some ⟨b, off + k, none⟩)) rfl (by kernel_rfl) (by kernel_rfl) (by kernel_rfl) (fun _ _ _ h => h) (Or.inl ⟨by rfl, ?_⟩) hH0 ?_
                · intro w hSw; go_simp
                simp only [Act.put, List.getElem_toArray, List.getElem_cons_zero, List.getElem_cons_succ, List.setIfInBounds_toArray, List.set_cons_zero, List.set_cons_succ]
                refine wpAnyH_take (i := 15) (oi := _) (v := .slice ya ys.length yc) rfl (by kernel_rfl) (by kernel_rfl) (by kernel_rfl) (fun _ _ _ h => h) (Or.inl ⟨by rfl, ?_⟩) hH0 ?_
                · intro w hSw; go_simp
                simp only [Act.put, List.getElem_toArray, List.getElem_cons_zero, List.getElem_cons_succ, List.setIfInBounds_toArray, List.set_cons_zero, List.set_cons_succ]
                refine wpAnyH_take (i := 16) (oi := _) (v := .int .i64 (ys.length : Int)) rfl (by kernel_rfl) (by kernel_rfl) (by kernel_rfl) (fun _ _ _ h => h) (Or.inl ⟨by rfl, ?_⟩) hH0 ?_
                · intro w hSw; go_simp
                simp only [Act.put, List.getElem_toArray, List.getElem_cons_zero, List.getElem_cons_succ, List.setIfInBounds_toArray, List.set_cons_zero, List.set_cons_succ]
                refine wpAnyH_take (i := 17) (oi := _) (v := .bool true) rfl (by kernel_rfl) (by kernel_rfl) (by kernel_rfl) (fun _ _ _ h => h) (Or.inl ⟨by rfl, ?_⟩) hH0 ?_
                · intro w hSw; go_simp
                simp only [Act.put, List.getElem_toArray, List.getElem_cons_zero, List.getElem_cons_succ, List.setIfInBounds_toArray, List.set_cons_zero, List.set_cons_succ]
                refine wpAnyH_take (i := 18) (oi := _) (v := .bool true) rfl (by kernel_rfl) (by kernel_rfl) (by kernel_rfl) (fun _ _ _ h => h) (Or.inl ⟨by rfl, ?_⟩) hH0 ?_
                · intro w hSw; go_simp
                simp only [Act.put, List.getElem_toArray, List.getElem_cons_zero, List.getElem_cons_succ, List.setIfInBounds_toArray, List.set_cons_zero, List.set_cons_succ]
                refine wpAnyH_done (by kernel_rfl) ?_ _
                have hzn : N + 2 ≤ wr.drew.heap.size := by simpa using hzr
                clear hzr cg
                have hzr := hzn
                clear hzn x1 x0 hMz HBX HJ HB HRO HBW k31 hb hc hg1 fg
                generalize wr.drew = wa at *
                clear wr
                obtain ⟨⟨⟨k30, k31⟩, k60, k61, f60, f61⟩, hbw, hzr'⟩ := HOLD.out wa HBa.out
                have HBW := Lib.hid' hbw
                clear hbw k30 k31 k60 k61 f60 f61 hzr'
                have x1 := HBXa.out.box.1 1 _ rfl
                have x0 := HBXa.out.box.1 0 _ rfl
                have hMz := HBXa.out.lt
                have hcu := HCU.out wa HBa.out
                have HNXR := Lib.hid' (HNX2.out (by omega))
                have hlt3 : b3 < wa.heap.size := by omega
                have hba : Below wa.heap.size wa wa.drew := Below.drew (Below.refl _ _)
                have HDZ := Lib.hid' (SlV.below (SlV.below HD.out (by rw [← HN.out]; exact Nat.le_refl _) HBW.out) (Nat.le_refl _) hba)
                have HRH := Lib.hid' (rhas_any u D da dc wa.drew HDZ.out)
                clear HFU HNX2
                go_wp2_with fail
                cases hgone : D.contains u with
                | true =>
                  have HG := Lib.hid' hgone
                  rw [HG.out] at HRH
                  have HFN := Lib.hid' (show rFill D S (XL.drop (k + 1)) (k + 1) (rSpares D k m (S.drop (j + 1)) (Ks.map (·.1))) = FIN by have := HFS.out; rwa [HNXR.out, if_neg (fun h => by rw [HG.out] at h; exact absurd h.1 (by decide))] at this)
                  have HBXb := Lib.hid' (HBXa.out.below (Nat.le_refl _) hba)
                  have HJb := Lib.hid' (HJa.out.below (Nat.le_refl _) hba)
                  have HBb := Lib.hid' (HBa.out.trans (hba.mono hzr))
                  clear hba hgone

                  refine wp_region_held_drew (S := (fun w' => w'.cell? ⟨M, 0, none⟩ = some (.int .i64 (e + 1)) ∧ w'.cell? ⟨M, 1, none⟩ = some (.slice (some ⟨g, 0, none⟩) K0.length c') ∧ w'.cell? ⟨b3, off3 + j, none⟩ = some (.int .i64 u))) (by kernel_rfl) ⟨by simpa using x0, by simpa using x1, by simpa using hcu⟩ (fun hH0 => ?_)
                  refine wpAnyH_take (i := 0) (oi := _) (v := .slice da D.length dc) rfl (by kernel_rfl) (by kernel_rfl) (by kernel_rfl) (fun _ _ _ h => h) (Or.inl ⟨by rfl, ?_⟩) hH0 ?_
                  · intro w hSw; go_simp
                  simp only [Act.put, List.getElem_toArray, List.getElem_cons_zero, List.getElem_cons_succ, List.setIfInBounds_toArray, List.set_cons_zero, List.set_cons_succ]
                  refine wpAnyH_take (i := 1) (oi := _) (v := .slice (some ⟨b3, off3, none⟩) S.length sc) rfl (by kernel_rfl) (by kernel_rfl) (by kernel_rfl) (fun _ _ _ h => h) (Or.inl ⟨by rfl, ?_⟩) hH0 ?_
                  · intro w hSw; go_simp
                  simp only [Act.put, List.getElem_toArray, List.getElem_cons_zero, List.getElem_cons_succ, List.setIfInBounds_toArray, List.set_cons_zero, List.set_cons_succ]
                  refine wpAnyH_take (i := 2) (oi := _) (v := .int .i64 (j : Int)) rfl (by kernel_rfl) (by kernel_rfl) (by kernel_rfl) (fun _ _ _ h => h) (Or.inl ⟨by rfl, ?_⟩) hH0 ?_
                  · intro w hSw; go_simp
                  simp only [Act.put, List.getElem_toArray, List.getElem_cons_zero, List.getElem_cons_succ, List.setIfInBounds_toArray, List.set_cons_zero, List.set_cons_succ]
                  refine wpAnyH_take (i := 3) (oi := _) (v := .pointer (some ⟨b3, off3 + j, none⟩)) rfl (by kernel_rfl) (by kernel_rfl) (by kernel_rfl) (fun _ _ _ h => h) (Or.inl ⟨by rfl, ?_⟩) hH0 ?_
                  · intro w hSw; go_simp
                  simp only [Act.put, List.getElem_toArray, List.getElem_cons_zero, List.getElem_cons_succ, List.setIfInBounds_toArray, List.set_cons_zero, List.set_cons_succ]
                  refine wpAnyH_take (i := 4) (oi := _) (v := .int .i64 u) rfl (by kernel_rfl) (by kernel_rfl) (by kernel_rfl) (fun _ _ _ h => h) (Or.inl ⟨by rfl, ?_⟩) hH0 ?_
                  · intro w hSw; go_simp
                  simp only [Act.put, List.getElem_toArray, List.getElem_cons_zero, List.getElem_cons_succ, List.setIfInBounds_toArray, List.set_cons_zero, List.set_cons_succ]
                  refine wpAnyH_ready (rs := [5]) (by kernel_rfl) (by simp) (AllReadyH.cons (o := _) rfl (fun K hK => ?_) AllReadyH.nil)
                  go_simp
                  refine HRH.out.mono ?_
                  rintro en wq ⟨rfl, rfl⟩
                  refine hK.out _ _ ?_ (fun hH1 => ?_)
                  · exact hH0
                  clear hK K
                  refine wpAnyH_take (i := 6) (oi := _) (v := .bool false) rfl (by kernel_rfl) (by kernel_rfl) (by kernel_rfl) (fun _ _ _ h => h) (Or.inl ⟨by rfl, ?_⟩) hH1 ?_
                  · intro w hSw; go_simp
                  simp only [Act.put, List.getElem_toArray, List.getElem_cons_zero, List.getElem_cons_succ, List.setIfInBounds_toArray, List.set_cons_zero, List.set_cons_succ]
                  refine wpAnyH_take (i := 7) (oi := _) (v := .bool false) rfl (by kernel_rfl) (by kernel_rfl) (by kernel_rfl) (fun _ _ _ h => h) (Or.inl ⟨by rfl, ?_⟩) hH1 ?_
                  · intro w hSw; go_simp
                  simp only [Act.put, List.getElem_toArray, List.getElem_cons_zero, List.getElem_cons_succ, List.setIfInBounds_toArray, List.set_cons_zero, List.set_cons_succ]
                  refine wpAnyH_take (i := 8) (oi := _) (v := undef) rfl (by kernel_rfl) (by kernel_rfl) (by kernel_rfl) (fun _ _ _ h => h) (Or.inr ⟨by kernel_rfl, rfl⟩) hH1 ?_
                  simp only [Act.put, List.getElem_toArray, List.getElem_cons_zero, List.getElem_cons_succ, List.setIfInBounds_toArray, List.set_cons_zero, List.set_cons_succ]
                  refine wpAnyH_take (i := 9) (oi := _) (v := undef) rfl (by kernel_rfl) (by kernel_rfl) (by kernel_rfl) (fun _ _ _ h => h) (Or.inr ⟨by kernel_rfl, rfl⟩) hH1 ?_
                  simp only [Act.put, List.getElem_toArray, List.getElem_cons_zero, List.getElem_cons_succ, List.setIfInBounds_toArray, List.set_cons_zero, List.set_cons_succ]
                  refine wpAnyH_take (i := 10) (oi := _) (v := undef) rfl (by kernel_rfl) (by kernel_rfl) (by kernel_rfl) (fun _ _ _ h => h) (Or.inr ⟨by kernel_rfl, rfl⟩) hH1 ?_
                  simp only [Act.put, List.getElem_toArray, List.getElem_cons_zero, List.getElem_cons_succ, List.setIfInBounds_toArray, List.set_cons_zero, List.set_cons_succ]
                  refine wpAnyH_take (i := 11) (oi := _) (v := undef) rfl (by kernel_rfl) (by kernel_rfl) (by kernel_rfl) (fun _ _ _ h => h) (Or.inr ⟨by kernel_rfl, rfl⟩) hH1 ?_
                  simp only [Act.put, List.getElem_toArray, List.getElem_cons_zero, List.getElem_cons_succ, List.setIfInBounds_toArray, List.set_cons_zero, List.set_cons_succ]
                  refine wpAnyH_take (i := 12) (oi := _) (v := undef) rfl (by kernel_rfl) (by kernel_rfl) (by kernel_rfl) (fun _ _ _ h => h) (Or.inr ⟨by kernel_rfl, rfl⟩) hH1 ?_
                  simp only [Act.put, List.getElem_toArray, List.getElem_cons_zero, List.getElem_cons_succ, List.setIfInBounds_toArray, List.set_cons_zero, List.set_cons_succ]
                  refine wpAnyH_take (i := 13) (oi := _) (v := undef) rfl (by kernel_rfl) (by kernel_rfl) (by kernel_rfl) (fun _ _ _ h => h) (Or.inr ⟨by kernel_rfl, rfl⟩) hH1 ?_
                  simp only [Act.put, List.getElem_toArray, List.getElem_cons_zero, List.getElem_cons_succ, List.setIfInBounds_toArray, List.set_cons_zero, List.set_cons_succ]
                  refine wpAnyH_take (i := 14) (oi := _) (v := undef) rfl (by kernel_rfl) (by kernel_rfl) (by kernel_rfl) (fun _ _ _ h => h) (Or.inr ⟨by kernel_rfl, rfl⟩) hH1 ?_
                  simp only [Act.put, List.getElem_toArray, List.getElem_cons_zero, List.getElem_cons_succ, List.setIfInBounds_toArray, List.set_cons_zero, List.set_cons_succ]
                  refine wpAnyH_take (i := 15) (oi := _) (v := .bool false) rfl (by kernel_rfl) (by kernel_rfl) (by kernel_rfl) (fun _ _ _ h => h) (Or.inl ⟨by rfl, ?_⟩) hH1 ?_
                  · intro w hSw; go_simp
                  simp only [Act.put, List.getElem_toArray, List.getElem_cons_zero, List.getElem_cons_succ, List.setIfInBounds_toArray, List.set_cons_zero, List.set_cons_succ]
                  refine wpAnyH_done (by kernel_rfl) ?_ _
                  clear HRH HDZ
                  generalize wa.drew = wb at *
                  go_wp2_with fail
                  go_roundw
                  case rel => exact ⟨j + 1, Ks, by go_num, by omega, HLk, HK4, HFN, HBXb, HJb, HBb⟩
                  case measure => simp [intOf]; omega
                | false =>
                have HG := Lib.hid' hgone
                rw [HG.out] at HRH
                clear hgone
                have hfl : (flatC Ks).length ≤ 1099511627776 := by have := flat_len4 HK4.out; have := HLk.out; have := HL.out; omega
                have hun := rmany_any (e + 1) u (some ⟨g, 0, none⟩) c' Ks wa.drew (HJa.out.below (Nat.le_refl _) hba).chs hfl
                unfold pjV at hun
                rw [HLk.out] at hun
                obtain ⟨cnt, hcnt⟩ : ∃ n, n = (flatC Ks).count u := ⟨_, rfl⟩
                rw [← hcnt] at hun
                have HCNT := Lib.hid' hcnt
                have HUN := Lib.hid' hun
                clear hun hcnt hfl
                by_cases hc0 : cnt = 0
                rotate_left
                · have HFN := Lib.hid' (show rFill D S (XL.drop (k + 1)) (k + 1) (rSpares D k m (S.drop (j + 1)) (Ks.map (·.1))) = FIN by have := HFS.out; rwa [HNXR.out, if_neg (fun h => hc0 (HCNT.out.trans h.2))] at this)
                  have hb0 : ((cnt : Int) == 0) = false := by rw [beq_eq_false_iff_ne]; omega

                  refine wp_region_held_drew (S := (fun w' => w'.cell? ⟨M, 0, none⟩ = some (.int .i64 (e + 1)) ∧ w'.cell? ⟨M, 1, none⟩ = some (.slice (some ⟨g, 0, none⟩) K0.length c') ∧ w'.cell? ⟨b3, off3 + j, none⟩ = some (.int .i64 u))) (by kernel_rfl) ⟨by simpa using x0, by simpa using x1, by simpa using hcu⟩ (fun hH0 => ?_)
                  refine wpAnyH_take (i := 0) (oi := _) (v := .slice da D.length dc) rfl (by kernel_rfl) (by kernel_rfl) (by kernel_rfl) (fun _ _ _ h => h) (Or.inl ⟨by rfl, ?_⟩) hH0 ?_
                  · intro w hSw; go_simp
                  simp only [Act.put, List.getElem_toArray, List.getElem_cons_zero, List.getElem_cons_succ, List.setIfInBounds_toArray, List.set_cons_zero, List.set_cons_succ]
                  refine wpAnyH_take (i := 1) (oi := _) (v := .slice (some ⟨b3, off3, none⟩) S.length sc) rfl (by kernel_rfl) (by kernel_rfl) (by kernel_rfl) (fun _ _ _ h => h) (Or.inl ⟨by rfl, ?_⟩) hH0 ?_
                  · intro w hSw; go_simp
                  simp only [Act.put, List.getElem_toArray, List.getElem_cons_zero, List.getElem_cons_succ, List.setIfInBounds_toArray, List.set_cons_zero, List.set_cons_succ]
                  refine wpAnyH_take (i := 2) (oi := _) (v := .int .i64 (j : Int)) rfl (by kernel_rfl) (by kernel_rfl) (by kernel_rfl) (fun _ _ _ h => h) (Or.inl ⟨by rfl, ?_⟩) hH0 ?_
                  · intro w hSw; go_simp
                  simp only [Act.put, List.getElem_toArray, List.getElem_cons_zero, List.getElem_cons_succ, List.setIfInBounds_toArray, List.set_cons_zero, List.set_cons_succ]
                  refine wpAnyH_take (i := 3) (oi := _) (v := .pointer (some ⟨b3, off3 + j, none⟩)) rfl (by kernel_rfl) (by kernel_rfl) (by kernel_rfl) (fun _ _ _ h => h) (Or.inl ⟨by rfl, ?_⟩) hH0 ?_
                  · intro w hSw; go_simp
                  simp only [Act.put, List.getElem_toArray, List.getElem_cons_zero, List.getElem_cons_succ, List.setIfInBounds_toArray, List.set_cons_zero, List.set_cons_succ]
                  refine wpAnyH_take (i := 4) (oi := _) (v := .int .i64 u) rfl (by kernel_rfl) (by kernel_rfl) (by kernel_rfl) (fun _ _ _ h => h) (Or.inl ⟨by rfl, ?_⟩) hH0 ?_
                  · intro w hSw; go_simp
                  simp only [Act.put, List.getElem_toArray, List.getElem_cons_zero, List.getElem_cons_succ, List.setIfInBounds_toArray, List.set_cons_zero, List.set_cons_succ]
                  refine wpAnyH_ready (rs := [5]) (by kernel_rfl) (by simp) (AllReadyH.cons (o := _) rfl (fun K hK => ?_) AllReadyH.nil)
                  go_simp
                  refine HRH.out.mono ?_
                  rintro en wq ⟨rfl, rfl⟩
                  refine hK.out _ _ ?_ (fun hH1 => ?_)
                  · exact hH0
                  clear hK K
                  refine wpAnyH_take (i := 6) (oi := _) (v := .bool true) rfl (by kernel_rfl) (by kernel_rfl) (by kernel_rfl) (fun _ _ _ h => h) (Or.inl ⟨by rfl, ?_⟩) hH1 ?_
                  · intro w hSw; go_simp
                  simp only [Act.put, List.getElem_toArray, List.getElem_cons_zero, List.getElem_cons_succ, List.setIfInBounds_toArray, List.set_cons_zero, List.set_cons_succ]
                  refine wpAnyH_take (i := 7) (oi := _) (v := .bool true) rfl (by kernel_rfl) (by kernel_rfl) (by kernel_rfl) (fun _ _ _ h => h) (Or.inl ⟨by rfl, ?_⟩) hH1 ?_
                  · intro w hSw; go_simp
                  simp only [Act.put, List.getElem_toArray, List.getElem_cons_zero, List.getElem_cons_succ, List.setIfInBounds_toArray, List.set_cons_zero, List.set_cons_succ]
                  refine wpAnyH_take (i := 8) (oi := _) (v := .agg #[.int .i64 (e + 1), .slice (some ⟨g, 0, none⟩) K0.length c']) rfl (by kernel_rfl) (by kernel_rfl) (by kernel_rfl) (fun _ _ _ h => h) (Or.inl ⟨by rfl, ?_⟩) hH1 ?_
                  · intro w hSw; go_simp
                  simp only [Act.put, List.getElem_toArray, List.getElem_cons_zero, List.getElem_cons_succ, List.setIfInBounds_toArray, List.set_cons_zero, List.set_cons_succ]
                  refine wpAnyH_take (i := 9) (oi := _) (v := .slice (some ⟨b3, off3, none⟩) S.length sc) rfl (by kernel_rfl) (by kernel_rfl) (by kernel_rfl) (fun _ _ _ h => h) (Or.inl ⟨by rfl, ?_⟩) hH1 ?_
                  · intro w hSw; go_simp
                  simp only [Act.put, List.getElem_toArray, List.getElem_cons_zero, List.getElem_cons_succ, List.setIfInBounds_toArray, List.set_cons_zero, List.set_cons_succ]
                  refine wpAnyH_take (i := 10) (oi := _) (v := .int .i64 (j : Int)) rfl (by kernel_rfl) (by kernel_rfl) (by kernel_rfl) (fun _ _ _ h => h) (Or.inl ⟨by rfl, ?_⟩) hH1 ?_
                  · intro w hSw; go_simp
                  simp only [Act.put, List.getElem_toArray, List.getElem_cons_zero, List.getElem_cons_succ, List.setIfInBounds_toArray, List.set_cons_zero, List.set_cons_succ]
                  refine wpAnyH_take (i := 11) (oi := _) (v := .pointer (some ⟨b3, off3 + j, none⟩)) rfl (by kernel_rfl) (by kernel_rfl) (by kernel_rfl) (fun _ _ _ h => h) (Or.inl ⟨by rfl, ?_⟩) hH1 ?_
                  · intro w hSw; go_simp
                  simp only [Act.put, List.getElem_toArray, List.getElem_cons_zero, List.getElem_cons_succ, List.setIfInBounds_toArray, List.set_cons_zero, List.set_cons_succ]
                  refine wpAnyH_take (i := 12) (oi := _) (v := .int .i64 u) rfl (by kernel_rfl) (by kernel_rfl) (by kernel_rfl) (fun _ _ _ h => h) (Or.inl ⟨by rfl, ?_⟩) hH1 ?_
                  · intro w hSw; go_simp
                  simp only [Act.put, List.getElem_toArray, List.getElem_cons_zero, List.getElem_cons_succ, List.setIfInBounds_toArray, List.set_cons_zero, List.set_cons_succ]
                  refine wpAnyH_ready (rs := [13]) (by kernel_rfl) (by simp) (AllReadyH.cons (o := _) rfl (fun K hK => ?_) AllReadyH.nil)
                  go_simp
                  refine HUN.out.mono ?_
                  rintro en wz ⟨rfl, hbz'⟩
                  have HBZ := Lib.hid' (hba.trans (hbz'.mono (by simp)))
                  clear hbz'
                  refine hK.out _ _ ?_ (fun hH2 => ?_)
                  · exact ⟨(HBZ.out.cell (p := ⟨M, 0, none⟩) hMz).trans x0, (HBZ.out.cell (p := ⟨M, 1, none⟩) hMz).trans x1, (HBZ.out.cell (p := ⟨b3, off3 + j, none⟩) hlt3).trans hcu⟩
                  clear hK K
                  refine wpAnyH_take (i := 14) (oi := _) (v := .bool false) rfl (by kernel_rfl) (by kernel_rfl) (by kernel_rfl) (fun _ _ _ h => h) (Or.inl ⟨by rfl, ?_⟩) hH2 ?_
                  · intro w hSw; go_simp
                  simp only [Act.put, List.getElem_toArray, List.getElem_cons_zero, List.getElem_cons_succ, List.setIfInBounds_toArray, List.set_cons_zero, List.set_cons_succ]
                  refine wpAnyH_take (i := 15) (oi := _) (v := .bool false) rfl (by kernel_rfl) (by kernel_rfl) (by kernel_rfl) (fun _ _ _ h => h) (Or.inl ⟨by rfl, ?_⟩) hH2 ?_
                  · intro w hSw; go_simp
                  simp only [Act.put, List.getElem_toArray, List.getElem_cons_zero, List.getElem_cons_succ, List.setIfInBounds_toArray, List.set_cons_zero, List.set_cons_succ]
                  refine wpAnyH_done (by kernel_rfl) ?_ _
                  have HBXb := Lib.hid' (HBXa.out.below (Nat.le_refl _) HBZ.out)
                  have HJb := Lib.hid' (HJa.out.below (Nat.le_refl _) HBZ.out)
                  have HBb := Lib.hid' (HBa.out.trans (HBZ.out.mono hzr))
                  clear HRH HDZ HUN
                  go_wp2_with fail
                  go_roundw
                  case rel => exact ⟨j + 1, Ks, by go_num, by omega, HLk, HK4, HFN, HBXb, HJb, HBb⟩
                  case measure => simp [intOf]; omega
                have HFN := Lib.hid' (show rFill D S (XL.drop (k + 1)) (k + 1) (rSpares D k m (S.drop (j + 1)) ((Ks.map (·.1)).set k (xs ++ [u]))) = FIN by have := HFS.out; rwa [HNXR.out, if_pos ⟨HG.out, HCNT.out.symm.trans hc0⟩] at this)
                have hb0 : ((cnt : Int) == 0) = true := by rw [beq_iff_eq]; omega

                refine wp_region_held_drew (S := (fun w' => w'.cell? ⟨M, 0, none⟩ = some (.int .i64 (e + 1)) ∧ w'.cell? ⟨M, 1, none⟩ = some (.slice (some ⟨g, 0, none⟩) K0.length c') ∧ w'.cell? ⟨b3, off3 + j, none⟩ = some (.int .i64 u))) (by kernel_rfl) ⟨by simpa using x0, by simpa using x1, by simpa using hcu⟩ (fun hH0 => ?_)
                refine wpAnyH_take (i := 0) (oi := _) (v := .slice da D.length dc) rfl (by kernel_rfl) (by kernel_rfl) (by kernel_rfl) (fun _ _ _ h => h) (Or.inl ⟨by rfl, ?_⟩) hH0 ?_
                · intro w hSw; go_simp
                simp only [Act.put, List.getElem_toArray, List.getElem_cons_zero, List.getElem_cons_succ, List.setIfInBounds_toArray, List.set_cons_zero, List.set_cons_succ]
                refine wpAnyH_take (i := 1) (oi := _) (v := .slice (some ⟨b3, off3, none⟩) S.length sc) rfl (by kernel_rfl) (by kernel_rfl) (by kernel_rfl) (fun _ _ _ h => h) (Or.inl ⟨by rfl, ?_⟩) hH0 ?_
                · intro w hSw; go_simp
                simp only [Act.put, List.getElem_toArray, List.getElem_cons_zero, List.getElem_cons_succ, List.setIfInBounds_toArray, List.set_cons_zero, List.set_cons_succ]
                refine wpAnyH_take (i := 2) (oi := _) (v := .int .i64 (j : Int)) rfl (by kernel_rfl) (by kernel_rfl) (by kernel_rfl) (fun _ _ _ h => h) (Or.inl ⟨by rfl, ?_⟩) hH0 ?_
                · intro w hSw; go_simp
                simp only [Act.put, List.getElem_toArray, List.getElem_cons_zero, List.getElem_cons_succ, List.setIfInBounds_toArray, List.set_cons_zero, List.set_cons_succ]
                refine wpAnyH_take (i := 3) (oi := _) (v := .pointer (some ⟨b3, off3 + j, none⟩)) rfl (by kernel_rfl) (by kernel_rfl) (by kernel_rfl) (fun _ _ _ h => h) (Or.inl ⟨by rfl, ?_⟩) hH0 ?_
                · intro w hSw; go_simp
                simp only [Act.put, List.getElem_toArray, List.getElem_cons_zero, List.getElem_cons_succ, List.setIfInBounds_toArray, List.set_cons_zero, List.set_cons_succ]
                refine wpAnyH_take (i := 4) (oi := _) (v := .int .i64 u) rfl (by kernel_rfl) (by kernel_rfl) (by kernel_rfl) (fun _ _ _ h => h) (Or.inl ⟨by rfl, ?_⟩) hH0 ?_
                · intro w hSw; go_simp
                simp only [Act.put, List.getElem_toArray, List.getElem_cons_zero, List.getElem_cons_succ, List.setIfInBounds_toArray, List.set_cons_zero, List.set_cons_succ]
                refine wpAnyH_ready (rs := [5]) (by kernel_rfl) (by simp) (AllReadyH.cons (o := _) rfl (fun K hK => ?_) AllReadyH.nil)
                go_simp
                refine HRH.out.mono ?_
                rintro en wq ⟨rfl, rfl⟩
                refine hK.out _ _ ?_ (fun hH1 => ?_)
                · exact hH0
                clear hK K
                refine wpAnyH_take (i := 6) (oi := _) (v := .bool true) rfl (by kernel_rfl) (by kernel_rfl) (by kernel_rfl) (fun _ _ _ h => h) (Or.inl ⟨by rfl, ?_⟩) hH1 ?_
                · intro w hSw; go_simp
                simp only [Act.put, List.getElem_toArray, List.getElem_cons_zero, List.getElem_cons_succ, List.setIfInBounds_toArray, List.set_cons_zero, List.set_cons_succ]
                refine wpAnyH_take (i := 7) (oi := _) (v := .bool true) rfl (by kernel_rfl) (by kernel_rfl) (by kernel_rfl) (fun _ _ _ h => h) (Or.inl ⟨by rfl, ?_⟩) hH1 ?_
                · intro w hSw; go_simp
                simp only [Act.put, List.getElem_toArray, List.getElem_cons_zero, List.getElem_cons_succ, List.setIfInBounds_toArray, List.set_cons_zero, List.set_cons_succ]
                refine wpAnyH_take (i := 8) (oi := _) (v := .agg #[.int .i64 (e + 1), .slice (some ⟨g, 0, none⟩) K0.length c']) rfl (by kernel_rfl) (by kernel_rfl) (by kernel_rfl) (fun _ _ _ h => h) (Or.inl ⟨by rfl, ?_⟩) hH1 ?_
                · intro w hSw; go_simp
                simp only [Act.put, List.getElem_toArray, List.getElem_cons_zero, List.getElem_cons_succ, List.setIfInBounds_toArray, List.set_cons_zero, List.set_cons_succ]
                refine wpAnyH_take (i := 9) (oi := _) (v := .slice (some ⟨b3, off3, none⟩) S.length sc) rfl (by kernel_rfl) (by kernel_rfl) (by kernel_rfl) (fun _ _ _ h => h) (Or.inl ⟨by rfl, ?_⟩) hH1 ?_
                · intro w hSw; go_simp
                simp only [Act.put, List.getElem_toArray, List.getElem_cons_zero, List.getElem_cons_succ, List.setIfInBounds_toArray, List.set_cons_zero, List.set_cons_succ]
                refine wpAnyH_take (i := 10) (oi := _) (v := .int .i64 (j : Int)) rfl (by kernel_rfl) (by kernel_rfl) (by kernel_rfl) (fun _ _ _ h => h) (Or.inl ⟨by rfl, ?_⟩) hH1 ?_
                · intro w hSw; go_simp
                simp only [Act.put, List.getElem_toArray, List.getElem_cons_zero, List.getElem_cons_succ, List.setIfInBounds_toArray, List.set_cons_zero, List.set_cons_succ]
                refine wpAnyH_take (i := 11) (oi := _) (v := .pointer (some ⟨b3, off3 + j, none⟩)) rfl (by kernel_rfl) (by kernel_rfl) (by kernel_rfl) (fun _ _ _ h => h) (Or.inl ⟨by rfl, ?_⟩) hH1 ?_
                · intro w hSw; go_simp
                simp only [Act.put, List.getElem_toArray, List.getElem_cons_zero, List.getElem_cons_succ, List.setIfInBounds_toArray, List.set_cons_zero, List.set_cons_succ]
                refine wpAnyH_take (i := 12) (oi := _) (v := .int .i64 u) rfl (by kernel_rfl) (by kernel_rfl) (by kernel_rfl) (fun _ _ _ h => h) (Or.inl ⟨by rfl, ?_⟩) hH1 ?_
                · intro w hSw; go_simp
                simp only [Act.put, List.getElem_toArray, List.getElem_cons_zero, List.getElem_cons_succ, List.setIfInBounds_toArray, List.set_cons_zero, List.set_cons_succ]
                refine wpAnyH_ready (rs := [13]) (by kernel_rfl) (by simp) (AllReadyH.cons (o := _) rfl (fun K hK => ?_) AllReadyH.nil)
                go_simp
                refine HUN.out.mono ?_
                rintro en wz ⟨rfl, hbz'⟩
                have HBZ := Lib.hid' (hba.trans (hbz'.mono (by simp)))
                clear hbz'
                refine hK.out _ _ ?_ (fun hH2 => ?_)
                · exact ⟨(HBZ.out.cell (p := ⟨M, 0, none⟩) hMz).trans x0, (HBZ.out.cell (p := ⟨M, 1, none⟩) hMz).trans x1, (HBZ.out.cell (p := ⟨b3, off3 + j, none⟩) hlt3).trans hcu⟩
                clear hK K
                refine wpAnyH_take (i := 14) (oi := _) (v := .bool true) rfl (by kernel_rfl) (by kernel_rfl) (by kernel_rfl) (fun _ _ _ h => h) (Or.inl ⟨by rfl, ?_⟩) hH2 ?_
                · intro w hSw; go_simp
                simp only [Act.put, List.getElem_toArray, List.getElem_cons_zero, List.getElem_cons_succ, List.setIfInBounds_toArray, List.set_cons_zero, List.set_cons_succ]
                refine wpAnyH_take (i := 15) (oi := _) (v := .bool true) rfl (by kernel_rfl) (by kernel_rfl) (by kernel_rfl) (fun _ _ _ h => h) (Or.inl ⟨by rfl, ?_⟩) hH2 ?_
                · intro w hSw; go_simp
                simp only [Act.put, List.getElem_toArray, List.getElem_cons_zero, List.getElem_cons_succ, List.setIfInBounds_toArray, List.set_cons_zero, List.set_cons_succ]
                refine wpAnyH_done (by kernel_rfl) ?_ _
                have HBXb := Lib.hid' (HBXa.out.below (Nat.le_refl _) HBZ.out)
                have HJb := Lib.hid' (HJa.out.below (Nat.le_refl _) HBZ.out)
                have HBb := Lib.hid' (HBa.out.trans (HBZ.out.mono hzr))
                clear HRH HDZ HUN x0 x1 hMz hcu HBXa HJa HBa HBW
                obtain ⟨g', hgg, hg0, hg1, cg, fg⟩ := HJb.out.at hltk
                simp only [Option.some.injEq, Addr.mk.injEq, and_true] at hgg
                subst hgg
                rw [HX.out] at cg
                simp only at cg
                have x1 := HBXb.out.box.1 1 _ rfl
                have hMu := HBXb.out.lt
                have hcu := HCU.out wz HBb.out
                have hzu : N + 2 ≤ wz.heap.size := Nat.le_trans hzr HBZ.out.size
                have hb3u : b3 < wz.heap.size := by omega
                have HROU := Lib.hid' (show wz.ownsRow (N + 2) 3 1 (.slice xa xs.length xc) xs.length (zVs xs) by have := HJb.out.each _ (List.getElem_mem hltk); rw [HX.out] at this; exact this)
                clear hzr HBZ hba hb0 hc0 HNXR HCNT
                go_wp2_with fail

                refine wp_region_held_drew (S := (fun w' => w'.cell? ⟨M, 1, none⟩ = some (.slice (some ⟨g, 0, none⟩) K0.length c') ∧ w'.cell? ⟨b3, off3 + j, none⟩ = some (.int .i64 u))) (by kernel_rfl) ⟨by simpa using x1, by simpa using hcu⟩ (fun hH0 => ?_)
                refine wpAnyH_take (i := 0) (oi := _) (v := .pointer (some ⟨M, 1, none⟩)) rfl (by kernel_rfl) (by kernel_rfl) (by kernel_rfl) (fun _ _ _ h => h) (Or.inl ⟨by rfl, ?_⟩) hH0 ?_
                · intro w hSw; go_simp
                simp only [Act.put, List.getElem_toArray, List.getElem_cons_zero, List.getElem_cons_succ, List.setIfInBounds_toArray, List.set_cons_zero, List.set_cons_succ]
                refine wpAnyH_take (i := 1) (oi := _) (v := .slice (some ⟨g, 0, none⟩) K0.length c') rfl (by kernel_rfl) (by kernel_rfl) (by kernel_rfl) (fun _ _ _ h => h) (Or.inl ⟨by rfl, ?_⟩) hH0 ?_
                · intro w hSw; go_simp
                simp only [Act.put, List.getElem_toArray, List.getElem_cons_zero, List.getElem_cons_succ, List.setIfInBounds_toArray, List.set_cons_zero, List.set_cons_succ]
                refine wpAnyH_take (i := 2) (oi := _) (v := .int .i64 (k : Int)) rfl (by kernel_rfl) (by kernel_rfl) (by kernel_rfl) (fun _ _ _ h => h) (Or.inl ⟨by rfl, ?_⟩) hH0 ?_
                · intro w hSw; go_simp
                simp only [Act.put, List.getElem_toArray, List.getElem_cons_zero, List.getElem_cons_succ, List.setIfInBounds_toArray, List.set_cons_zero, List.set_cons_succ]
                refine wpAnyH_take (i := 3) (oi := _) (v := .pointer (some ⟨M, 1, none⟩)) rfl (by kernel_rfl) (by kernel_rfl) (by kernel_rfl) (fun _ _ _ h => h) (Or.inl ⟨by rfl, ?_⟩) hH0 ?_
                · intro w hSw; go_simp
                simp only [Act.put, List.getElem_toArray, List.getElem_cons_zero, List.getElem_cons_succ, List.setIfInBounds_toArray, List.set_cons_zero, List.set_cons_succ]
                refine wpAnyH_take (i := 4) (oi := _) (v := .slice (some ⟨g, 0, none⟩) K0.length c') rfl (by kernel_rfl) (by kernel_rfl) (by kernel_rfl) (fun _ _ _ h => h) (Or.inl ⟨by rfl, ?_⟩) hH0 ?_
                · intro w hSw; go_simp
                simp only [Act.put, List.getElem_toArray, List.getElem_cons_zero, List.getElem_cons_succ, List.setIfInBounds_toArray, List.set_cons_zero, List.set_cons_succ]
                refine wpAnyH_take (i := 5) (oi := _) (v := .int .i64 (k : Int)) rfl (by kernel_rfl) (by kernel_rfl) (by kernel_rfl) (fun _ _ _ h => h) (Or.inl ⟨by rfl, ?_⟩) hH0 ?_
                · intro w hSw; go_simp
                simp only [Act.put, List.getElem_toArray, List.getElem_cons_zero, List.getElem_cons_succ, List.setIfInBounds_toArray, List.set_cons_zero, List.set_cons_succ]
                refine wpAnyH_take (i := 8) (oi := _) (v := .slice (some ⟨b3, off3, none⟩) S.length sc) rfl (by kernel_rfl) (by kernel_rfl) (by kernel_rfl) (fun _ _ _ h => h) (Or.inl ⟨by rfl, ?_⟩) hH0 ?_
                · intro w hSw; go_simp
                simp only [Act.put, List.getElem_toArray, List.getElem_cons_zero, List.getElem_cons_succ, List.setIfInBounds_toArray, List.set_cons_zero, List.set_cons_succ]
                refine wpAnyH_take (i := 9) (oi := _) (v := .int .i64 (j : Int)) rfl (by kernel_rfl) (by kernel_rfl) (by kernel_rfl) (fun _ _ _ h => h) (Or.inl ⟨by rfl, ?_⟩) hH0 ?_
                · intro w hSw; go_simp
                simp only [Act.put, List.getElem_toArray, List.getElem_cons_zero, List.getElem_cons_succ, List.setIfInBounds_toArray, List.set_cons_zero, List.set_cons_succ]
                refine wpAnyH_take (i := 10) (oi := _) (v := .pointer (some ⟨b3, off3 + j, none⟩)) rfl (by kernel_rfl) (by kernel_rfl) (by kernel_rfl) (fun _ _ _ h => h) (Or.inl ⟨by rfl, ?_⟩) hH0 ?_
                · intro w hSw; go_simp
                simp only [Act.put, List.getElem_toArray, List.getElem_cons_zero, List.getElem_cons_succ, List.setIfInBounds_toArray, List.set_cons_zero, List.set_cons_succ]
                refine wpAnyH_take (i := 11) (oi := _) (v := .int .i64 u) rfl (by kernel_rfl) (by kernel_rfl) (by kernel_rfl) (fun _ _ _ h => h) (Or.inl ⟨by rfl, ?_⟩) hH0 ?_
                · intro w hSw; go_simp
                simp only [Act.put, List.getElem_toArray, List.getElem_cons_zero, List.getElem_cons_succ, List.setIfInBounds_toArray, List.set_cons_zero, List.set_cons_succ]
                refine wpAnyH_ready (rs := [6, 12]) (by kernel_rfl) (by simp) (AllReadyH.cons (o := _) rfl (fun K hK => ?_) (AllReadyH.cons (o := _) rfl (fun K hK => ?_) AllReadyH.nil))
                · skip
                  go_simp
                  refine hK.out _ _ ?_ (fun hH1 => ?_)
                  · exact hH0
                  clear hK K
                  refine wpAnyH_ready (rs := [7, 12]) (by kernel_rfl) (by simp) (AllReadyH.cons (o := _) rfl (fun K hK => ?_) (AllReadyH.cons (o := _) rfl (fun K hK => ?_) AllReadyH.nil))
                  · skip
                    go_simp
                    refine hK.out _ _ ?_ (fun hH2 => ?_)
                    · exact hH1
                    clear hK K
                    refine wpAnyH_ready (rs := [12]) (by kernel_rfl) (by simp) (AllReadyH.cons (o := _) rfl (fun K hK => ?_) AllReadyH.nil)
                    go_simp
                    refine hK.out _ _ ?_ (fun hH3 => ?_)
                    · exact ⟨by simp [go_sem, x1, hMu], by simp [go_sem, hcu, hb3u]⟩
                    clear hK K
                    refine wpAnyH_ready (rs := [13]) (by kernel_rfl) (by simp) (AllReadyH.cons (o := _) rfl (fun K hK => ?_) AllReadyH.nil)
                    refine step_one2 (w := wz.drew) etInts rfl (.tmp 135) (.tmp 140) rfl [.int .i64 u] rfl (N + 2) xs.length (zVs xs) (.slice xa xs.length xc) rfl HROU.out rfl (by simp [Value.oneCell']) (by omega) (by show N + 2 ≤ wz.heap.size; exact hzu) ?_
                    intro a9 c9 w9 ho9 hf9 hq9
                    have hf9' : Fr (fun q => (chV (xs, xa, xc)).ownBlock = some q) wz w9 := (Fr.of_below (F := fun q => (chV (xs, xa, xc)).ownBlock = some q) (Below.drew (Below.refl _ wz))).trans hf9 (fun i hi => .inl hi)
                    have HL9 := Lib.hid' (show (xs ++ [u]).length = xs.length + 1 from by simp)
                    obtain ⟨⟨zg, gg, hx7, hMg⟩, hp2, hp3, hp4⟩ := HJb.out.put hzu hltk HX.out (xs ++ [u], a9, c9) HBXb.out (by decide) (by decide) hf9' (by unfold chV; simp only [HL9.out, zVs_append]; exact ho9) (fun b hb => by unfold chV at hb; simp only [HL9.out] at hb; exact hq9 b hb)
                    simp only [chV, HL9.out] at zg hp2 hp3 hp4
                    have z1 := hx7.box.1 1 _ rfl
                    have HP2 := Lib.hid' hp2
                    have HP3 := Lib.hid' hp3
                    have HP4 := Lib.hid' (hp4 _ HBb.out)
                    have zu := HCU.out w9 (HBb.out.trans (hf9'.below hzu (fun q hq => (own_blk HROU.out hq).1)))
                    have HMG := Lib.hid' hMg
                    clear ho9 hf9 hf9' hp2 hp3 hp4 hx7 hMg hq9
                    refine hK.out _ _ ?_ (fun hH4 => ?_)
                    · exact ⟨z1, zu⟩
                    clear hK K
                    refine wpAnyH_ready (rs := [14]) (by kernel_rfl) (by simp) (AllReadyH.cons (o := _) rfl (fun K hK => ?_) AllReadyH.nil)
                    go_simp
                    refine hK.out _ _ ?_ (fun hH5 => ?_)
                    · exact ⟨z1, zu⟩
                    clear hK K
                    refine wpAnyH_ready (rs := [15]) (by kernel_rfl) (by simp) (AllReadyH.cons (o := _) rfl (fun K hK => ?_) AllReadyH.nil)
                    go_simp
                    refine hK.out _ _ ?_ (fun hH6 => ?_)
                    · exact ⟨(fr_set _ _ _ _).cell z1 HMG.out, HCU.out _ HP4.out⟩
                    clear hK K
                    refine wpAnyH_done (by kernel_rfl) ?_ _
                    generalize w9.setCell ⟨g, k, none⟩ (.slice a9 (xs.length + 1) c9) = w8 at *
                    go_wp2_with fail
                    go_roundw
                    case rel => exact ⟨j + 1, Ks.set k (xs ++ [u], a9, c9), by go_num, by omega, Lib.hid' (by rw [List.length_set]; exact HLk.out), Lib.hid' (fun z hz => by rcases List.mem_or_eq_of_mem_set hz with hz | rfl; exact HK4.out z hz; simp only [HL9.out]; have := HY4.out; omega), Lib.hid' (by rw [List.map_set]; exact HFN.out), HP3, HP2, HP4⟩
                    case measure => simp [intOf]; omega
                  · skip
                    go_simp
                    refine hK.out _ _ ?_ (fun hH2 => ?_)
                    · exact ⟨by simp [go_sem, x1, hMu], by simp [go_sem, hcu, hb3u]⟩
                    clear hK K
                    refine wpAnyH_ready (rs := [7]) (by kernel_rfl) (by simp) (AllReadyH.cons (o := _) rfl (fun K hK => ?_) AllReadyH.nil)
                    go_simp
                    refine hK.out _ _ ?_ (fun hH3 => ?_)
                    · exact hH2
                    clear hK K
                    refine wpAnyH_ready (rs := [13]) (by kernel_rfl) (by simp) (AllReadyH.cons (o := _) rfl (fun K hK => ?_) AllReadyH.nil)
                    refine step_one2 (w := wz.drew) etInts rfl (.tmp 135) (.tmp 140) rfl [.int .i64 u] rfl (N + 2) xs.length (zVs xs) (.slice xa xs.length xc) rfl HROU.out rfl (by simp [Value.oneCell']) (by omega) (by show N + 2 ≤ wz.heap.size; exact hzu) ?_
                    intro a9 c9 w9 ho9 hf9 hq9
                    have hf9' : Fr (fun q => (chV (xs, xa, xc)).ownBlock = some q) wz w9 := (Fr.of_below (F := fun q => (chV (xs, xa, xc)).ownBlock = some q) (Below.drew (Below.refl _ wz))).trans hf9 (fun i hi => .inl hi)
                    have HL9 := Lib.hid' (show (xs ++ [u]).length = xs.length + 1 from by simp)
                    obtain ⟨⟨zg, gg, hx7, hMg⟩, hp2, hp3, hp4⟩ := HJb.out.put hzu hltk HX.out (xs ++ [u], a9, c9) HBXb.out (by decide) (by decide) hf9' (by unfold chV; simp only [HL9.out, zVs_append]; exact ho9) (fun b hb => by unfold chV at hb; simp only [HL9.out] at hb; exact hq9 b hb)
                    simp only [chV, HL9.out] at zg hp2 hp3 hp4
                    have z1 := hx7.box.1 1 _ rfl
                    have HP2 := Lib.hid' hp2
                    have HP3 := Lib.hid' hp3
                    have HP4 := Lib.hid' (hp4 _ HBb.out)
                    have zu := HCU.out w9 (HBb.out.trans (hf9'.below hzu (fun q hq => (own_blk HROU.out hq).1)))
                    have HMG := Lib.hid' hMg
                    clear ho9 hf9 hf9' hp2 hp3 hp4 hx7 hMg hq9
                    refine hK.out _ _ ?_ (fun hH4 => ?_)
                    · exact ⟨z1, zu⟩
                    clear hK K
                    refine wpAnyH_ready (rs := [14]) (by kernel_rfl) (by simp) (AllReadyH.cons (o := _) rfl (fun K hK => ?_) AllReadyH.nil)
                    go_simp
                    refine hK.out _ _ ?_ (fun hH5 => ?_)
                    · exact ⟨z1, zu⟩
                    clear hK K
                    refine wpAnyH_ready (rs := [15]) (by kernel_rfl) (by simp) (AllReadyH.cons (o := _) rfl (fun K hK => ?_) AllReadyH.nil)
                    go_simp
                    refine hK.out _ _ ?_ (fun hH6 => ?_)
                    · exact ⟨(fr_set _ _ _ _).cell z1 HMG.out, HCU.out _ HP4.out⟩
                    clear hK K
                    refine wpAnyH_done (by kernel_rfl) ?_ _
                    generalize w9.setCell ⟨g, k, none⟩ (.slice a9 (xs.length + 1) c9) = w8 at *
                    go_wp2_with fail
                    go_roundw
                    case rel => exact ⟨j + 1, Ks.set k (xs ++ [u], a9, c9), by go_num, by omega, Lib.hid' (by rw [List.length_set]; exact HLk.out), Lib.hid' (fun z hz => by rcases List.mem_or_eq_of_mem_set hz with hz | rfl; exact HK4.out z hz; simp only [HL9.out]; have := HY4.out; omega), Lib.hid' (by rw [List.map_set]; exact HFN.out), HP3, HP2, HP4⟩
                    case measure => simp [intOf]; omega
                · skip
                  go_simp
                  refine hK.out _ _ ?_ (fun hH1 => ?_)
                  · exact ⟨by simp [go_sem, x1, hMu], by simp [go_sem, hcu, hb3u]⟩
                  clear hK K
                  refine wpAnyH_ready (rs := [6]) (by kernel_rfl) (by simp) (AllReadyH.cons (o := _) rfl (fun K hK => ?_) AllReadyH.nil)
                  go_simp
                  refine hK.out _ _ ?_ (fun hH2 => ?_)
                  · exact hH1
                  clear hK K
                  refine wpAnyH_ready (rs := [7]) (by kernel_rfl) (by simp) (AllReadyH.cons (o := _) rfl (fun K hK => ?_) AllReadyH.nil)
                  go_simp
                  refine hK.out _ _ ?_ (fun hH3 => ?_)
                  · exact hH2
                  clear hK K
                  refine wpAnyH_ready (rs := [13]) (by kernel_rfl) (by simp) (AllReadyH.cons (o := _) rfl (fun K hK => ?_) AllReadyH.nil)
                  refine step_one2 (w := wz.drew) etInts rfl (.tmp 135) (.tmp 140) rfl [.int .i64 u] rfl (N + 2) xs.length (zVs xs) (.slice xa xs.length xc) rfl HROU.out rfl (by simp [Value.oneCell']) (by omega) (by show N + 2 ≤ wz.heap.size; exact hzu) ?_
                  intro a9 c9 w9 ho9 hf9 hq9
                  have hf9' : Fr (fun q => (chV (xs, xa, xc)).ownBlock = some q) wz w9 := (Fr.of_below (F := fun q => (chV (xs, xa, xc)).ownBlock = some q) (Below.drew (Below.refl _ wz))).trans hf9 (fun i hi => .inl hi)
                  have HL9 := Lib.hid' (show (xs ++ [u]).length = xs.length + 1 from by simp)
                  obtain ⟨⟨zg, gg, hx7, hMg⟩, hp2, hp3, hp4⟩ := HJb.out.put hzu hltk HX.out (xs ++ [u], a9, c9) HBXb.out (by decide) (by decide) hf9' (by unfold chV; simp only [HL9.out, zVs_append]; exact ho9) (fun b hb => by unfold chV at hb; simp only [HL9.out] at hb; exact hq9 b hb)
                  simp only [chV, HL9.out] at zg hp2 hp3 hp4
                  have z1 := hx7.box.1 1 _ rfl
                  have HP2 := Lib.hid' hp2
                  have HP3 := Lib.hid' hp3
                  have HP4 := Lib.hid' (hp4 _ HBb.out)
                  have zu := HCU.out w9 (HBb.out.trans (hf9'.below hzu (fun q hq => (own_blk HROU.out hq).1)))
                  have HMG := Lib.hid' hMg
                  clear ho9 hf9 hf9' hp2 hp3 hp4 hx7 hMg hq9
                  refine hK.out _ _ ?_ (fun hH4 => ?_)
                  · exact ⟨z1, zu⟩
                  clear hK K
                  refine wpAnyH_ready (rs := [14]) (by kernel_rfl) (by simp) (AllReadyH.cons (o := _) rfl (fun K hK => ?_) AllReadyH.nil)
                  go_simp
                  refine hK.out _ _ ?_ (fun hH5 => ?_)
                  · exact ⟨z1, zu⟩
                  clear hK K
                  refine wpAnyH_ready (rs := [15]) (by kernel_rfl) (by simp) (AllReadyH.cons (o := _) rfl (fun K hK => ?_) AllReadyH.nil)
                  go_simp
                  refine hK.out _ _ ?_ (fun hH6 => ?_)
                  · exact ⟨(fr_set _ _ _ _).cell z1 HMG.out, HCU.out _ HP4.out⟩
                  clear hK K
                  refine wpAnyH_done (by kernel_rfl) ?_ _
                  generalize w9.setCell ⟨g, k, none⟩ (.slice a9 (xs.length + 1) c9) = w8 at *
                  go_wp2_with fail
                  go_roundw
                  case rel => exact ⟨j + 1, Ks.set k (xs ++ [u], a9, c9), by go_num, by omega, Lib.hid' (by rw [List.length_set]; exact HLk.out), Lib.hid' (fun z hz => by rcases List.mem_or_eq_of_mem_set hz with hz | rfl; exact HK4.out z hz; simp only [HL9.out]; have := HY4.out; omega), Lib.hid' (by rw [List.map_set]; exact HFN.out), HP3, HP2, HP4⟩
                  case measure => simp [intOf]; omega
            · obtain rfl : k = K0.length := by omega
              obtain ⟨⟨⟨k30, k31⟩, k60, k61, f60, f61⟩, hbw, hzr⟩ := HOLD.out wr HB.out
              have HBW := Lib.hid' hbw
              clear hbw
              have x1 := HBX.out.box.1 1 _ rfl
              have x0 := HBX.out.box.1 0 _ rfl
              have HCSN := Lib.hid' (show Ks.map (·.1) = FIN by have := HFS.out; rwa [List.drop_eq_nil_of_le (show XL.length ≤ K0.length by rw [HXN.out, HL.out]; exact Nat.le_refl _), rFill] at this)
              have HRET := Lib.hid' (show RNextR NX w (.returned (.tuple #[.agg #[.int .i64 (e + 1), .slice a' K0.length c'], .int .i64 0])) ((wr.setCell ⟨N + 1, 0, none⟩ (.int .i64 (e + 1))).setCell ⟨N + 1, 1, none⟩ (.slice a' K0.length c')) from by
                rw [HFI.out]
                refine ⟨e + 1, a', c', Ks, by unfold pjV; rw [HLk.out]; rfl, by unfold docJ; rw [HCSN.out], ?_, ?_⟩
                · exact (HJ.out.fr (F := fun q => q = N + 1) ((fr_set _ _ _ _).trans (fr_set _ _ _ _) (fun i hi => .inl hi)) (fun q hq => by omega)).base (by rw [← HN.out]; omega)
                · rw [← HN.out]; exact (HBW.out.setCell (by simp) _).setCell (by simp) _)
              go_wp2
              refine bodyPost_ret (v := .tuple #[.agg #[.int .i64 (e + 1), .slice a' K0.length c'], .int .i64 0]) (by simp [results, Try.results12, go_sem, x0, x1, k60, k61]) rfl HRET.out
end Go.Proofs.Ytjkbcjliaacebaa
