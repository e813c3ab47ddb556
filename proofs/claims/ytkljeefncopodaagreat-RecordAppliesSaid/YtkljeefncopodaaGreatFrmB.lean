/- Layer 4 (frame): Put, Take, One. -/
import Derived.Test.YtkljeefncopodaaGreatFrmA
namespace Go.Proofs.YtkljeefncopodaaGreat
open Go.RowKit
set_option linter.unusedSimpArgs false
set_option linter.unusedVariables false
set_option maxRecDepth 100000

/-- a text's frame behind bytes; an error's number -/
def fputN (t : List UInt8) : Nat := if 65536 < t.length then 3 else 0
def fputB (b t : List UInt8) : List UInt8 := if 65536 < t.length then [] else b ++ frameB t
def FPutR (b t : List UInt8) (w : World) (en : Ending) (w' : World) : Prop :=
  ∃ a c, en = .returned (.tuple #[.slice a (fputB b t).length c, errV (fputN t)]) ∧ w'.ownsRow w.heap.size 5 1 (.slice a (fputB b t).length c) (fputB b t).length (byteVs (fputB b t)) ∧ Below w.heap.size w w'
set_option maxHeartbeats 2000000 in
theorem fput_any (b t : List UInt8) (a ta : Option Addr) (c tc : Nat) (w : World) (h : Bytes w (.slice a b.length c) b) (hT : Bytes w (.slice ta t.length tc) t) (hb : b.length ≤ 1073741824) :
    Calls Tryz.prog 66 #[.slice a b.length c, .slice ta t.length tc] w (FPutR b t w) := by
  have HB := Lib.hid' h
  have HT := Lib.hid' hT
  have htl := bytes_len hT
  clear h hT
  by_cases hl : 65536 < t.length
  · have H1 := Lib.hid' (show fputN t = 3 from if_pos hl)
    have H2 := Lib.hid' (show fputB b t = [] from if_pos hl)
    go_enter Tryz.func66, Tryz.ntmps66
    go_wp2
    refine bodyPost_ret (v := .tuple #[.slice none 0 0, .iface 71 (.int .i64 3)]) (by simp [results, Tryz.results66, go_sem]) rfl ?_
    exact ⟨none, 0, by rw [H1.out, H2.out]; rfl, by rw [H2.out]; exact own_nil _ _ _ _, Below.refl _ _⟩
  have H1 := Lib.hid' (show fputN t = 0 from if_neg hl)
  have H2 := Lib.hid' (show fputB b t = b ++ frameB t from if_neg hl)
  go_enter Tryz.func66, Tryz.ntmps66
  go_wp2_with fail
  refine (crcnew_any w).mono ?_
  rintro e w1 ⟨rfl, hx1, hb1, hz1⟩
  have HX1 := Lib.hid' (show BoxW w.heap.size freshR 230 w1 from hx1)
  have HB1 := Lib.hid' hb1
  have HT1 := Lib.hid' (show Bytes w1 (.slice ta t.length tc) t from SlV.below HT.out (Nat.le_refl _) hb1)
  clear hx1 hb1
  go_wp2_with fail
  refine (vPutText_any [] t none ta 0 tc w1 (SlV.empty _ _ _ (Nat.zero_le _) (fun _ => rfl)) HT1.out (by simp) (by omega)).mono ?_
  rintro e w2 ⟨a2, c2, rfl, ho2, hb2⟩
  rw [List.nil_append] at ho2 ⊢
  have HX2 := Lib.hid' (HX1.out.below (Nat.le_refl _) hb2)
  have HB2 := Lib.hid' (HB1.out.trans (hb2.mono (by omega)))
  have HO2 := Lib.hid' (show Bytes w2 (.slice a2 (headB t).length c2) (headB t) from SlV.of_own ho2)
  have hz2 : w.heap.size < w2.heap.size := by have := hb2.size; omega
  have hhl : (headB t).length ≤ 65556 := by
    have := vb_len10 (n := t.length) (by omega)
    unfold headB; rw [List.length_append]; omega
  clear ho2 hb2 HT1
  obtain ⟨hd, hhd⟩ : ∃ hd, hd = headB t := ⟨_, rfl⟩
  have HHD := Lib.hid' hhd
  rw [← hhd] at HO2 hhl ⊢
  clear hhd
  go_wp2_with fail
  refine (sealed_any w.heap.size a2 c2 hd w2 HX2.out HO2.out (by omega)).mono ?_
  rintro e w3 ⟨a3, c3, rfl, ho3, hf3⟩
  have HFR := Lib.hid' (show hd ++ four (crcOf 0 hd) = frameB t by unfold frameB; rw [HHD.out])
  rw [HFR.out] at ho3 ⊢
  have HB3 := Lib.hid' (HB2.out.trans (hf3.below (by omega) (fun k hk => by omega)))
  have HO3 := Lib.hid' (show Bytes w3 (.slice a3 (frameB t).length c3) (frameB t) from SlV.of_own ho3)
  have hz3 : w.heap.size < w3.heap.size := by have := hf3.size; omega
  have hfl : (frameB t).length ≤ 70000 := by rw [frameB_len]; have := vb_len10 (n := t.length) (by omega); omega
  clear ho3 hf3 HX1 HX2 HB1
  obtain ⟨fr, hfr⟩ : ∃ fr, fr = frameB t := ⟨_, rfl⟩
  have HFF := Lib.hid' hfr
  rw [← hfr] at HO3 hfl ⊢
  clear hfr HFR
  go_wp2_with fail
  have HBx := Lib.hid' (show Bytes w3 (.slice a b.length c) b from SlV.below HB.out (Nat.le_refl _) HB3.out)
  have hg : Below w3.heap.size w3 (w3.alloc (.cells #[.slice a b.length c, .slice a3 fr.length c3] 22)) := by go_grown
  have HCH := Lib.hid' (show Cbs (w3.alloc (.cells #[.slice a b.length c, .slice a3 fr.length c3] 22)) (some ⟨w3.heap.size, 0, none⟩) 2 [(b, a, c), (fr, a3, c3)] from
    ⟨SlV.of_own (slv_alloc w3 [.slice a b.length c, .slice a3 fr.length c3] 2 22 (by decide) rfl), fun y hy => by
      simp only [List.mem_cons, List.not_mem_nil, or_false] at hy
      rcases hy with rfl | rfl
      · exact SlV.below HBx.out (Nat.le_refl _) hg
      · exact SlV.below HO3.out (Nat.le_refl _) hg⟩)
  have hfb : flatB [(b, a, c), (fr, a3, c3)] = b ++ fr := by simp [flatB]
  have hcc := concatB_any [(b, a, c), (fr, a3, c3)] (some ⟨w3.heap.size, 0, none⟩) 2 _ HCH.out (by rw [hfb, List.length_append]; omega)
  rw [hfb] at hcc
  have HG := Lib.hid' (HB3.out.trans (hg.mono (by omega)))
  clear hg hfb
  refine hcc.mono ?_
  rintro e w4 ⟨a4, c4, rfl, ho4, hb4⟩
  have HO4 := Lib.hid' (own_base (B' := w.heap.size) ho4 (by simp; omega))
  have HB4 := Lib.hid' (HG.out.trans (hb4.mono (by simp; omega)))
  clear ho4 hb4 hcc
  obtain ⟨r, hr⟩ : ∃ r, r = b ++ fr := ⟨_, rfl⟩
  have HR := Lib.hid' (show fputB b t = r by rw [H2.out, ← HFF.out, hr])
  rw [← hr] at HO4 ⊢
  clear hr
  go_wp2
  refine bodyPost_ret (v := .tuple #[.slice a4 r.length c4, .nilIface]) (by simp [results, Tryz.results66, go_sem]) rfl ?_
  exact ⟨a4, c4, by rw [H1.out, HR.out]; rfl, by rw [HR.out]; exact HO4.out, HB4.out⟩
def FTakeR (r : Nat × List UInt8 × Nat) (w : World) (en : Ending) (w' : World) : Prop :=
  ∃ a c, en = .returned (.tuple #[.slice a r.2.1.length c, .int .i64 r.2.2, errV r.1]) ∧ Bytes w' (.slice a r.2.1.length c) r.2.1 ∧ Below w.heap.size w w'
theorem FTakeR.bad {w w' : World} {n : Nat} (h : Below w.heap.size w w') : FTakeR (n, [], 0) w (.returned (.tuple #[.slice none 0 0, .int .i64 0, errV n])) w' :=
  ⟨none, 0, rfl, SlV.empty _ _ _ (Nat.zero_le _) (fun _ => rfl), h⟩
set_option maxHeartbeats 2000000 in
theorem ftake_any (b : List UInt8) (a : Option Addr) (c : Nat) (w : World) (h : Bytes w (.slice a b.length c) b) :
    Calls Tryz.prog 98 #[.slice a b.length c] w (FTakeR (ftake b) w) := by
  have HB := Lib.hid' h
  have hbl := bytes_len h
  have hcap : b.length ≤ c ∧ c ≤ maxLen := by obtain ⟨_, _, he, h1, h2, _⟩ := h; cases he; exact ⟨h1, h2⟩
  have hcm : c ≤ 9223372036854775807 := by have := hcap.2; unfold maxLen at this; omega
  have hT := vTake_any b a c w h
  clear h
  cases hv : vtake b with
  | none =>
    rw [hv] at hT
    simp only [TakeR, errV_pos (n := 2) (by decide)] at hT
    have HT := Lib.hid' hT
    have HR := Lib.hid' (show ftake b = (2, [], 0) by unfold ftake; rw [hv])
    clear hv hT
    go_enter Tryz.func98, Tryz.ntmps98
    go_wp2_with fail
    refine HT.out.mono ?_
    rintro e w1 ⟨rfl, rfl⟩
    go_wp2
    refine bodyPost_ret (v := .tuple #[.slice none 0 0, .int .i64 0, .iface 71 (.int .i64 2)]) (by simp [results, Tryz.results98, go_sem]) rfl ?_
    rw [HR.out]; exact FTakeR.bad (Below.refl _ _)
  | some q =>
  obtain ⟨n, k⟩ := q
  rw [hv] at hT
  simp only [TakeR] at hT
  have HT := Lib.hid' hT
  obtain ⟨_, hn, hk10, hkl, hk0⟩ := vtake_some hv
  by_cases h1 : 65536 < n
  · have HR := Lib.hid' (show ftake b = (3, [], 0) by unfold ftake; rw [hv]; simp only [h1, if_true])
    clear hv hT
    go_enter Tryz.func98, Tryz.ntmps98
    go_wp2_with fail
    refine HT.out.mono ?_
    rintro e w1 ⟨rfl, rfl⟩
    go_wp2
    refine bodyPost_ret (v := .tuple #[.slice none 0 0, .int .i64 0, .iface 71 (.int .i64 3)]) (by simp [results, Tryz.results98, go_sem]) rfl ?_
    rw [HR.out]; exact FTakeR.bad (Below.refl _ _)
  by_cases h2 : b.length < k + n + 4
  · have HR := Lib.hid' (show ftake b = (2, [], 0) by unfold ftake; rw [hv]; simp only [h1, h2, if_true, if_false])
    have h2' : (b.length : Int) - k < n + 4 := by omega
    clear hv hT
    go_enter Tryz.func98, Tryz.ntmps98
    go_wp2_with fail
    refine HT.out.mono ?_
    rintro e w1 ⟨rfl, rfl⟩
    go_wp2
    refine bodyPost_ret (v := .tuple #[.slice none 0 0, .int .i64 0, .iface 71 (.int .i64 2)]) (by simp [results, Tryz.results98, go_sem]) rfl ?_
    rw [HR.out]; exact FTakeR.bad (Below.refl _ _)
  have h2' : ¬ (b.length : Int) - k < n + 4 := by omega
  have HFT := Lib.hid' (show ftake b = if four (crcOf 0 (b.take (k + n))) = (b.drop (k + n)).take 4 then (0, (b.take (k + n)).drop k, k + n + 4) else (11, [], 0) by
    unfold ftake; rw [hv]; simp only [h1, h2, if_false])
  have HTK := Lib.hid' (bytes_take HB.out (k := k + n + 4) (by omega))
  have HTL := Lib.hid' (show (b.take (k + n + 4)).length = k + n + 4 by rw [List.length_take]; omega)
  have HOB := Lib.hid' (show openB (b.take (k + n + 4)) = if four (crcOf 0 (b.take (k + n))) = (b.drop (k + n)).take 4 then (0, b.take (k + n)) else (11, []) by
    unfold openB
    rw [HTL.out, if_neg (by omega), show k + n + 4 - 4 = k + n by omega, List.take_take, Nat.min_eq_left (by omega)]
    rw [show (b.take (k + n + 4)).drop (k + n) = (b.drop (k + n)).take 4 from by rw [List.drop_take]; congr 1; omega])
  have hb1 : k + n + 4 ≤ b.length := by omega
  have hcs : k + n + 4 ≤ c := by omega
  obtain ⟨ob, hob⟩ : ∃ ob, ob = openB (b.take (k + n + 4)) := ⟨_, rfl⟩
  have HOBE := Lib.hid' hob
  have hop : ∀ (M : Nat) (w1 : World), BoxW M freshR 230 w1 → Bytes w1 (.slice a (k + n + 4) c) (b.take (k + n + 4)) → Calls Tryz.prog 150 #[.pointer (some ⟨M, 0, none⟩), .slice a (k + n + 4) c] w1 (OpenR ob (fun q => q = M) w1) := by
    intro M w1 hx hy
    have := opened_any M a c (b.take (k + n + 4)) w1 hx (by rw [HTL.out]; exact hy) (by rw [HTL.out]; omega)
    rw [HTL.out, ← hob] at this
    exact this
  have HOP := Lib.hid' hop
  clear hv hT hob hop hcap h2
  go_enter Tryz.func98, Tryz.ntmps98
  go_wp2_with fail
  refine HT.out.mono ?_
  rintro e w1 ⟨rfl, rfl⟩
  clear HT
  go_wp2_with fail

  refine wp_region_held_drew (S := (fun _ => True)) (by kernel_rfl) trivial (fun hH0 => ?_)
  refine wpAnyH_take (i := 1) (oi := _) (v := .slice a b.length c) rfl (by kernel_rfl) (by kernel_rfl) (by kernel_rfl) (fun _ _ _ h => h) (Or.inl ⟨by rfl, ?_⟩) hH0 ?_
  · intro w hSw; go_simp
  simp only [Act.put, List.getElem_toArray, List.getElem_cons_zero, List.getElem_cons_succ, List.setIfInBounds_toArray, List.set_cons_zero, List.set_cons_succ]
  refine wpAnyH_take (i := 2) (oi := _) (v := .int .i64 ((k : Int) + (n : Int) + 4)) rfl (by kernel_rfl) (by kernel_rfl) (by kernel_rfl) (fun _ _ _ h => h) (Or.inl ⟨by rfl, ?_⟩) hH0 ?_
  · intro w hSw; go_simp
  simp only [Act.put, List.getElem_toArray, List.getElem_cons_zero, List.getElem_cons_succ, List.setIfInBounds_toArray, List.set_cons_zero, List.set_cons_succ]
  refine wpAnyH_take (i := 3) (oi := _) (v := .slice a (k + n + 4) c) rfl (by kernel_rfl) (by kernel_rfl) (by kernel_rfl) (fun _ _ _ h => h) (Or.inl ⟨by rfl, ?_⟩) hH0 ?_
  · intro w hSw; go_simp; rw [if_pos ⟨by omega, by omega⟩, show ((k : Int) + (n : Int) + 4).toNat = k + n + 4 from by omega]
  simp only [Act.put, List.getElem_toArray, List.getElem_cons_zero, List.getElem_cons_succ, List.setIfInBounds_toArray, List.set_cons_zero, List.set_cons_succ]
  refine wpAnyH_ready (rs := [0]) (by kernel_rfl) (by simp) (AllReadyH.cons (o := _) rfl (fun K hK => ?_) AllReadyH.nil)
  go_simp
  refine (crcnew_any w.drew).mono ?_
  rintro e w1 ⟨rfl, hx1, hb1', hz1⟩
  have HX1 := Lib.hid' (show BoxW w.heap.size freshR 230 w1 from hx1)
  have HB1 := Lib.hid' (show Below w.heap.size w w1 from (Below.drew (Below.refl _ _)).trans hb1')
  have hz1' : w1.heap.size = w.heap.size + 1 := hz1
  clear hx1 hb1' hz1
  refine hK.out _ _ ?_ (fun hH1 => ?_)
  · trivial
  clear hK K
  refine wpAnyH_ready (rs := [4]) (by kernel_rfl) (by simp) (AllReadyH.cons (o := _) rfl (fun K hK => ?_) AllReadyH.nil)
  go_simp
  refine (HOP.out w.heap.size w1 HX1.out (SlV.below HTK.out (Nat.le_refl _) HB1.out)).mono ?_
  rintro e w2 ⟨a2, c2, rfl, ho2, hf2⟩
  have HO2 := Lib.hid' ho2
  have HF2 := Lib.hid' hf2
  have HB2 := Lib.hid' (HB1.out.trans (hf2.below (B := w.heap.size) (by omega) (fun q hq => by omega)))
  clear ho2 hf2
  refine hK.out _ _ ?_ (fun hH2 => ?_)
  · trivial
  clear hK K
  refine wpAnyH_take (i := 5) (oi := _) (v := .tuple #[.slice a2 ob.2.length c2, errV ob.1]) rfl (by kernel_rfl) (by kernel_rfl) (by kernel_rfl) (fun _ _ _ h => h) (Or.inl ⟨by rfl, ?_⟩) hH2 ?_
  · intro w hSw; go_simp
  simp only [Act.put, List.getElem_toArray, List.getElem_cons_zero, List.getElem_cons_succ, List.setIfInBounds_toArray, List.set_cons_zero, List.set_cons_succ]
  refine wpAnyH_take (i := 6) (oi := _) (v := .slice a2 ob.2.length c2) rfl (by kernel_rfl) (by kernel_rfl) (by kernel_rfl) (fun _ _ _ h => h) (Or.inl ⟨by rfl, ?_⟩) hH2 ?_
  · intro w hSw; go_simp
  simp only [Act.put, List.getElem_toArray, List.getElem_cons_zero, List.getElem_cons_succ, List.setIfInBounds_toArray, List.set_cons_zero, List.set_cons_succ]
  refine wpAnyH_take (i := 7) (oi := _) (v := errV ob.1) rfl (by kernel_rfl) (by kernel_rfl) (by kernel_rfl) (fun _ _ _ h => h) (Or.inl ⟨by rfl, ?_⟩) hH2 ?_
  · intro w hSw; go_simp
  simp only [Act.put, List.getElem_toArray, List.getElem_cons_zero, List.getElem_cons_succ, List.setIfInBounds_toArray, List.set_cons_zero, List.set_cons_succ]
  refine wpAnyH_take (i := 8) (oi := _) (v := .slice a2 ob.2.length c2) rfl (by kernel_rfl) (by kernel_rfl) (by kernel_rfl) (fun _ _ _ h => h) (Or.inl ⟨by rfl, ?_⟩) hH2 ?_
  · intro w hSw; go_simp
  simp only [Act.put, List.getElem_toArray, List.getElem_cons_zero, List.getElem_cons_succ, List.setIfInBounds_toArray, List.set_cons_zero, List.set_cons_succ]
  refine wpAnyH_take (i := 9) (oi := _) (v := errV ob.1) rfl (by kernel_rfl) (by kernel_rfl) (by kernel_rfl) (fun _ _ _ h => h) (Or.inl ⟨by rfl, ?_⟩) hH2 ?_
  · intro w hSw; go_simp
  simp only [Act.put, List.getElem_toArray, List.getElem_cons_zero, List.getElem_cons_succ, List.setIfInBounds_toArray, List.set_cons_zero, List.set_cons_succ]
  refine wpAnyH_done (by kernel_rfl) ?_ _
  by_cases hq : four (crcOf 0 (b.take (k + n))) = (b.drop (k + n)).take 4
  rotate_left
  · have hE := HOB.out
    rw [if_neg hq] at hE
    have HE := Lib.hid' (HOBE.out.trans hE)
    have HR := Lib.hid' (show ftake b = (11, [], 0) by rw [HFT.out, if_neg hq])
    clear hE hq
    obtain rfl := HE.out
    simp only [errV_pos (n := 11) (by decide)]
    go_wp2
    refine bodyPost_ret (v := .tuple #[.slice none 0 0, .int .i64 0, .iface 71 (.int .i64 11)]) (by simp [results, Tryz.results98, go_sem]) rfl ?_
    rw [HR.out]; exact FTakeR.bad HB2.out
  have hE := HOB.out
  rw [if_pos hq] at hE
  have HE := Lib.hid' (HOBE.out.trans hE)
  have HR := Lib.hid' (show ftake b = (0, (b.take (k + n)).drop k, k + n + 4) by rw [HFT.out, if_pos hq])
  clear hE hq
  obtain rfl := HE.out
  simp only [errV_0]
  have HTKL := Lib.hid' (show (b.take (k + n)).length = k + n by rw [List.length_take]; omega)
  have HY := Lib.hid' (show Bytes w2 (.slice a2 (b.take (k + n)).length c2) (b.take (k + n)) from SlV.of_own HO2.out)
  have hc2 : k + n ≤ c2 ∧ c2 ≤ maxLen := by obtain ⟨_, _, he, h1, h2, _⟩ := HY.out; cases he; rw [HTKL.out] at h1; exact ⟨h1, h2⟩
  have hc2m : c2 ≤ 9223372036854775807 := by have := hc2.2; unfold maxLen at this; omega
  obtain ⟨bb, off, rfl, hbb, hcc⟩ := bytes_at HY.out (show 0 < (b.take (k + n)).length by rw [HTKL.out]; omega)
  clear hcc
  have HDL := Lib.hid' (show ((b.take (k + n)).drop k).length = n by rw [List.length_drop, HTKL.out]; omega)
  simp only [HTKL.out]
  have hkc' : k ≤ c2 := by omega
  by_cases hkc : c2 = k
  · have HS := Lib.hid' (bytes_sub (k := k) HY.out (by rw [HTKL.out]; omega) (some ⟨bb, off, none⟩) (.inr (by rw [HTKL.out]; omega)) (by simp))
    obtain rfl : n = 0 := by omega
    subst hkc
    go_wp2
    refine bodyPost_ret (v := .tuple #[.slice (some ⟨bb, off, none⟩) 0 0, .int .i64 ((c2 + 0 + 4 : Nat) : Int), .nilIface]) (by simp [results, Tryz.results98, go_sem]) rfl ?_
    rw [HR.out]
    exact ⟨some ⟨bb, off, none⟩, 0, by simp only [HDL.out]; rfl, by have := HS.out; simp only [HDL.out, Nat.sub_self] at this ⊢; exact this, HB2.out⟩
  · have hlt : k < c2 := by omega
    have HS := Lib.hid' (bytes_sub (k := k) HY.out (by rw [HTKL.out]; omega) (some ⟨bb, off + k, none⟩) (.inl ⟨bb, off, rfl, rfl⟩) (by simp))
    have hnk : k + n - k = n := by omega
    go_wp2
    refine bodyPost_ret (v := .tuple #[.slice (some ⟨bb, off + k, none⟩) n (c2 - k), .int .i64 ((k + n + 4 : Nat) : Int), .nilIface]) (by simp [results, Tryz.results98, go_sem]) rfl ?_
    rw [HR.out]
    exact ⟨some ⟨bb, off + k, none⟩, c2 - k, by simp only [HDL.out]; rfl, by have := HS.out; simp only [HDL.out] at this ⊢; exact this, HB2.out⟩

end Go.Proofs.YtkljeefncopodaaGreat
