/- Layer 4 (frame), the document's: Take. -/
import Derived.Test.YtkljeefncopodaaGreatRef01
import Derived.Test.YtkljeefncopodaaGreatSlB
namespace Go.Proofs.YtkljeefncopodaaGreat
open Go.RowKit
set_option linter.unusedSimpArgs false
set_option linter.unusedVariables false
set_option maxRecDepth 100000

def RTake04R (r : Nat × List UInt8 × Nat) (w : World) (en : Ending) (w' : World) : Prop :=
  ∃ a c, en = .returned (.tuple #[.slice a r.2.1.length c, .int .i64 (r.2.2 : Nat), .int .i64 (r.1 : Nat)]) ∧ Bytes w' (.slice a r.2.1.length c) r.2.1 ∧ Below w.heap.size w w'
theorem RTake04R.bad {w w' : World} {n : Nat} (h : Below w.heap.size w w') : RTake04R (n, [], 0) w (.returned (.tuple #[.slice none 0 0, .int .i64 0, .int .i64 (n : Nat)])) w' :=
  ⟨none, 0, rfl, SlV.empty _ _ _ (Nat.zero_le _) (fun _ => rfl), h⟩
set_option maxHeartbeats 4000000 in
theorem rtake04_any (b : List UInt8) (a : Option Addr) (c : Nat) (w : World) (h : Bytes w (.slice a b.length c) b) :
    Calls Tryz.prog 43 #[.slice a b.length c] w (RTake04R (ftake b) w) := by
  have HB := Lib.hid' h
  have hbl := bytes_len h
  have hcap : b.length ≤ c := by obtain ⟨_, _, he, h1, _⟩ := h; cases he; exact h1
  have hT := rtake01_any b a c w h
  clear h
  cases hv : vtake b with
  | none =>
    rw [hv] at hT
    simp only [RTake01] at hT
    have HT := Lib.hid' hT
    have HR := Lib.hid' (show ftake b = (2, [], 0) by unfold ftake; rw [hv])
    clear hv hT
    go_enter Tryz.func43, Tryz.ntmps43
    go_wp2_with fail
    refine HT.out.mono ?_
    rintro e w1 ⟨rfl, hb1⟩
    have HB1 := Lib.hid' hb1
    clear hb1
    go_wp2
    refine bodyPost_ret (v := .tuple #[.slice none 0 0, .int .i64 0, .int .i64 2]) (by simp [results, Tryz.results43, go_sem]) rfl ?_
    rw [HR.out]; exact RTake04R.bad HB1.out
  | some q =>
  obtain ⟨n, k⟩ := q
  rw [hv] at hT
  simp only [RTake01] at hT
  have HT := Lib.hid' hT
  obtain ⟨_, hn, hk10, hkl, hk0⟩ := vtake_some hv
  by_cases h1 : 65536 < n
  · have HR := Lib.hid' (show ftake b = (3, [], 0) by unfold ftake; rw [hv]; simp only [h1, if_true])
    clear hv hT
    go_enter Tryz.func43, Tryz.ntmps43
    go_wp2_with fail
    refine HT.out.mono ?_
    rintro e w1 ⟨rfl, hb1⟩
    have HB1 := Lib.hid' hb1
    clear hb1
    go_wp2
    refine bodyPost_ret (v := .tuple #[.slice none 0 0, .int .i64 0, .int .i64 3]) (by simp [results, Tryz.results43, go_sem]) rfl ?_
    rw [HR.out]; exact RTake04R.bad HB1.out
  by_cases h2 : b.length < k + n + 4
  · have HR := Lib.hid' (show ftake b = (2, [], 0) by unfold ftake; rw [hv]; simp only [h1, h2, if_true, if_false])
    have h2' : (b.length : Int) < (k : Int) + n + 4 := by omega
    clear hv hT h2
    go_enter Tryz.func43, Tryz.ntmps43
    go_wp2_with fail
    refine HT.out.mono ?_
    rintro e w1 ⟨rfl, hb1⟩
    have HB1 := Lib.hid' hb1
    clear hb1
    go_wp2
    refine bodyPost_ret (v := .tuple #[.slice none 0 0, .int .i64 0, .int .i64 2]) (by simp [results, Tryz.results43, go_sem]) rfl ?_
    rw [HR.out]; exact RTake04R.bad HB1.out
  obtain ⟨E, hE⟩ : ∃ E, E = k + n := ⟨_, rfl⟩
  have HR := Lib.hid' (show ftake b = if four (crcOf 0 (b.take E)) = (b.drop E).take 4 then (0, (b.take E).drop k, E + 4) else (11, [], 0) by unfold ftake; rw [hv, hE]; simp only [h1, h2, if_false])
  have h2' : ¬ (b.length : Int) < (k : Int) + n + 4 := by omega
  have hE4 : E + 4 ≤ b.length := by omega
  have hkE : k ≤ E := by omega
  have HE := Lib.hid' (show (k : Int) + (n : Int) = (E : Int) by omega)
  obtain ⟨bb, off, rfl, hq1, hq2⟩ := bytes_at (l := b) HB.out (show 0 < b.length by omega)
  clear hq1 hq2 hv hT h2 hE
  go_enter Tryz.func43, Tryz.ntmps43
  go_wp2_with fail
  refine HT.out.mono ?_
  rintro e w1 ⟨rfl, hb1⟩
  have HB1 := Lib.hid' hb1
  have HD1 := Lib.hid' (show Bytes w1 (.slice (some ⟨bb, off, none⟩) b.length c) b from SlV.below HB.out (Nat.le_refl _) hb1)
  clear hb1
  go_upto_region 9 with fail
  rw [HE.out]
  clear h2'
  obtain ⟨A, hA⟩ : ∃ A, A = four (crcOf 0 (b.take E)) := ⟨_, rfl⟩
  obtain ⟨B, hB⟩ : ∃ B, B = (b.drop E).take 4 := ⟨_, rfl⟩
  have HA := Lib.hid' hA
  have HBB := Lib.hid' hB
  have hal : A.length = 4 := by rw [hA]; exact four_length _
  have hdr : Below w1.heap.size w1 w1.drew := Below.drew (Below.refl _ _)
  have htk := bytes_take HD1.out (k := E) (by omega)
  have hdk : Bytes w1 (.slice (some ⟨bb, off + E, none⟩) 4 (c - E)) B := by
    have h3 := bytes_drop HD1.out (k := E) (by omega)
    have h4 := bytes_take h3 (k := 4) (by rw [List.length_drop]; omega)
    rw [← hB] at h4
    exact h4
  have hsu := rSum_any (some ⟨bb, off, none⟩) c (b.take E) w1.drew (by rw [List.length_take, Nat.min_eq_left (by omega)]; exact SlV.below htk (Nat.le_refl _) hdr)
  rw [List.length_take, Nat.min_eq_left (show E ≤ b.length by omega)] at hsu
  obtain ⟨x, hx⟩ : ∃ x, x = crcOf 0 (b.take E) := ⟨_, rfl⟩
  have hx32 : x < 4294967296 := by rw [hx]; exact crcOf_lt (s := 0) (by decide) (b.take E)
  have hfo := fun wq => rFour_any x hx32 wq
  rw [hx, ← hA, ← hx] at hfo
  rw [← hx] at hsu
  have HSU := Lib.hid' hsu
  clear hsu
  have HFO := Lib.hid' hfo
  have HDK := Lib.hid' hdk
  have hb0 := run_string_of (P := Tryz.prog) 22 5 9 Tryz.underlying22 Tryz.underlying5 Tryz.underlying9 (w := w1.drew) (SlV.below hdk (Nat.le_refl _) hdr)
  clear hA hB hfo hdk hx htk
  have hEc : E + 4 ≤ c := by omega
  by_cases hAB : A = B
  · have hyes : (strOf A).toList = (strOf B).toList := by rw [hAB]
    have HR2 := Lib.hid' (show ftake b = (0, (b.take E).drop k, E + 4) by rw [HR.out, if_pos (by rw [← HA.out, ← HBB.out]; exact hAB)])
    clear hAB
    refine wp_region_held_drew (S := (fun _ => True)) (by kernel_rfl) trivial (fun hH0 => ?_)
    refine wpAnyH_take (i := 0) (oi := _) (v := .slice (some ⟨bb, off, none⟩) b.length c) rfl (by kernel_rfl) (by kernel_rfl) (by kernel_rfl) (fun _ _ _ h => h) (Or.inl ⟨by rfl, ?_⟩) hH0 ?_
    · intro w hSw; go_simp
    simp only [Act.put, List.getElem_toArray, List.getElem_cons_zero, List.getElem_cons_succ, List.setIfInBounds_toArray, List.set_cons_zero, List.set_cons_succ]
    refine wpAnyH_take (i := 1) (oi := _) (v := .int .i64 (E : Int)) rfl (by kernel_rfl) (by kernel_rfl) (by kernel_rfl) (fun _ _ _ h => h) (Or.inl ⟨by rfl, ?_⟩) hH0 ?_
    · intro w hSw; go_simp
    simp only [Act.put, List.getElem_toArray, List.getElem_cons_zero, List.getElem_cons_succ, List.setIfInBounds_toArray, List.set_cons_zero, List.set_cons_succ]
    refine wpAnyH_take (i := 2) (oi := _) (v := .slice (some ⟨bb, off, none⟩) E c) rfl (by kernel_rfl) (by kernel_rfl) (by kernel_rfl) (fun _ _ _ h => h) (Or.inl ⟨by rfl, ?_⟩) hH0 ?_
    · intro w hSw; go_simp; (try (intro h; exfalso; omega))
    simp only [Act.put, List.getElem_toArray, List.getElem_cons_zero, List.getElem_cons_succ, List.setIfInBounds_toArray, List.set_cons_zero, List.set_cons_succ]
    refine wpAnyH_take (i := 6) (oi := _) (v := .slice (some ⟨bb, off, none⟩) b.length c) rfl (by kernel_rfl) (by kernel_rfl) (by kernel_rfl) (fun _ _ _ h => h) (Or.inl ⟨by rfl, ?_⟩) hH0 ?_
    · intro w hSw; go_simp
    simp only [Act.put, List.getElem_toArray, List.getElem_cons_zero, List.getElem_cons_succ, List.setIfInBounds_toArray, List.set_cons_zero, List.set_cons_succ]
    refine wpAnyH_take (i := 7) (oi := _) (v := .int .i64 (E : Int)) rfl (by kernel_rfl) (by kernel_rfl) (by kernel_rfl) (fun _ _ _ h => h) (Or.inl ⟨by rfl, ?_⟩) hH0 ?_
    · intro w hSw; go_simp
    simp only [Act.put, List.getElem_toArray, List.getElem_cons_zero, List.getElem_cons_succ, List.setIfInBounds_toArray, List.set_cons_zero, List.set_cons_succ]
    refine wpAnyH_take (i := 8) (oi := _) (v := .int .i64 (E : Int)) rfl (by kernel_rfl) (by kernel_rfl) (by kernel_rfl) (fun _ _ _ h => h) (Or.inl ⟨by rfl, ?_⟩) hH0 ?_
    · intro w hSw; go_simp
    simp only [Act.put, List.getElem_toArray, List.getElem_cons_zero, List.getElem_cons_succ, List.setIfInBounds_toArray, List.set_cons_zero, List.set_cons_succ]
    refine wpAnyH_take (i := 9) (oi := _) (v := .int .i64 ((E : Int) + 4)) rfl (by kernel_rfl) (by kernel_rfl) (by kernel_rfl) (fun _ _ _ h => h) (Or.inl ⟨by rfl, ?_⟩) hH0 ?_
    · intro w hSw; go_simp; first | exact IntWalk.i64_in _ (by omega) | exact IntWalk.i64_in _ (by omega) (by omega)
    simp only [Act.put, List.getElem_toArray, List.getElem_cons_zero, List.getElem_cons_succ, List.setIfInBounds_toArray, List.set_cons_zero, List.set_cons_succ]
    refine wpAnyH_take (i := 10) (oi := _) (v := .slice (some ⟨bb, off + E, none⟩) 4 (c - E)) rfl (by kernel_rfl) (by kernel_rfl) (by kernel_rfl) (fun _ _ _ h => h) (Or.inl ⟨by rfl, ?_⟩) hH0 ?_
    · intro w hSw; go_simp; rw [if_pos ⟨by omega, by omega⟩, if_pos (show E ≤ ((E : Int) + 4).toNat by omega), if_neg (show ¬ c = E by omega), show ((E : Int) + 4).toNat - E = 4 by omega]; (try rfl)
    simp only [Act.put, List.getElem_toArray, List.getElem_cons_zero, List.getElem_cons_succ, List.setIfInBounds_toArray, List.set_cons_zero, List.set_cons_succ]
    refine wpAnyH_ready (rs := [3, 11]) (by kernel_rfl) (by simp) (AllReadyH.cons (o := _) rfl (fun K hK => ?_) (AllReadyH.cons (o := _) rfl (fun K hK => ?_) AllReadyH.nil))
    · skip
      go_simp
      refine HSU.out.mono ?_
      rintro en wq ⟨rfl, rfl⟩
      refine hK.out _ _ ?_ (fun hH1 => ?_)
      · trivial
      clear hK K
      refine wpAnyH_ready (rs := [4, 11]) (by kernel_rfl) (by simp) (AllReadyH.cons (o := _) rfl (fun K hK => ?_) (AllReadyH.cons (o := _) rfl (fun K hK => ?_) AllReadyH.nil))
      · skip
        go_simp
        refine (HFO.out _).mono ?_
        rintro en w2 ⟨a2, c2, rfl, ho2, hb2⟩
        have HB2 := Lib.hid' (show Below w1.heap.size w1 w2 from hdr.trans hb2)
        have hy2 := show Bytes w2 (.slice a2 A.length c2) A from SlV.of_own (by rw [hal]; exact ho2)
        rw [hal] at hy2
        have ha2 := run_string_of (P := Tryz.prog) 22 5 9 Tryz.underlying22 Tryz.underlying5 Tryz.underlying9 (w := w2) hy2
        have hb2s := run_string_of (P := Tryz.prog) 22 5 9 Tryz.underlying22 Tryz.underlying5 Tryz.underlying9 (w := w2) (SlV.below HDK.out (Nat.le_refl _) HB2.out)
        clear ho2 hb2 hy2
        refine hK.out _ _ ?_ (fun hH2 => ?_)
        · trivial
        clear hK K
        refine wpAnyH_ready (rs := [5, 11]) (by kernel_rfl) (by simp) (AllReadyH.cons (o := _) rfl (fun K hK => ?_) (AllReadyH.cons (o := _) rfl (fun K hK => ?_) AllReadyH.nil))
        · skip
          go_simp
          refine hK.out _ _ ?_ (fun hH3 => ?_)
          · trivial
          clear hK K
          refine wpAnyH_ready (rs := [11]) (by kernel_rfl) (by simp) (AllReadyH.cons (o := _) rfl (fun K hK => ?_) AllReadyH.nil)
          go_simp
          refine hK.out _ _ ?_ (fun hH4 => ?_)
          · trivial
          clear hK K
          refine wpAnyH_take (i := 12) (oi := _) (v := .bool false) rfl (by kernel_rfl) (by kernel_rfl) (by kernel_rfl) (fun _ _ _ h => h) (Or.inl ⟨by rfl, ?_⟩) hH4 ?_
          · intro w hSw; go_simp; (try exact hyes)
          simp only [Act.put, List.getElem_toArray, List.getElem_cons_zero, List.getElem_cons_succ, List.setIfInBounds_toArray, List.set_cons_zero, List.set_cons_succ]
          refine wpAnyH_done (by kernel_rfl) ?_ _
          have HB3 := Lib.hid' (HB1.out.trans (HB2.out.mono HB1.out.size))
          have hds := bytes_drop (bytes_take (SlV.below HD1.out (Nat.le_refl _) HB2.out) (k := E) (by omega)) (k := k) (by rw [List.length_take]; omega)
          rw [List.length_take, Nat.min_eq_left (show E ≤ b.length by omega)] at hds
          have HDS := Lib.hid' hds
          have HLD := Lib.hid' (show ((b.take E).drop k).length = E - k by rw [List.length_drop, List.length_take]; omega)
          clear hds ha2 hb2s
          go_wp2
          refine bodyPost_ret (v := .tuple #[.slice (some ⟨bb, off + k, none⟩) (E - k) (c - k), .int .i64 ((E : Int) + 4), .int .i64 0]) (by simp [results, Tryz.results43, go_sem]) rfl ?_
          rw [HR2.out]
          refine ⟨some ⟨bb, off + k, none⟩, c - k, ?_, ?_, HB3.out⟩
          · simp only [HLD.out]; rfl
          · simp only [HLD.out]; exact HDS.out
        · skip
          go_simp
          refine hK.out _ _ ?_ (fun hH3 => ?_)
          · trivial
          clear hK K
          refine wpAnyH_ready (rs := [5]) (by kernel_rfl) (by simp) (AllReadyH.cons (o := _) rfl (fun K hK => ?_) AllReadyH.nil)
          go_simp
          refine hK.out _ _ ?_ (fun hH4 => ?_)
          · trivial
          clear hK K
          refine wpAnyH_take (i := 12) (oi := _) (v := .bool false) rfl (by kernel_rfl) (by kernel_rfl) (by kernel_rfl) (fun _ _ _ h => h) (Or.inl ⟨by rfl, ?_⟩) hH4 ?_
          · intro w hSw; go_simp; (try exact hyes)
          simp only [Act.put, List.getElem_toArray, List.getElem_cons_zero, List.getElem_cons_succ, List.setIfInBounds_toArray, List.set_cons_zero, List.set_cons_succ]
          refine wpAnyH_done (by kernel_rfl) ?_ _
          have HB3 := Lib.hid' (HB1.out.trans (HB2.out.mono HB1.out.size))
          have hds := bytes_drop (bytes_take (SlV.below HD1.out (Nat.le_refl _) HB2.out) (k := E) (by omega)) (k := k) (by rw [List.length_take]; omega)
          rw [List.length_take, Nat.min_eq_left (show E ≤ b.length by omega)] at hds
          have HDS := Lib.hid' hds
          have HLD := Lib.hid' (show ((b.take E).drop k).length = E - k by rw [List.length_drop, List.length_take]; omega)
          clear hds ha2 hb2s
          go_wp2
          refine bodyPost_ret (v := .tuple #[.slice (some ⟨bb, off + k, none⟩) (E - k) (c - k), .int .i64 ((E : Int) + 4), .int .i64 0]) (by simp [results, Tryz.results43, go_sem]) rfl ?_
          rw [HR2.out]
          refine ⟨some ⟨bb, off + k, none⟩, c - k, ?_, ?_, HB3.out⟩
          · simp only [HLD.out]; rfl
          · simp only [HLD.out]; exact HDS.out
      · skip
        go_simp
        refine hK.out _ _ ?_ (fun hH2 => ?_)
        · trivial
        clear hK K
        refine wpAnyH_ready (rs := [4]) (by kernel_rfl) (by simp) (AllReadyH.cons (o := _) rfl (fun K hK => ?_) AllReadyH.nil)
        go_simp
        refine (HFO.out _).mono ?_
        rintro en w2 ⟨a2, c2, rfl, ho2, hb2⟩
        have HB2 := Lib.hid' (show Below w1.heap.size w1 w2 from hdr.trans hb2)
        have hy2 := show Bytes w2 (.slice a2 A.length c2) A from SlV.of_own (by rw [hal]; exact ho2)
        rw [hal] at hy2
        have ha2 := run_string_of (P := Tryz.prog) 22 5 9 Tryz.underlying22 Tryz.underlying5 Tryz.underlying9 (w := w2) hy2
        have hb2s := run_string_of (P := Tryz.prog) 22 5 9 Tryz.underlying22 Tryz.underlying5 Tryz.underlying9 (w := w2) (SlV.below HDK.out (Nat.le_refl _) HB2.out)
        clear ho2 hb2 hy2
        refine hK.out _ _ ?_ (fun hH3 => ?_)
        · trivial
        clear hK K
        refine wpAnyH_ready (rs := [5]) (by kernel_rfl) (by simp) (AllReadyH.cons (o := _) rfl (fun K hK => ?_) AllReadyH.nil)
        go_simp
        refine hK.out _ _ ?_ (fun hH4 => ?_)
        · trivial
        clear hK K
        refine wpAnyH_take (i := 12) (oi := _) (v := .bool false) rfl (by kernel_rfl) (by kernel_rfl) (by kernel_rfl) (fun _ _ _ h => h) (Or.inl ⟨by rfl, ?_⟩) hH4 ?_
        · intro w hSw; go_simp; (try exact hyes)
        simp only [Act.put, List.getElem_toArray, List.getElem_cons_zero, List.getElem_cons_succ, List.setIfInBounds_toArray, List.set_cons_zero, List.set_cons_succ]
        refine wpAnyH_done (by kernel_rfl) ?_ _
        have HB3 := Lib.hid' (HB1.out.trans (HB2.out.mono HB1.out.size))
        have hds := bytes_drop (bytes_take (SlV.below HD1.out (Nat.le_refl _) HB2.out) (k := E) (by omega)) (k := k) (by rw [List.length_take]; omega)
        rw [List.length_take, Nat.min_eq_left (show E ≤ b.length by omega)] at hds
        have HDS := Lib.hid' hds
        have HLD := Lib.hid' (show ((b.take E).drop k).length = E - k by rw [List.length_drop, List.length_take]; omega)
        clear hds ha2 hb2s
        go_wp2
        refine bodyPost_ret (v := .tuple #[.slice (some ⟨bb, off + k, none⟩) (E - k) (c - k), .int .i64 ((E : Int) + 4), .int .i64 0]) (by simp [results, Tryz.results43, go_sem]) rfl ?_
        rw [HR2.out]
        refine ⟨some ⟨bb, off + k, none⟩, c - k, ?_, ?_, HB3.out⟩
        · simp only [HLD.out]; rfl
        · simp only [HLD.out]; exact HDS.out
    · skip
      go_simp
      refine hK.out _ _ ?_ (fun hH1 => ?_)
      · trivial
      clear hK K
      refine wpAnyH_ready (rs := [3]) (by kernel_rfl) (by simp) (AllReadyH.cons (o := _) rfl (fun K hK => ?_) AllReadyH.nil)
      go_simp
      refine HSU.out.mono ?_
      rintro en wq ⟨rfl, rfl⟩
      refine hK.out _ _ ?_ (fun hH2 => ?_)
      · trivial
      clear hK K
      refine wpAnyH_ready (rs := [4]) (by kernel_rfl) (by simp) (AllReadyH.cons (o := _) rfl (fun K hK => ?_) AllReadyH.nil)
      go_simp
      refine (HFO.out _).mono ?_
      rintro en w2 ⟨a2, c2, rfl, ho2, hb2⟩
      have HB2 := Lib.hid' (show Below w1.heap.size w1 w2 from hdr.trans hb2)
      have hy2 := show Bytes w2 (.slice a2 A.length c2) A from SlV.of_own (by rw [hal]; exact ho2)
      rw [hal] at hy2
      have ha2 := run_string_of (P := Tryz.prog) 22 5 9 Tryz.underlying22 Tryz.underlying5 Tryz.underlying9 (w := w2) hy2
      have hb2s := run_string_of (P := Tryz.prog) 22 5 9 Tryz.underlying22 Tryz.underlying5 Tryz.underlying9 (w := w2) (SlV.below HDK.out (Nat.le_refl _) HB2.out)
      clear ho2 hb2 hy2
      refine hK.out _ _ ?_ (fun hH3 => ?_)
      · trivial
      clear hK K
      refine wpAnyH_ready (rs := [5]) (by kernel_rfl) (by simp) (AllReadyH.cons (o := _) rfl (fun K hK => ?_) AllReadyH.nil)
      go_simp
      refine hK.out _ _ ?_ (fun hH4 => ?_)
      · trivial
      clear hK K
      refine wpAnyH_take (i := 12) (oi := _) (v := .bool false) rfl (by kernel_rfl) (by kernel_rfl) (by kernel_rfl) (fun _ _ _ h => h) (Or.inl ⟨by rfl, ?_⟩) hH4 ?_
      · intro w hSw; go_simp; (try exact hyes)
      simp only [Act.put, List.getElem_toArray, List.getElem_cons_zero, List.getElem_cons_succ, List.setIfInBounds_toArray, List.set_cons_zero, List.set_cons_succ]
      refine wpAnyH_done (by kernel_rfl) ?_ _
      have HB3 := Lib.hid' (HB1.out.trans (HB2.out.mono HB1.out.size))
      have hds := bytes_drop (bytes_take (SlV.below HD1.out (Nat.le_refl _) HB2.out) (k := E) (by omega)) (k := k) (by rw [List.length_take]; omega)
      rw [List.length_take, Nat.min_eq_left (show E ≤ b.length by omega)] at hds
      have HDS := Lib.hid' hds
      have HLD := Lib.hid' (show ((b.take E).drop k).length = E - k by rw [List.length_drop, List.length_take]; omega)
      clear hds ha2 hb2s
      go_wp2
      refine bodyPost_ret (v := .tuple #[.slice (some ⟨bb, off + k, none⟩) (E - k) (c - k), .int .i64 ((E : Int) + 4), .int .i64 0]) (by simp [results, Tryz.results43, go_sem]) rfl ?_
      rw [HR2.out]
      refine ⟨some ⟨bb, off + k, none⟩, c - k, ?_, ?_, HB3.out⟩
      · simp only [HLD.out]; rfl
      · simp only [HLD.out]; exact HDS.out
  · have hyes : ¬ (strOf A).toList = (strOf B).toList := by rw [strOf_toList, strOf_toList]; exact hAB
    have HR2 := Lib.hid' (show ftake b = (11, [], 0) by rw [HR.out, if_neg (by rw [← HA.out, ← HBB.out]; exact hAB)])
    clear hAB
    refine wp_region_held_drew (S := (fun _ => True)) (by kernel_rfl) trivial (fun hH0 => ?_)
    refine wpAnyH_take (i := 0) (oi := _) (v := .slice (some ⟨bb, off, none⟩) b.length c) rfl (by kernel_rfl) (by kernel_rfl) (by kernel_rfl) (fun _ _ _ h => h) (Or.inl ⟨by rfl, ?_⟩) hH0 ?_
    · intro w hSw; go_simp
    simp only [Act.put, List.getElem_toArray, List.getElem_cons_zero, List.getElem_cons_succ, List.setIfInBounds_toArray, List.set_cons_zero, List.set_cons_succ]
    refine wpAnyH_take (i := 1) (oi := _) (v := .int .i64 (E : Int)) rfl (by kernel_rfl) (by kernel_rfl) (by kernel_rfl) (fun _ _ _ h => h) (Or.inl ⟨by rfl, ?_⟩) hH0 ?_
    · intro w hSw; go_simp
    simp only [Act.put, List.getElem_toArray, List.getElem_cons_zero, List.getElem_cons_succ, List.setIfInBounds_toArray, List.set_cons_zero, List.set_cons_succ]
    refine wpAnyH_take (i := 2) (oi := _) (v := .slice (some ⟨bb, off, none⟩) E c) rfl (by kernel_rfl) (by kernel_rfl) (by kernel_rfl) (fun _ _ _ h => h) (Or.inl ⟨by rfl, ?_⟩) hH0 ?_
    · intro w hSw; go_simp; (try (intro h; exfalso; omega))
    simp only [Act.put, List.getElem_toArray, List.getElem_cons_zero, List.getElem_cons_succ, List.setIfInBounds_toArray, List.set_cons_zero, List.set_cons_succ]
    refine wpAnyH_take (i := 6) (oi := _) (v := .slice (some ⟨bb, off, none⟩) b.length c) rfl (by kernel_rfl) (by kernel_rfl) (by kernel_rfl) (fun _ _ _ h => h) (Or.inl ⟨by rfl, ?_⟩) hH0 ?_
    · intro w hSw; go_simp
    simp only [Act.put, List.getElem_toArray, List.getElem_cons_zero, List.getElem_cons_succ, List.setIfInBounds_toArray, List.set_cons_zero, List.set_cons_succ]
    refine wpAnyH_take (i := 7) (oi := _) (v := .int .i64 (E : Int)) rfl (by kernel_rfl) (by kernel_rfl) (by kernel_rfl) (fun _ _ _ h => h) (Or.inl ⟨by rfl, ?_⟩) hH0 ?_
    · intro w hSw; go_simp
    simp only [Act.put, List.getElem_toArray, List.getElem_cons_zero, List.getElem_cons_succ, List.setIfInBounds_toArray, List.set_cons_zero, List.set_cons_succ]
    refine wpAnyH_take (i := 8) (oi := _) (v := .int .i64 (E : Int)) rfl (by kernel_rfl) (by kernel_rfl) (by kernel_rfl) (fun _ _ _ h => h) (Or.inl ⟨by rfl, ?_⟩) hH0 ?_
    · intro w hSw; go_simp
    simp only [Act.put, List.getElem_toArray, List.getElem_cons_zero, List.getElem_cons_succ, List.setIfInBounds_toArray, List.set_cons_zero, List.set_cons_succ]
    refine wpAnyH_take (i := 9) (oi := _) (v := .int .i64 ((E : Int) + 4)) rfl (by kernel_rfl) (by kernel_rfl) (by kernel_rfl) (fun _ _ _ h => h) (Or.inl ⟨by rfl, ?_⟩) hH0 ?_
    · intro w hSw; go_simp; first | exact IntWalk.i64_in _ (by omega) | exact IntWalk.i64_in _ (by omega) (by omega)
    simp only [Act.put, List.getElem_toArray, List.getElem_cons_zero, List.getElem_cons_succ, List.setIfInBounds_toArray, List.set_cons_zero, List.set_cons_succ]
    refine wpAnyH_take (i := 10) (oi := _) (v := .slice (some ⟨bb, off + E, none⟩) 4 (c - E)) rfl (by kernel_rfl) (by kernel_rfl) (by kernel_rfl) (fun _ _ _ h => h) (Or.inl ⟨by rfl, ?_⟩) hH0 ?_
    · intro w hSw; go_simp; rw [if_pos ⟨by omega, by omega⟩, if_pos (show E ≤ ((E : Int) + 4).toNat by omega), if_neg (show ¬ c = E by omega), show ((E : Int) + 4).toNat - E = 4 by omega]; (try rfl)
    simp only [Act.put, List.getElem_toArray, List.getElem_cons_zero, List.getElem_cons_succ, List.setIfInBounds_toArray, List.set_cons_zero, List.set_cons_succ]
    refine wpAnyH_ready (rs := [3, 11]) (by kernel_rfl) (by simp) (AllReadyH.cons (o := _) rfl (fun K hK => ?_) (AllReadyH.cons (o := _) rfl (fun K hK => ?_) AllReadyH.nil))
    · skip
      go_simp
      refine HSU.out.mono ?_
      rintro en wq ⟨rfl, rfl⟩
      refine hK.out _ _ ?_ (fun hH1 => ?_)
      · trivial
      clear hK K
      refine wpAnyH_ready (rs := [4, 11]) (by kernel_rfl) (by simp) (AllReadyH.cons (o := _) rfl (fun K hK => ?_) (AllReadyH.cons (o := _) rfl (fun K hK => ?_) AllReadyH.nil))
      · skip
        go_simp
        refine (HFO.out _).mono ?_
        rintro en w2 ⟨a2, c2, rfl, ho2, hb2⟩
        have HB2 := Lib.hid' (show Below w1.heap.size w1 w2 from hdr.trans hb2)
        have hy2 := show Bytes w2 (.slice a2 A.length c2) A from SlV.of_own (by rw [hal]; exact ho2)
        rw [hal] at hy2
        have ha2 := run_string_of (P := Tryz.prog) 22 5 9 Tryz.underlying22 Tryz.underlying5 Tryz.underlying9 (w := w2) hy2
        have hb2s := run_string_of (P := Tryz.prog) 22 5 9 Tryz.underlying22 Tryz.underlying5 Tryz.underlying9 (w := w2) (SlV.below HDK.out (Nat.le_refl _) HB2.out)
        clear ho2 hb2 hy2
        refine hK.out _ _ ?_ (fun hH2 => ?_)
        · trivial
        clear hK K
        refine wpAnyH_ready (rs := [5, 11]) (by kernel_rfl) (by simp) (AllReadyH.cons (o := _) rfl (fun K hK => ?_) (AllReadyH.cons (o := _) rfl (fun K hK => ?_) AllReadyH.nil))
        · skip
          go_simp
          refine hK.out _ _ ?_ (fun hH3 => ?_)
          · trivial
          clear hK K
          refine wpAnyH_ready (rs := [11]) (by kernel_rfl) (by simp) (AllReadyH.cons (o := _) rfl (fun K hK => ?_) AllReadyH.nil)
          go_simp
          refine hK.out _ _ ?_ (fun hH4 => ?_)
          · trivial
          clear hK K
          refine wpAnyH_take (i := 12) (oi := _) (v := .bool true) rfl (by kernel_rfl) (by kernel_rfl) (by kernel_rfl) (fun _ _ _ h => h) (Or.inl ⟨by rfl, ?_⟩) hH4 ?_
          · intro w hSw; go_simp; (try exact hyes)
          simp only [Act.put, List.getElem_toArray, List.getElem_cons_zero, List.getElem_cons_succ, List.setIfInBounds_toArray, List.set_cons_zero, List.set_cons_succ]
          refine wpAnyH_done (by kernel_rfl) ?_ _
          have HB3 := Lib.hid' (HB1.out.trans (HB2.out.mono HB1.out.size))
          go_wp2
          refine bodyPost_ret (v := .tuple #[.slice none 0 0, .int .i64 0, .int .i64 11]) (by simp [results, Tryz.results43, go_sem]) rfl ?_
          rw [HR2.out]; exact RTake04R.bad HB3.out
        · skip
          go_simp
          refine hK.out _ _ ?_ (fun hH3 => ?_)
          · trivial
          clear hK K
          refine wpAnyH_ready (rs := [5]) (by kernel_rfl) (by simp) (AllReadyH.cons (o := _) rfl (fun K hK => ?_) AllReadyH.nil)
          go_simp
          refine hK.out _ _ ?_ (fun hH4 => ?_)
          · trivial
          clear hK K
          refine wpAnyH_take (i := 12) (oi := _) (v := .bool true) rfl (by kernel_rfl) (by kernel_rfl) (by kernel_rfl) (fun _ _ _ h => h) (Or.inl ⟨by rfl, ?_⟩) hH4 ?_
          · intro w hSw; go_simp; (try exact hyes)
          simp only [Act.put, List.getElem_toArray, List.getElem_cons_zero, List.getElem_cons_succ, List.setIfInBounds_toArray, List.set_cons_zero, List.set_cons_succ]
          refine wpAnyH_done (by kernel_rfl) ?_ _
          have HB3 := Lib.hid' (HB1.out.trans (HB2.out.mono HB1.out.size))
          go_wp2
          refine bodyPost_ret (v := .tuple #[.slice none 0 0, .int .i64 0, .int .i64 11]) (by simp [results, Tryz.results43, go_sem]) rfl ?_
          rw [HR2.out]; exact RTake04R.bad HB3.out
      · skip
        go_simp
        refine hK.out _ _ ?_ (fun hH2 => ?_)
        · trivial
        clear hK K
        refine wpAnyH_ready (rs := [4]) (by kernel_rfl) (by simp) (AllReadyH.cons (o := _) rfl (fun K hK => ?_) AllReadyH.nil)
        go_simp
        refine (HFO.out _).mono ?_
        rintro en w2 ⟨a2, c2, rfl, ho2, hb2⟩
        have HB2 := Lib.hid' (show Below w1.heap.size w1 w2 from hdr.trans hb2)
        have hy2 := show Bytes w2 (.slice a2 A.length c2) A from SlV.of_own (by rw [hal]; exact ho2)
        rw [hal] at hy2
        have ha2 := run_string_of (P := Tryz.prog) 22 5 9 Tryz.underlying22 Tryz.underlying5 Tryz.underlying9 (w := w2) hy2
        have hb2s := run_string_of (P := Tryz.prog) 22 5 9 Tryz.underlying22 Tryz.underlying5 Tryz.underlying9 (w := w2) (SlV.below HDK.out (Nat.le_refl _) HB2.out)
        clear ho2 hb2 hy2
        refine hK.out _ _ ?_ (fun hH3 => ?_)
        · trivial
        clear hK K
        refine wpAnyH_ready (rs := [5]) (by kernel_rfl) (by simp) (AllReadyH.cons (o := _) rfl (fun K hK => ?_) AllReadyH.nil)
        go_simp
        refine hK.out _ _ ?_ (fun hH4 => ?_)
        · trivial
        clear hK K
        refine wpAnyH_take (i := 12) (oi := _) (v := .bool true) rfl (by kernel_rfl) (by kernel_rfl) (by kernel_rfl) (fun _ _ _ h => h) (Or.inl ⟨by rfl, ?_⟩) hH4 ?_
        · intro w hSw; go_simp; (try exact hyes)
        simp only [Act.put, List.getElem_toArray, List.getElem_cons_zero, List.getElem_cons_succ, List.setIfInBounds_toArray, List.set_cons_zero, List.set_cons_succ]
        refine wpAnyH_done (by kernel_rfl) ?_ _
        have HB3 := Lib.hid' (HB1.out.trans (HB2.out.mono HB1.out.size))
        go_wp2
        refine bodyPost_ret (v := .tuple #[.slice none 0 0, .int .i64 0, .int .i64 11]) (by simp [results, Tryz.results43, go_sem]) rfl ?_
        rw [HR2.out]; exact RTake04R.bad HB3.out
    · skip
      go_simp
      refine hK.out _ _ ?_ (fun hH1 => ?_)
      · trivial
      clear hK K
      refine wpAnyH_ready (rs := [3]) (by kernel_rfl) (by simp) (AllReadyH.cons (o := _) rfl (fun K hK => ?_) AllReadyH.nil)
      go_simp
      refine HSU.out.mono ?_
      rintro en wq ⟨rfl, rfl⟩
      refine hK.out _ _ ?_ (fun hH2 => ?_)
      · trivial
      clear hK K
      refine wpAnyH_ready (rs := [4]) (by kernel_rfl) (by simp) (AllReadyH.cons (o := _) rfl (fun K hK => ?_) AllReadyH.nil)
      go_simp
      refine (HFO.out _).mono ?_
      rintro en w2 ⟨a2, c2, rfl, ho2, hb2⟩
      have HB2 := Lib.hid' (show Below w1.heap.size w1 w2 from hdr.trans hb2)
      have hy2 := show Bytes w2 (.slice a2 A.length c2) A from SlV.of_own (by rw [hal]; exact ho2)
      rw [hal] at hy2
      have ha2 := run_string_of (P := Tryz.prog) 22 5 9 Tryz.underlying22 Tryz.underlying5 Tryz.underlying9 (w := w2) hy2
      have hb2s := run_string_of (P := Tryz.prog) 22 5 9 Tryz.underlying22 Tryz.underlying5 Tryz.underlying9 (w := w2) (SlV.below HDK.out (Nat.le_refl _) HB2.out)
      clear ho2 hb2 hy2
      refine hK.out _ _ ?_ (fun hH3 => ?_)
      · trivial
      clear hK K
      refine wpAnyH_ready (rs := [5]) (by kernel_rfl) (by simp) (AllReadyH.cons (o := _) rfl (fun K hK => ?_) AllReadyH.nil)
      go_simp
      refine hK.out _ _ ?_ (fun hH4 => ?_)
      · trivial
      clear hK K
      refine wpAnyH_take (i := 12) (oi := _) (v := .bool true) rfl (by kernel_rfl) (by kernel_rfl) (by kernel_rfl) (fun _ _ _ h => h) (Or.inl ⟨by rfl, ?_⟩) hH4 ?_
      · intro w hSw; go_simp; (try exact hyes)
      simp only [Act.put, List.getElem_toArray, List.getElem_cons_zero, List.getElem_cons_succ, List.setIfInBounds_toArray, List.set_cons_zero, List.set_cons_succ]
      refine wpAnyH_done (by kernel_rfl) ?_ _
      have HB3 := Lib.hid' (HB1.out.trans (HB2.out.mono HB1.out.size))
      go_wp2
      refine bodyPost_ret (v := .tuple #[.slice none 0 0, .int .i64 0, .int .i64 11]) (by simp [results, Tryz.results43, go_sem]) rfl ?_
      rw [HR2.out]; exact RTake04R.bad HB3.out
end Go.Proofs.YtkljeefncopodaaGreat
