/- Layer 1, the document's: a number out of bytes. -/
import Derived.Test.YtkljeefncopodaaGreatVarQ
import Derived.Test.YtkljeefncopodaaGreatRefV
import Derived.Deep.DeepCutAuto
namespace Go.Proofs.YtkljeefncopodaaGreat
open Go.RowKit
set_option linter.unusedSimpArgs false
set_option linter.unusedVariables false
set_option maxRecDepth 100000

def RTake01 (r : Option (Nat × Nat)) : Value := match r with | none => .tuple #[.int .u64 0, .int .i64 0, .int .i64 2] | some (n, k) => .tuple #[.int .u64 (n : Nat), .int .i64 (k : Nat), .int .i64 0]
def vdm (b : List UInt8) (k i : Nat) : Nat := vv ((b.take (k + 1)).drop i) % 18446744073709551616
theorem vdm_end {b : List UInt8} {k : Nat} (hk : k < b.length) : vdm b k (k + 1) = 0 := by
  unfold vdm
  rw [List.drop_of_length_le (by rw [List.length_take]; omega)]; rfl
theorem vdm_zero (b : List UInt8) (k : Nat) : vdm b k 0 = vvm b k := rfl
theorem vdm_lt (b : List UInt8) (k i : Nat) : vdm b k i < 18446744073709551616 := Nat.mod_lt _ (by decide)
theorem vdm_next {b : List UInt8} {k p : Nat} (hp : p < k + 1) (hk : k < b.length) : vdm b k p = (vdm b k (p + 1) * 128 + b[p].toNat % 128) % 18446744073709551616 := by
  unfold vdm
  have hl : p < (b.take (k + 1)).length := by rw [List.length_take]; omega
  rw [List.drop_eq_getElem_cons hl]
  have e : (b.take (k + 1))[p] = b[p] := List.getElem_take
  rw [e]
  show (b[p].toNat % 128 + 128 * vv _) % _ = _
  omega
theorem wrap_step (n y : Nat) : IntKind.u64.wrap (IntKind.u64.wrap ((n : Int) * 128) + (y : Int) % 128) = (((n * 128 + y % 128) % 18446744073709551616 : Nat) : Int) := by
  have e : ∀ x : Int, IntKind.u64.wrap x = x % 18446744073709551616 := fun x => rfl
  rw [e, e]; omega
set_option maxHeartbeats 2000000 in
theorem rtake01_any (b : List UInt8) (a : Option Addr) (c : Nat) (w : World) (h : Bytes w (.slice a b.length c) b) :
    Calls Tryz.prog 106 #[.slice a b.length c] w fun e w' => e = .returned (RTake01 (vtake b)) ∧ Below w.heap.size w w' := by
  have HB := Lib.hid' h
  have hbl := bytes_len h
  have hcap : b.length ≤ c := by obtain ⟨_, _, he, h1, _⟩ := h; cases he; exact h1
  clear h
  obtain ⟨r, hr⟩ : ∃ r, r = vtake b := ⟨_, rfl⟩
  have HR := Lib.hid' hr
  rw [← hr]
  clear hr
  go_enter Tryz.func106, Tryz.ntmps106
  go_wp2_with fail
  go_loop [5] (fun v5 => ∃ k : Nat, v5 = .int .i64 ((k : Int) + 1) ∧ k ≤ 10 ∧ k ≤ b.length ∧ Hid (∀ y ∈ b.take k, 128 ≤ y.toNat)) (fun v5 => 11 - (intOf v5).toNat)
  case atStart => exact ⟨0, rfl, by omega, Nat.zero_le _, Lib.hid' (by simp)⟩
  case round =>
    obtain ⟨k, rfl, hk10, hkl, HY⟩ := hrel
    by_cases hend : k < 10 ∧ k < b.length
    rotate_left
    · have HN := Lib.hid' (show r = none by
        rw [HR.out]
        refine vtake_long (fun y hy => ?_)
        by_cases h10 : k = 10
        · subst h10; exact HY.out y hy
        · have hkb : k = b.length := by omega
          subst hkb
          have := HY.out y (by rw [List.take_length]; exact List.mem_of_mem_take hy)
          exact this)
      rcases (show ¬ (k : Int) + 1 ≤ 10 ∨ ((k : Int) + 1 ≤ 10 ∧ ¬ (k : Int) + 1 ≤ b.length) by omega) with h1 | ⟨h1, h2⟩
      · go_wp2
        refine bodyPost_ret (v := .tuple #[.int .u64 0, .int .i64 0, .int .i64 2]) (by simp [results, Tryz.results106, go_sem]) rfl ⟨by rw [HN.out]; rfl, Below.refl _ _⟩
      · go_wp2
        refine bodyPost_ret (v := .tuple #[.int .u64 0, .int .i64 0, .int .i64 2]) (by simp [results, Tryz.results106, go_sem]) rfl ⟨by rw [HN.out]; rfl, Below.refl _ _⟩
    obtain ⟨hk1, hk2⟩ := hend
    have g1 : (k : Int) + 1 ≤ 10 := by omega
    have g2 : (k : Int) + 1 ≤ b.length := by omega
    obtain ⟨bb, off, rfl, hbb, hc⟩ := bytes_at (l := b) HB.out hk2
    have HNX := Lib.hid' (show b[k].toNat < 128 ∨ ∀ y ∈ b.take (k + 1), 128 ≤ y.toNat by
      by_cases hx : b[k].toNat < 128
      · exact .inl hx
      · right; rw [List.take_succ_eq_append_getElem hk2]; intro y hy
        rcases List.mem_append.1 hy with hy | hy
        · exact HY.out y hy
        · simp only [List.mem_singleton] at hy; subst hy; omega)
    by_cases hx : 128 ≤ b[k].toNat
    · have HY2 := Lib.hid' (HNX.out.resolve_left (by omega))
      have hc' : w.cell? ⟨bb, off + k, none⟩ = some (.int .u8 (b[k].toNat : Int)) := hc
      generalize b[k].toNat = x at *
      go_wp2_with fail
      go_round
      case rel => exact ⟨k + 1, by go_num, by omega, by omega, HY2⟩
      case measure => simp [intOf]; omega
    have HX := Lib.hid' (show b[k].toNat < 128 by omega)
    have hc' : w.cell? ⟨bb, off + k, none⟩ = some (.int .u8 (b[k].toNat : Int)) := hc
    obtain ⟨x, hxx⟩ : ∃ x, x = b[k].toNat := ⟨_, rfl⟩
    rw [← hxx] at hc' hx
    clear hxx hc HNX
    go_wp2_with fail
    clear hc' hx
    go_loop [6, 7] (fun v6 v7 => ∃ i : Nat, v7 = .int .i64 ((i : Int) - 1) ∧ i ≤ k + 1 ∧ v6 = .int .u64 (vdm b k i : Nat)) (fun _ v7 => ((intOf v7) + 1).toNat)
    case atStart => exact ⟨k + 1, by go_num, Nat.le_refl _, by rw [vdm_end hk2]; rfl⟩
    case round =>
      obtain ⟨i, rfl, hi, rfl⟩ := hrel
      by_cases hi0 : i = 0
      rotate_left
      · obtain ⟨p, rfl⟩ : ∃ p, i = p + 1 := ⟨i - 1, by omega⟩
        have hpb : p < b.length := by omega
        obtain ⟨b2, off2, he2, _, hc2⟩ := bytes_at (l := b) HB.out hpb
        simp only [Option.some.injEq, Addr.mk.injEq, and_true] at he2
        obtain ⟨rfl, rfl⟩ := he2
        have HV := Lib.hid' (vdm_next (b := b) (k := k) (p := p) (by omega) hk2)
        have hvl := vdm_lt b k (p + 1)
        have hc2' : w.cell? ⟨bb, off + p, none⟩ = some (.int .u8 (b[p].toNat : Int)) := hc2
        have hb8 := b[p].toNat_lt
        generalize vdm b k (p + 1) = n at *
        generalize b[p].toNat = y at *
        rw [show ((p + 1 : Nat) : Int) - 1 = (p : Int) by omega]
        go_wp2_with fail
        go_round
        case rel => exact ⟨p, by go_num, by omega, by rw [HV.out, wrap_step]⟩
        case measure => simp [intOf]
      · subst hi0
        have hnl := vdm_lt b k 0
        have HM := Lib.hid' (vdm_zero b k)
        obtain ⟨n, hn⟩ : ∃ n, n = vdm b k 0 := ⟨_, rfl⟩
        have HN := Lib.hid' hn
        rw [← hn] at hnl ⊢
        clear hn
        obtain ⟨A, hA⟩ : ∃ A, A = vb n := ⟨_, rfl⟩
        obtain ⟨B, hB⟩ : ∃ B, B = b.take (k + 1) := ⟨_, rfl⟩
        have HA := Lib.hid' hA
        have HBB := Lib.hid' hB
        have hby := fun wq => rBytes_any n hnl wq
        rw [← hA] at hby
        have HBY := Lib.hid' hby
        have htk := bytes_take HB.out (k := k + 1) (by omega)
        rw [← hB] at htk
        have HTK := Lib.hid' htk
        have hkc : k + 1 ≤ c := by omega
        have hkc2 : (k : Int) + 1 ≤ c := by omega
        have hkc3 : (0 : Int) ≤ (k : Int) + 1 := by omega
        clear hA hB hby htk
        go_wp2_with fail
        have hb0 := run_string_of (P := Tryz.prog) 22 5 9 Tryz.underlying22 Tryz.underlying5 Tryz.underlying9 (w := w.drew) (SlV.below HTK.out (Nat.le_refl _) (Below.drew (Below.refl _ _)))
        have HBY0 := Lib.hid' (show Below w.heap.size w w.drew from Below.drew (Below.refl _ _))
        by_cases hAB : A = B
        · have hyes : (strOf A).toList = (strOf B).toList := by rw [hAB]
          have HR2 := Lib.hid' (show r = some (n, k + 1) by
            rw [HR.out, vtake_yes hk2 (by rw [← HM.out, ← HN.out, ← HA.out, ← HBB.out]; exact hAB), ← HM.out, ← HN.out])
          clear hAB
          refine wp_region_held_drew (S := (fun _ => True)) (by kernel_rfl) trivial (fun hH0 => ?_)
          refine wpAnyH_take (i := 0) (oi := _) (v := .int .u64 (n : Int)) rfl (by kernel_rfl) (by kernel_rfl) (by kernel_rfl) (fun _ _ _ h => h) (Or.inl ⟨by rfl, ?_⟩) hH0 ?_
          · intro w hSw; go_simp
          simp only [Act.put, List.getElem_toArray, List.getElem_cons_zero, List.getElem_cons_succ, List.setIfInBounds_toArray, List.set_cons_zero, List.set_cons_succ]
          refine wpAnyH_take (i := 3) (oi := _) (v := .slice (some ⟨bb, off, none⟩) b.length c) rfl (by kernel_rfl) (by kernel_rfl) (by kernel_rfl) (fun _ _ _ h => h) (Or.inl ⟨by rfl, ?_⟩) hH0 ?_
          · intro w hSw; go_simp
          simp only [Act.put, List.getElem_toArray, List.getElem_cons_zero, List.getElem_cons_succ, List.setIfInBounds_toArray, List.set_cons_zero, List.set_cons_succ]
          refine wpAnyH_take (i := 4) (oi := _) (v := .int .i64 ((k : Int) + 1)) rfl (by kernel_rfl) (by kernel_rfl) (by kernel_rfl) (fun _ _ _ h => h) (Or.inl ⟨by rfl, ?_⟩) hH0 ?_
          · intro w hSw; go_simp
          simp only [Act.put, List.getElem_toArray, List.getElem_cons_zero, List.getElem_cons_succ, List.setIfInBounds_toArray, List.set_cons_zero, List.set_cons_succ]
          refine wpAnyH_take (i := 5) (oi := _) (v := .slice (some ⟨bb, off, none⟩) (k + 1) c) rfl (by kernel_rfl) (by kernel_rfl) (by kernel_rfl) (fun _ _ _ h => h) (Or.inl ⟨by rfl, ?_⟩) hH0 ?_
          · intro w hSw; go_simp; (try (intro h; exfalso; omega))
          simp only [Act.put, List.getElem_toArray, List.getElem_cons_zero, List.getElem_cons_succ, List.setIfInBounds_toArray, List.set_cons_zero, List.set_cons_succ]
          refine wpAnyH_ready (rs := [1, 6]) (by kernel_rfl) (by simp) (AllReadyH.cons (o := _) rfl (fun K hK => ?_) (AllReadyH.cons (o := _) rfl (fun K hK => ?_) AllReadyH.nil))
          · skip
            go_simp
            refine (HBY.out _).mono ?_
            rintro en w2 ⟨a2, c2, rfl, ho2, hb2⟩
            have HB2 := Lib.hid' (show Below w.heap.size w w2 from HBY0.out.trans hb2)
            have ha2 := run_string_of (P := Tryz.prog) 22 5 9 Tryz.underlying22 Tryz.underlying5 Tryz.underlying9 (w := w2) (show Bytes w2 (.slice a2 A.length c2) A from SlV.of_own ho2)
            have hb2s := run_string_of (P := Tryz.prog) 22 5 9 Tryz.underlying22 Tryz.underlying5 Tryz.underlying9 (w := w2) (SlV.below HTK.out (Nat.le_refl _) HB2.out)
            clear ho2 hb2
            refine hK.out _ _ ?_ (fun hH1 => ?_)
            · trivial
            clear hK K
            refine wpAnyH_ready (rs := [2, 6]) (by kernel_rfl) (by simp) (AllReadyH.cons (o := _) rfl (fun K hK => ?_) (AllReadyH.cons (o := _) rfl (fun K hK => ?_) AllReadyH.nil))
            · skip
              go_simp
              refine hK.out _ _ ?_ (fun hH2 => ?_)
              · trivial
              clear hK K
              refine wpAnyH_ready (rs := [6]) (by kernel_rfl) (by simp) (AllReadyH.cons (o := _) rfl (fun K hK => ?_) AllReadyH.nil)
              go_simp
              refine hK.out _ _ ?_ (fun hH3 => ?_)
              · trivial
              clear hK K
              refine wpAnyH_take (i := 7) (oi := _) (v := .bool false) rfl (by kernel_rfl) (by kernel_rfl) (by kernel_rfl) (fun _ _ _ h => h) (Or.inl ⟨by rfl, ?_⟩) hH3 ?_
              · intro w hSw; go_simp; (try exact hyes)
              simp only [Act.put, List.getElem_toArray, List.getElem_cons_zero, List.getElem_cons_succ, List.setIfInBounds_toArray, List.set_cons_zero, List.set_cons_succ]
              refine wpAnyH_done (by kernel_rfl) ?_ _
              go_wp2
              refine bodyPost_ret (v := .tuple #[.int .u64 (n : Int), .int .i64 ((k : Int) + 1), .int .i64 0]) (by simp [results, Tryz.results106, go_sem]) rfl ⟨by rw [HR2.out]; rfl, HB2.out⟩
            · skip
              go_simp
              refine hK.out _ _ ?_ (fun hH2 => ?_)
              · trivial
              clear hK K
              refine wpAnyH_ready (rs := [2]) (by kernel_rfl) (by simp) (AllReadyH.cons (o := _) rfl (fun K hK => ?_) AllReadyH.nil)
              go_simp
              refine hK.out _ _ ?_ (fun hH3 => ?_)
              · trivial
              clear hK K
              refine wpAnyH_take (i := 7) (oi := _) (v := .bool false) rfl (by kernel_rfl) (by kernel_rfl) (by kernel_rfl) (fun _ _ _ h => h) (Or.inl ⟨by rfl, ?_⟩) hH3 ?_
              · intro w hSw; go_simp; (try exact hyes)
              simp only [Act.put, List.getElem_toArray, List.getElem_cons_zero, List.getElem_cons_succ, List.setIfInBounds_toArray, List.set_cons_zero, List.set_cons_succ]
              refine wpAnyH_done (by kernel_rfl) ?_ _
              go_wp2
              refine bodyPost_ret (v := .tuple #[.int .u64 (n : Int), .int .i64 ((k : Int) + 1), .int .i64 0]) (by simp [results, Tryz.results106, go_sem]) rfl ⟨by rw [HR2.out]; rfl, HB2.out⟩
          · skip
            go_simp
            refine hK.out _ _ ?_ (fun hH1 => ?_)
            · trivial
            clear hK K
            refine wpAnyH_ready (rs := [1]) (by kernel_rfl) (by simp) (AllReadyH.cons (o := _) rfl (fun K hK => ?_) AllReadyH.nil)
            go_simp
            refine (HBY.out _).mono ?_
            rintro en w2 ⟨a2, c2, rfl, ho2, hb2⟩
            have HB2 := Lib.hid' (show Below w.heap.size w w2 from HBY0.out.trans hb2)
            have ha2 := run_string_of (P := Tryz.prog) 22 5 9 Tryz.underlying22 Tryz.underlying5 Tryz.underlying9 (w := w2) (show Bytes w2 (.slice a2 A.length c2) A from SlV.of_own ho2)
            have hb2s := run_string_of (P := Tryz.prog) 22 5 9 Tryz.underlying22 Tryz.underlying5 Tryz.underlying9 (w := w2) (SlV.below HTK.out (Nat.le_refl _) HB2.out)
            clear ho2 hb2
            refine hK.out _ _ ?_ (fun hH2 => ?_)
            · trivial
            clear hK K
            refine wpAnyH_ready (rs := [2]) (by kernel_rfl) (by simp) (AllReadyH.cons (o := _) rfl (fun K hK => ?_) AllReadyH.nil)
            go_simp
            refine hK.out _ _ ?_ (fun hH3 => ?_)
            · trivial
            clear hK K
            refine wpAnyH_take (i := 7) (oi := _) (v := .bool false) rfl (by kernel_rfl) (by kernel_rfl) (by kernel_rfl) (fun _ _ _ h => h) (Or.inl ⟨by rfl, ?_⟩) hH3 ?_
            · intro w hSw; go_simp; (try exact hyes)
            simp only [Act.put, List.getElem_toArray, List.getElem_cons_zero, List.getElem_cons_succ, List.setIfInBounds_toArray, List.set_cons_zero, List.set_cons_succ]
            refine wpAnyH_done (by kernel_rfl) ?_ _
            go_wp2
            refine bodyPost_ret (v := .tuple #[.int .u64 (n : Int), .int .i64 ((k : Int) + 1), .int .i64 0]) (by simp [results, Tryz.results106, go_sem]) rfl ⟨by rw [HR2.out]; rfl, HB2.out⟩
        · have hyes : ¬ (strOf A).toList = (strOf B).toList := by rw [strOf_toList, strOf_toList]; exact hAB
          have HR2 := Lib.hid' (show r = none by
            rw [HR.out]; exact vtake_not hk2 HY.out HX.out (by rw [← HM.out, ← HN.out, ← HA.out, ← HBB.out]; exact hAB))
          clear hAB
          refine wp_region_held_drew (S := (fun _ => True)) (by kernel_rfl) trivial (fun hH0 => ?_)
          refine wpAnyH_take (i := 0) (oi := _) (v := .int .u64 (n : Int)) rfl (by kernel_rfl) (by kernel_rfl) (by kernel_rfl) (fun _ _ _ h => h) (Or.inl ⟨by rfl, ?_⟩) hH0 ?_
          · intro w hSw; go_simp
          simp only [Act.put, List.getElem_toArray, List.getElem_cons_zero, List.getElem_cons_succ, List.setIfInBounds_toArray, List.set_cons_zero, List.set_cons_succ]
          refine wpAnyH_take (i := 3) (oi := _) (v := .slice (some ⟨bb, off, none⟩) b.length c) rfl (by kernel_rfl) (by kernel_rfl) (by kernel_rfl) (fun _ _ _ h => h) (Or.inl ⟨by rfl, ?_⟩) hH0 ?_
          · intro w hSw; go_simp
          simp only [Act.put, List.getElem_toArray, List.getElem_cons_zero, List.getElem_cons_succ, List.setIfInBounds_toArray, List.set_cons_zero, List.set_cons_succ]
          refine wpAnyH_take (i := 4) (oi := _) (v := .int .i64 ((k : Int) + 1)) rfl (by kernel_rfl) (by kernel_rfl) (by kernel_rfl) (fun _ _ _ h => h) (Or.inl ⟨by rfl, ?_⟩) hH0 ?_
          · intro w hSw; go_simp
          simp only [Act.put, List.getElem_toArray, List.getElem_cons_zero, List.getElem_cons_succ, List.setIfInBounds_toArray, List.set_cons_zero, List.set_cons_succ]
          refine wpAnyH_take (i := 5) (oi := _) (v := .slice (some ⟨bb, off, none⟩) (k + 1) c) rfl (by kernel_rfl) (by kernel_rfl) (by kernel_rfl) (fun _ _ _ h => h) (Or.inl ⟨by rfl, ?_⟩) hH0 ?_
          · intro w hSw; go_simp; (try (intro h; exfalso; omega))
          simp only [Act.put, List.getElem_toArray, List.getElem_cons_zero, List.getElem_cons_succ, List.setIfInBounds_toArray, List.set_cons_zero, List.set_cons_succ]
          refine wpAnyH_ready (rs := [1, 6]) (by kernel_rfl) (by simp) (AllReadyH.cons (o := _) rfl (fun K hK => ?_) (AllReadyH.cons (o := _) rfl (fun K hK => ?_) AllReadyH.nil))
          · skip
            go_simp
            refine (HBY.out _).mono ?_
            rintro en w2 ⟨a2, c2, rfl, ho2, hb2⟩
            have HB2 := Lib.hid' (show Below w.heap.size w w2 from HBY0.out.trans hb2)
            have ha2 := run_string_of (P := Tryz.prog) 22 5 9 Tryz.underlying22 Tryz.underlying5 Tryz.underlying9 (w := w2) (show Bytes w2 (.slice a2 A.length c2) A from SlV.of_own ho2)
            have hb2s := run_string_of (P := Tryz.prog) 22 5 9 Tryz.underlying22 Tryz.underlying5 Tryz.underlying9 (w := w2) (SlV.below HTK.out (Nat.le_refl _) HB2.out)
            clear ho2 hb2
            refine hK.out _ _ ?_ (fun hH1 => ?_)
            · trivial
            clear hK K
            refine wpAnyH_ready (rs := [2, 6]) (by kernel_rfl) (by simp) (AllReadyH.cons (o := _) rfl (fun K hK => ?_) (AllReadyH.cons (o := _) rfl (fun K hK => ?_) AllReadyH.nil))
            · skip
              go_simp
              refine hK.out _ _ ?_ (fun hH2 => ?_)
              · trivial
              clear hK K
              refine wpAnyH_ready (rs := [6]) (by kernel_rfl) (by simp) (AllReadyH.cons (o := _) rfl (fun K hK => ?_) AllReadyH.nil)
              go_simp
              refine hK.out _ _ ?_ (fun hH3 => ?_)
              · trivial
              clear hK K
              refine wpAnyH_take (i := 7) (oi := _) (v := .bool true) rfl (by kernel_rfl) (by kernel_rfl) (by kernel_rfl) (fun _ _ _ h => h) (Or.inl ⟨by rfl, ?_⟩) hH3 ?_
              · intro w hSw; go_simp; (try exact hyes)
              simp only [Act.put, List.getElem_toArray, List.getElem_cons_zero, List.getElem_cons_succ, List.setIfInBounds_toArray, List.set_cons_zero, List.set_cons_succ]
              refine wpAnyH_done (by kernel_rfl) ?_ _
              go_wp2
              refine bodyPost_ret (v := .tuple #[.int .u64 0, .int .i64 0, .int .i64 2]) (by simp [results, Tryz.results106, go_sem]) rfl ⟨by rw [HR2.out]; rfl, HB2.out⟩
            · skip
              go_simp
              refine hK.out _ _ ?_ (fun hH2 => ?_)
              · trivial
              clear hK K
              refine wpAnyH_ready (rs := [2]) (by kernel_rfl) (by simp) (AllReadyH.cons (o := _) rfl (fun K hK => ?_) AllReadyH.nil)
              go_simp
              refine hK.out _ _ ?_ (fun hH3 => ?_)
              · trivial
              clear hK K
              refine wpAnyH_take (i := 7) (oi := _) (v := .bool true) rfl (by kernel_rfl) (by kernel_rfl) (by kernel_rfl) (fun _ _ _ h => h) (Or.inl ⟨by rfl, ?_⟩) hH3 ?_
              · intro w hSw; go_simp; (try exact hyes)
              simp only [Act.put, List.getElem_toArray, List.getElem_cons_zero, List.getElem_cons_succ, List.setIfInBounds_toArray, List.set_cons_zero, List.set_cons_succ]
              refine wpAnyH_done (by kernel_rfl) ?_ _
              go_wp2
              refine bodyPost_ret (v := .tuple #[.int .u64 0, .int .i64 0, .int .i64 2]) (by simp [results, Tryz.results106, go_sem]) rfl ⟨by rw [HR2.out]; rfl, HB2.out⟩
          · skip
            go_simp
            refine hK.out _ _ ?_ (fun hH1 => ?_)
            · trivial
            clear hK K
            refine wpAnyH_ready (rs := [1]) (by kernel_rfl) (by simp) (AllReadyH.cons (o := _) rfl (fun K hK => ?_) AllReadyH.nil)
            go_simp
            refine (HBY.out _).mono ?_
            rintro en w2 ⟨a2, c2, rfl, ho2, hb2⟩
            have HB2 := Lib.hid' (show Below w.heap.size w w2 from HBY0.out.trans hb2)
            have ha2 := run_string_of (P := Tryz.prog) 22 5 9 Tryz.underlying22 Tryz.underlying5 Tryz.underlying9 (w := w2) (show Bytes w2 (.slice a2 A.length c2) A from SlV.of_own ho2)
            have hb2s := run_string_of (P := Tryz.prog) 22 5 9 Tryz.underlying22 Tryz.underlying5 Tryz.underlying9 (w := w2) (SlV.below HTK.out (Nat.le_refl _) HB2.out)
            clear ho2 hb2
            refine hK.out _ _ ?_ (fun hH2 => ?_)
            · trivial
            clear hK K
            refine wpAnyH_ready (rs := [2]) (by kernel_rfl) (by simp) (AllReadyH.cons (o := _) rfl (fun K hK => ?_) AllReadyH.nil)
            go_simp
            refine hK.out _ _ ?_ (fun hH3 => ?_)
            · trivial
            clear hK K
            refine wpAnyH_take (i := 7) (oi := _) (v := .bool true) rfl (by kernel_rfl) (by kernel_rfl) (by kernel_rfl) (fun _ _ _ h => h) (Or.inl ⟨by rfl, ?_⟩) hH3 ?_
            · intro w hSw; go_simp; (try exact hyes)
            simp only [Act.put, List.getElem_toArray, List.getElem_cons_zero, List.getElem_cons_succ, List.setIfInBounds_toArray, List.set_cons_zero, List.set_cons_succ]
            refine wpAnyH_done (by kernel_rfl) ?_ _
            go_wp2
            refine bodyPost_ret (v := .tuple #[.int .u64 0, .int .i64 0, .int .i64 2]) (by simp [results, Tryz.results106, go_sem]) rfl ⟨by rw [HR2.out]; rfl, HB2.out⟩
end Go.Proofs.YtkljeefncopodaaGreat
