/- Layer 1, the document's: Take, readers. -/
import Derived.Test.YtkljeefncopodaaGreatVarQ
import Derived.Test.YtkljeefncopodaaGreatRefV
import Derived.Deep.DeepCutAuto
import Derived.Test.YtkljeefncopodaaGreatSlB
namespace Go.Proofs.YtkljeefncopodaaGreat
open Go.RowKit
set_option linter.unusedSimpArgs false
set_option linter.unusedVariables false
set_option maxRecDepth 100000

def RTake01 (r : Option (Nat × Nat)) : Value := match r with | none => .tuple #[.int .u64 0, .int .i64 0, .int .i64 2] | some (n, k) => .tuple #[.int .u64 (n : Nat), .int .i64 (k : Nat), .int .i64 0]
def vdm (b : List UInt8) (k i : Nat) : Nat := vv ((b.take (k + 1)).drop i) % 18446744073709551616
theorem vdm_end {b : List UInt8} {k : Nat} (hk : k < b.length) : vdm b k (k + 1) = 0 := by
  unfold vdm
  rw [List.drop_of_length_le (by rw [List.length_take]; omega)]; rfl
theorem vdm_zero (b : List UInt8) (k : Nat) : vdm b k 0 = vvm b k := rfl
theorem vdm_lt (b : List UInt8) (k i : Nat) : vdm b k i < 18446744073709551616 := Nat.mod_lt _ (by decide)
theorem vdm_next {b : List UInt8} {k p : Nat} (hp : p < k + 1) (hk : k < b.length) : vdm b k p = (vdm b k (p + 1) * 128 + b[p].toNat % 128) % 18446744073709551616 := by
  unfold vdm
  have hl : p < (b.take (k + 1)).length := by rw [List.length_take]; omega
  rw [List.drop_eq_getElem_cons hl]
  have e : (b.take (k + 1))[p] = b[p] := List.getElem_take
  rw [e]
  show (b[p].toNat % 128 + 128 * vv _) % _ = _
  omega
theorem wrap_step (n y : Nat) : IntKind.u64.wrap (IntKind.u64.wrap ((n : Int) * 128) + (y : Int) % 128) = (((n * 128 + y % 128) % 18446744073709551616 : Nat) : Int) := by
  have e : ∀ x : Int, IntKind.u64.wrap x = x % 18446744073709551616 := fun x => rfl
  rw [e, e]; omega
set_option maxHeartbeats 2000000 in
theorem rtake01_any (b : List UInt8) (a : Option Addr) (c : Nat) (w : World) (h : Bytes w (.slice a b.length c) b) :
    Calls Tryz.prog 106 #[.slice a b.length c] w fun e w' => e = .returned (RTake01 (vtake b)) ∧ Below w.heap.size w w' := by
  have HB := Lib.hid' h
  have hbl := bytes_len h
  have hcap : b.length ≤ c := by obtain ⟨_, _, he, h1, _⟩ := h; cases he; exact h1
  clear h
  obtain ⟨r, hr⟩ : ∃ r, r = vtake b := ⟨_, rfl⟩
  have HR := Lib.hid' hr
  rw [← hr]
  clear hr
  go_enter Tryz.func106, Tryz.ntmps106
  go_wp2_with fail
  go_loop [5] (fun v5 => ∃ k : Nat, v5 = .int .i64 ((k : Int) + 1) ∧ k ≤ 10 ∧ k ≤ b.length ∧ Hid (∀ y ∈ b.take k, 128 ≤ y.toNat)) (fun v5 => 11 - (intOf v5).toNat)
  case atStart => exact ⟨0, rfl, by omega, Nat.zero_le _, Lib.hid' (by simp)⟩
  case round =>
    obtain ⟨k, rfl, hk10, hkl, HY⟩ := hrel
    by_cases hend : k < 10 ∧ k < b.length
    rotate_left
    · have HN := Lib.hid' (show r = none by
        rw [HR.out]
        refine vtake_long (fun y hy => ?_)
        by_cases h10 : k = 10
        · subst h10; exact HY.out y hy
        · have hkb : k = b.length := by omega
          subst hkb
          have := HY.out y (by rw [List.take_length]; exact List.mem_of_mem_take hy)
          exact this)
      rcases (show ¬ (k : Int) + 1 ≤ 10 ∨ ((k : Int) + 1 ≤ 10 ∧ ¬ (k : Int) + 1 ≤ b.length) by omega) with h1 | ⟨h1, h2⟩
      · go_wp2
        refine bodyPost_ret (v := .tuple #[.int .u64 0, .int .i64 0, .int .i64 2]) (by simp [results, Tryz.results106, go_sem]) rfl ⟨by rw [HN.out]; rfl, Below.refl _ _⟩
      · go_wp2
        refine bodyPost_ret (v := .tuple #[.int .u64 0, .int .i64 0, .int .i64 2]) (by simp [results, Tryz.results106, go_sem]) rfl ⟨by rw [HN.out]; rfl, Below.refl _ _⟩
    obtain ⟨hk1, hk2⟩ := hend
    have g1 : (k : Int) + 1 ≤ 10 := by omega
    have g2 : (k : Int) + 1 ≤ b.length := by omega
    obtain ⟨bb, off, rfl, hbb, hc⟩ := bytes_at (l := b) HB.out hk2
    have HNX := Lib.hid' (show b[k].toNat < 128 ∨ ∀ y ∈ b.take (k + 1), 128 ≤ y.toNat by
      by_cases hx : b[k].toNat < 128
      · exact .inl hx
      · right; rw [List.take_succ_eq_append_getElem hk2]; intro y hy
        rcases List.mem_append.1 hy with hy | hy
        · exact HY.out y hy
        · simp only [List.mem_singleton] at hy; subst hy; omega)
    by_cases hx : 128 ≤ b[k].toNat
    · have HY2 := Lib.hid' (HNX.out.resolve_left (by omega))
      have hc' : w.cell? ⟨bb, off + k, none⟩ = some (.int .u8 (b[k].toNat : Int)) := hc
      generalize b[k].toNat = x at *
      go_wp2_with fail
      go_round
      case rel => exact ⟨k + 1, by go_num, by omega, by omega, HY2⟩
      case measure => simp [intOf]; omega
    have HX := Lib.hid' (show b[k].toNat < 128 by omega)
    have hc' : w.cell? ⟨bb, off + k, none⟩ = some (.int .u8 (b[k].toNat : Int)) := hc
    obtain ⟨x, hxx⟩ : ∃ x, x = b[k].toNat := ⟨_, rfl⟩
    rw [← hxx] at hc' hx
    clear hxx hc HNX
    go_wp2_with fail
    clear hc' hx
    go_loop [6, 7] (fun v6 v7 => ∃ i : Nat, v7 = .int .i64 ((i : Int) - 1) ∧ i ≤ k + 1 ∧ v6 = .int .u64 (vdm b k i : Nat)) (fun _ v7 => ((intOf v7) + 1).toNat)
    case atStart => exact ⟨k + 1, by go_num, Nat.le_refl _, by rw [vdm_end hk2]; rfl⟩
    case round =>
      obtain ⟨i, rfl, hi, rfl⟩ := hrel
      by_cases hi0 : i = 0
      rotate_left
      · obtain ⟨p, rfl⟩ : ∃ p, i = p + 1 := ⟨i - 1, by omega⟩
        have hpb : p < b.length := by omega
        obtain ⟨b2, off2, he2, _, hc2⟩ := bytes_at (l := b) HB.out hpb
        simp only [Option.some.injEq, Addr.mk.injEq, and_true] at he2
        obtain ⟨rfl, rfl⟩ := he2
        have HV := Lib.hid' (vdm_next (b := b) (k := k) (p := p) (by omega) hk2)
        have hvl := vdm_lt b k (p + 1)
        have hc2' : w.cell? ⟨bb, off + p, none⟩ = some (.int .u8 (b[p].toNat : Int)) := hc2
        have hb8 := b[p].toNat_lt
        generalize vdm b k (p + 1) = n at *
        generalize b[p].toNat = y at *
        rw [show ((p + 1 : Nat) : Int) - 1 = (p : Int) by omega]
        go_wp2_with fail
        go_round
        case rel => exact ⟨p, by go_num, by omega, by rw [HV.out, wrap_step]⟩
        case measure => simp [intOf]
      · subst hi0
        have hnl := vdm_lt b k 0
        have HM := Lib.hid' (vdm_zero b k)
        obtain ⟨n, hn⟩ : ∃ n, n = vdm b k 0 := ⟨_, rfl⟩
        have HN := Lib.hid' hn
        rw [← hn] at hnl ⊢
        clear hn
        obtain ⟨A, hA⟩ : ∃ A, A = vb n := ⟨_, rfl⟩
        obtain ⟨B, hB⟩ : ∃ B, B = b.take (k + 1) := ⟨_, rfl⟩
        have HA := Lib.hid' hA
        have HBB := Lib.hid' hB
        have hby := fun wq => rBytes_any n hnl wq
        rw [← hA] at hby
        have HBY := Lib.hid' hby
        have htk := bytes_take HB.out (k := k + 1) (by omega)
        rw [← hB] at htk
        have HTK := Lib.hid' htk
        have hkc : k + 1 ≤ c := by omega
        have hkc2 : (k : Int) + 1 ≤ c := by omega
        have hkc3 : (0 : Int) ≤ (k : Int) + 1 := by omega
        clear hA hB hby htk
        go_wp2_with fail
        have hb0 := run_string_of (P := Tryz.prog) 22 5 9 Tryz.underlying22 Tryz.underlying5 Tryz.underlying9 (w := w.drew) (SlV.below HTK.out (Nat.le_refl _) (Below.drew (Below.refl _ _)))
        have HBY0 := Lib.hid' (show Below w.heap.size w w.drew from Below.drew (Below.refl _ _))
        by_cases hAB : A = B
        · have hyes : (strOf A).toList = (strOf B).toList := by rw [hAB]
          have HR2 := Lib.hid' (show r = some (n, k + 1) by
            rw [HR.out, vtake_yes hk2 (by rw [← HM.out, ← HN.out, ← HA.out, ← HBB.out]; exact hAB), ← HM.out, ← HN.out])
          clear hAB
          refine wp_region_held_drew (S := (fun _ => True)) (by kernel_rfl) trivial (fun hH0 => ?_)
          refine wpAnyH_take (i := 0) (oi := _) (v := .int .u64 (n : Int)) rfl (by kernel_rfl) (by kernel_rfl) (by kernel_rfl) (fun _ _ _ h => h) (Or.inl ⟨by rfl, ?_⟩) hH0 ?_
          · intro w hSw; go_simp
          simp only [Act.put, List.getElem_toArray, List.getElem_cons_zero, List.getElem_cons_succ, List.setIfInBounds_toArray, List.set_cons_zero, List.set_cons_succ]
          refine wpAnyH_take (i := 3) (oi := _) (v := .slice (some ⟨bb, off, none⟩) b.length c) rfl (by kernel_rfl) (by kernel_rfl) (by kernel_rfl) (fun _ _ _ h => h) (Or.inl ⟨by rfl, ?_⟩) hH0 ?_
          · intro w hSw; go_simp
          simp only [Act.put, List.getElem_toArray, List.getElem_cons_zero, List.getElem_cons_succ, List.setIfInBounds_toArray, List.set_cons_zero, List.set_cons_succ]
          refine wpAnyH_take (i := 4) (oi := _) (v := .int .i64 ((k : Int) + 1)) rfl (by kernel_rfl) (by kernel_rfl) (by kernel_rfl) (fun _ _ _ h => h) (Or.inl ⟨by rfl, ?_⟩) hH0 ?_
          · intro w hSw; go_simp
          simp only [Act.put, List.getElem_toArray, List.getElem_cons_zero, List.getElem_cons_succ, List.setIfInBounds_toArray, List.set_cons_zero, List.set_cons_succ]
          refine wpAnyH_take (i := 5) (oi := _) (v := .slice (some ⟨bb, off, none⟩) (k + 1) c) rfl (by kernel_rfl) (by kernel_rfl) (by kernel_rfl) (fun _ _ _ h => h) (Or.inl ⟨by rfl, ?_⟩) hH0 ?_
          · intro w hSw; go_simp; (try (intro h; exfalso; omega))
          simp only [Act.put, List.getElem_toArray, List.getElem_cons_zero, List.getElem_cons_succ, List.setIfInBounds_toArray, List.set_cons_zero, List.set_cons_succ]
          refine wpAnyH_ready (rs := [1, 6]) (by kernel_rfl) (by simp) (AllReadyH.cons (o := _) rfl (fun K hK => ?_) (AllReadyH.cons (o := _) rfl (fun K hK => ?_) AllReadyH.nil))
          · skip
            go_simp
            refine (HBY.out _).mono ?_
            rintro en w2 ⟨a2, c2, rfl, ho2, hb2⟩
            have HB2 := Lib.hid' (show Below w.heap.size w w2 from HBY0.out.trans hb2)
            have ha2 := run_string_of (P := Tryz.prog) 22 5 9 Tryz.underlying22 Tryz.underlying5 Tryz.underlying9 (w := w2) (show Bytes w2 (.slice a2 A.length c2) A from SlV.of_own ho2)
            have hb2s := run_string_of (P := Tryz.prog) 22 5 9 Tryz.underlying22 Tryz.underlying5 Tryz.underlying9 (w := w2) (SlV.below HTK.out (Nat.le_refl _) HB2.out)
            clear ho2 hb2
            refine hK.out _ _ ?_ (fun hH1 => ?_)
            · trivial
            clear hK K
            refine wpAnyH_ready (rs := [2, 6]) (by kernel_rfl) (by simp) (AllReadyH.cons (o := _) rfl (fun K hK => ?_) (AllReadyH.cons (o := _) rfl (fun K hK => ?_) AllReadyH.nil))
            · skip
              go_simp
              refine hK.out _ _ ?_ (fun hH2 => ?_)
              · trivial
              clear hK K
              refine wpAnyH_ready (rs := [6]) (by kernel_rfl) (by simp) (AllReadyH.cons (o := _) rfl (fun K hK => ?_) AllReadyH.nil)
              go_simp
              refine hK.out _ _ ?_ (fun hH3 => ?_)
              · trivial
              clear hK K
              refine wpAnyH_take (i := 7) (oi := _) (v := .bool false) rfl (by kernel_rfl) (by kernel_rfl) (by kernel_rfl) (fun _ _ _ h => h) (Or.inl ⟨by rfl, ?_⟩) hH3 ?_
              · intro w hSw; go_simp; (try exact hyes)
              simp only [Act.put, List.getElem_toArray, List.getElem_cons_zero, List.getElem_cons_succ, List.setIfInBounds_toArray, List.set_cons_zero, List.set_cons_succ]
              refine wpAnyH_done (by kernel_rfl) ?_ _
              go_wp2
              refine bodyPost_ret (v := .tuple #[.int .u64 (n : Int), .int .i64 ((k : Int) + 1), .int .i64 0]) (by simp [results, Tryz.results106, go_sem]) rfl ⟨by rw [HR2.out]; rfl, HB2.out⟩
            · skip
              go_simp
              refine hK.out _ _ ?_ (fun hH2 => ?_)
              · trivial
              clear hK K
              refine wpAnyH_ready (rs := [2]) (by kernel_rfl) (by simp) (AllReadyH.cons (o := _) rfl (fun K hK => ?_) AllReadyH.nil)
              go_simp
              refine hK.out _ _ ?_ (fun hH3 => ?_)
              · trivial
              clear hK K
              refine wpAnyH_take (i := 7) (oi := _) (v := .bool false) rfl (by kernel_rfl) (by kernel_rfl) (by kernel_rfl) (fun _ _ _ h => h) (Or.inl ⟨by rfl, ?_⟩) hH3 ?_
              · intro w hSw; go_simp; (try exact hyes)
              simp only [Act.put, List.getElem_toArray, List.getElem_cons_zero, List.getElem_cons_succ, List.setIfInBounds_toArray, List.set_cons_zero, List.set_cons_succ]
              refine wpAnyH_done (by kernel_rfl) ?_ _
              go_wp2
              refine bodyPost_ret (v := .tuple #[.int .u64 (n : Int), .int .i64 ((k : Int) + 1), .int .i64 0]) (by simp [results, Tryz.results106, go_sem]) rfl ⟨by rw [HR2.out]; rfl, HB2.out⟩
          · skip
            go_simp
            refine hK.out _ _ ?_ (fun hH1 => ?_)
            · trivial
            clear hK K
            refine wpAnyH_ready (rs := [1]) (by kernel_rfl) (by simp) (AllReadyH.cons (o := _) rfl (fun K hK => ?_) AllReadyH.nil)
            go_simp
            refine (HBY.out _).mono ?_
            rintro en w2 ⟨a2, c2, rfl, ho2, hb2⟩
            have HB2 := Lib.hid' (show Below w.heap.size w w2 from HBY0.out.trans hb2)
            have ha2 := run_string_of (P := Tryz.prog) 22 5 9 Tryz.underlying22 Tryz.underlying5 Tryz.underlying9 (w := w2) (show Bytes w2 (.slice a2 A.length c2) A from SlV.of_own ho2)
            have hb2s := run_string_of (P := Tryz.prog) 22 5 9 Tryz.underlying22 Tryz.underlying5 Tryz.underlying9 (w := w2) (SlV.below HTK.out (Nat.le_refl _) HB2.out)
            clear ho2 hb2
            refine hK.out _ _ ?_ (fun hH2 => ?_)
            · trivial
            clear hK K
            refine wpAnyH_ready (rs := [2]) (by kernel_rfl) (by simp) (AllReadyH.cons (o := _) rfl (fun K hK => ?_) AllReadyH.nil)
            go_simp
            refine hK.out _ _ ?_ (fun hH3 => ?_)
            · trivial
            clear hK K
            refine wpAnyH_take (i := 7) (oi := _) (v := .bool false) rfl (by kernel_rfl) (by kernel_rfl) (by kernel_rfl) (fun _ _ _ h => h) (Or.inl ⟨by rfl, ?_⟩) hH3 ?_
            · intro w hSw; go_simp; (try exact hyes)
            simp only [Act.put, List.getElem_toArray, List.getElem_cons_zero, List.getElem_cons_succ, List.setIfInBounds_toArray, List.set_cons_zero, List.set_cons_succ]
            refine wpAnyH_done (by kernel_rfl) ?_ _
            go_wp2
            refine bodyPost_ret (v := .tuple #[.int .u64 (n : Int), .int .i64 ((k : Int) + 1), .int .i64 0]) (by simp [results, Tryz.results106, go_sem]) rfl ⟨by rw [HR2.out]; rfl, HB2.out⟩
        · have hyes : ¬ (strOf A).toList = (strOf B).toList := by rw [strOf_toList, strOf_toList]; exact hAB
          have HR2 := Lib.hid' (show r = none by
            rw [HR.out]; exact vtake_not hk2 HY.out HX.out (by rw [← HM.out, ← HN.out, ← HA.out, ← HBB.out]; exact hAB))
          clear hAB
          refine wp_region_held_drew (S := (fun _ => True)) (by kernel_rfl) trivial (fun hH0 => ?_)
          refine wpAnyH_take (i := 0) (oi := _) (v := .int .u64 (n : Int)) rfl (by kernel_rfl) (by kernel_rfl) (by kernel_rfl) (fun _ _ _ h => h) (Or.inl ⟨by rfl, ?_⟩) hH0 ?_
          · intro w hSw; go_simp
          simp only [Act.put, List.getElem_toArray, List.getElem_cons_zero, List.getElem_cons_succ, List.setIfInBounds_toArray, List.set_cons_zero, List.set_cons_succ]
          refine wpAnyH_take (i := 3) (oi := _) (v := .slice (some ⟨bb, off, none⟩) b.length c) rfl (by kernel_rfl) (by kernel_rfl) (by kernel_rfl) (fun _ _ _ h => h) (Or.inl ⟨by rfl, ?_⟩) hH0 ?_
          · intro w hSw; go_simp
          simp only [Act.put, List.getElem_toArray, List.getElem_cons_zero, List.getElem_cons_succ, List.setIfInBounds_toArray, List.set_cons_zero, List.set_cons_succ]
          refine wpAnyH_take (i := 4) (oi := _) (v := .int .i64 ((k : Int) + 1)) rfl (by kernel_rfl) (by kernel_rfl) (by kernel_rfl) (fun _ _ _ h => h) (Or.inl ⟨by rfl, ?_⟩) hH0 ?_
          · intro w hSw; go_simp
          simp only [Act.put, List.getElem_toArray, List.getElem_cons_zero, List.getElem_cons_succ, List.setIfInBounds_toArray, List.set_cons_zero, List.set_cons_succ]
          refine wpAnyH_take (i := 5) (oi := _) (v := .slice (some ⟨bb, off, none⟩) (k + 1) c) rfl (by kernel_rfl) (by kernel_rfl) (by kernel_rfl) (fun _ _ _ h => h) (Or.inl ⟨by rfl, ?_⟩) hH0 ?_
          · intro w hSw; go_simp; (try (intro h; exfalso; omega))
          simp only [Act.put, List.getElem_toArray, List.getElem_cons_zero, List.getElem_cons_succ, List.setIfInBounds_toArray, List.set_cons_zero, List.set_cons_succ]
          refine wpAnyH_ready (rs := [1, 6]) (by kernel_rfl) (by simp) (AllReadyH.cons (o := _) rfl (fun K hK => ?_) (AllReadyH.cons (o := _) rfl (fun K hK => ?_) AllReadyH.nil))
          · skip
            go_simp
            refine (HBY.out _).mono ?_
            rintro en w2 ⟨a2, c2, rfl, ho2, hb2⟩
            have HB2 := Lib.hid' (show Below w.heap.size w w2 from HBY0.out.trans hb2)
            have ha2 := run_string_of (P := Tryz.prog) 22 5 9 Tryz.underlying22 Tryz.underlying5 Tryz.underlying9 (w := w2) (show Bytes w2 (.slice a2 A.length c2) A from SlV.of_own ho2)
            have hb2s := run_string_of (P := Tryz.prog) 22 5 9 Tryz.underlying22 Tryz.underlying5 Tryz.underlying9 (w := w2) (SlV.below HTK.out (Nat.le_refl _) HB2.out)
            clear ho2 hb2
            refine hK.out _ _ ?_ (fun hH1 => ?_)
            · trivial
            clear hK K
            refine wpAnyH_ready (rs := [2, 6]) (by kernel_rfl) (by simp) (AllReadyH.cons (o := _) rfl (fun K hK => ?_) (AllReadyH.cons (o := _) rfl (fun K hK => ?_) AllReadyH.nil))
            · skip
              go_simp
              refine hK.out _ _ ?_ (fun hH2 => ?_)
              · trivial
              clear hK K
              refine wpAnyH_ready (rs := [6]) (by kernel_rfl) (by simp) (AllReadyH.cons (o := _) rfl (fun K hK => ?_) AllReadyH.nil)
              go_simp
              refine hK.out _ _ ?_ (fun hH3 => ?_)
              · trivial
              clear hK K
              refine wpAnyH_take (i := 7) (oi := _) (v := .bool true) rfl (by kernel_rfl) (by kernel_rfl) (by kernel_rfl) (fun _ _ _ h => h) (Or.inl ⟨by rfl, ?_⟩) hH3 ?_
              · intro w hSw; go_simp; (try exact hyes)
              simp only [Act.put, List.getElem_toArray, List.getElem_cons_zero, List.getElem_cons_succ, List.setIfInBounds_toArray, List.set_cons_zero, List.set_cons_succ]
              refine wpAnyH_done (by kernel_rfl) ?_ _
              go_wp2
              refine bodyPost_ret (v := .tuple #[.int .u64 0, .int .i64 0, .int .i64 2]) (by simp [results, Tryz.results106, go_sem]) rfl ⟨by rw [HR2.out]; rfl, HB2.out⟩
            · skip
              go_simp
              refine hK.out _ _ ?_ (fun hH2 => ?_)
              · trivial
              clear hK K
              refine wpAnyH_ready (rs := [2]) (by kernel_rfl) (by simp) (AllReadyH.cons (o := _) rfl (fun K hK => ?_) AllReadyH.nil)
              go_simp
              refine hK.out _ _ ?_ (fun hH3 => ?_)
              · trivial
              clear hK K
              refine wpAnyH_take (i := 7) (oi := _) (v := .bool true) rfl (by kernel_rfl) (by kernel_rfl) (by kernel_rfl) (fun _ _ _ h => h) (Or.inl ⟨by rfl, ?_⟩) hH3 ?_
              · intro w hSw; go_simp; (try exact hyes)
              simp only [Act.put, List.getElem_toArray, List.getElem_cons_zero, List.getElem_cons_succ, List.setIfInBounds_toArray, List.set_cons_zero, List.set_cons_succ]
              refine wpAnyH_done (by kernel_rfl) ?_ _
              go_wp2
              refine bodyPost_ret (v := .tuple #[.int .u64 0, .int .i64 0, .int .i64 2]) (by simp [results, Tryz.results106, go_sem]) rfl ⟨by rw [HR2.out]; rfl, HB2.out⟩
          · skip
            go_simp
            refine hK.out _ _ ?_ (fun hH1 => ?_)
            · trivial
            clear hK K
            refine wpAnyH_ready (rs := [1]) (by kernel_rfl) (by simp) (AllReadyH.cons (o := _) rfl (fun K hK => ?_) AllReadyH.nil)
            go_simp
            refine (HBY.out _).mono ?_
            rintro en w2 ⟨a2, c2, rfl, ho2, hb2⟩
            have HB2 := Lib.hid' (show Below w.heap.size w w2 from HBY0.out.trans hb2)
            have ha2 := run_string_of (P := Tryz.prog) 22 5 9 Tryz.underlying22 Tryz.underlying5 Tryz.underlying9 (w := w2) (show Bytes w2 (.slice a2 A.length c2) A from SlV.of_own ho2)
            have hb2s := run_string_of (P := Tryz.prog) 22 5 9 Tryz.underlying22 Tryz.underlying5 Tryz.underlying9 (w := w2) (SlV.below HTK.out (Nat.le_refl _) HB2.out)
            clear ho2 hb2
            refine hK.out _ _ ?_ (fun hH2 => ?_)
            · trivial
            clear hK K
            refine wpAnyH_ready (rs := [2]) (by kernel_rfl) (by simp) (AllReadyH.cons (o := _) rfl (fun K hK => ?_) AllReadyH.nil)
            go_simp
            refine hK.out _ _ ?_ (fun hH3 => ?_)
            · trivial
            clear hK K
            refine wpAnyH_take (i := 7) (oi := _) (v := .bool true) rfl (by kernel_rfl) (by kernel_rfl) (by kernel_rfl) (fun _ _ _ h => h) (Or.inl ⟨by rfl, ?_⟩) hH3 ?_
            · intro w hSw; go_simp; (try exact hyes)
            simp only [Act.put, List.getElem_toArray, List.getElem_cons_zero, List.getElem_cons_succ, List.setIfInBounds_toArray, List.set_cons_zero, List.set_cons_succ]
            refine wpAnyH_done (by kernel_rfl) ?_ _
            go_wp2
            refine bodyPost_ret (v := .tuple #[.int .u64 0, .int .i64 0, .int .i64 2]) (by simp [results, Tryz.results106, go_sem]) rfl ⟨by rw [HR2.out]; rfl, HB2.out⟩
end Go.Proofs.YtkljeefncopodaaGreat

namespace Go.Proofs.YtkljeefncopodaaGreat
open Go.RowKit
set_option linter.unusedSimpArgs false
set_option linter.unusedVariables false
set_option maxRecDepth 100000

def rdV (r : RD) (a : Option Addr) (c : Nat) : Value := .agg #[.slice a r.rest.length c, .int .i64 (r.bad : Nat)]
set_option maxHeartbeats 1000000 in
theorem rfail01_any (r : RD) (a : Option Addr) (c n : Nat) (hr : r.rest.length ≤ 9223372036854775807) (w : World) :
    Calls Tryz.prog 109 #[rdV r a c, .int .i64 (n : Nat)] w fun e w' => e = .returned (rdV (r.fail n) a c) ∧ Below w.heap.size w w' := by
  obtain ⟨rest, bad⟩ := r
  by_cases hb : bad = 0
  · have HR := Lib.hid' (show RD.fail ⟨rest, bad⟩ n = ⟨rest, n⟩ by unfold RD.fail; rw [if_pos hb])
    have hbb : ((bad : Int) == 0) = true := by rw [beq_iff_eq]; omega
    clear hb
    unfold rdV
    simp only at hr ⊢
    go_enter Tryz.func109, Tryz.ntmps109
    go_wp2
    refine bodyPost_ret (v := .agg #[.slice a rest.length c, .int .i64 (n : Nat)]) (by simp [results, Tryz.results109, go_sem]) rfl ⟨by rw [HR.out], by go_grown⟩
  · have HR := Lib.hid' (show RD.fail ⟨rest, bad⟩ n = ⟨rest, bad⟩ by unfold RD.fail; rw [if_neg hb])
    have hbb : ((bad : Int) == 0) = false := by rw [beq_eq_false_iff_ne]; omega
    clear hb
    unfold rdV
    simp only at hr ⊢
    go_enter Tryz.func109, Tryz.ntmps109
    go_wp2
    refine bodyPost_ret (v := .agg #[.slice a rest.length c, .int .i64 (bad : Nat)]) (by simp [results, Tryz.results109, go_sem]) rfl ⟨by rw [HR.out], by go_grown⟩
theorem rend01_any (r : RD) (a : Option Addr) (c : Nat) (hr : r.rest.length ≤ 9223372036854775807) (w : World) :
    Calls Tryz.prog 47 #[rdV r a c] w fun e w' => e = .returned (.int .i64 (r.fin : Nat)) ∧ Below w.heap.size w w' := by
  obtain ⟨rest, bad⟩ := r
  by_cases hb : bad = 0
  · subst hb
    by_cases hl : 0 < rest.length
    · have HR := Lib.hid' (show RD.fin ⟨rest, 0⟩ = 2 by unfold RD.fin; rw [if_pos ⟨rfl, hl⟩])
      unfold rdV
      simp only at hr ⊢
      go_enter Tryz.func47, Tryz.ntmps47
      go_wp2
      go_ret
      exact ⟨ret_eq (by rw [HR.out]; rfl), by go_grown⟩
    · have HR := Lib.hid' (show RD.fin ⟨rest, 0⟩ = 0 by unfold RD.fin; rw [if_neg (fun h => hl h.2)])
      have hl0 : ¬ (0 : Int) < (rest.length : Int) := by omega
      unfold rdV
      simp only at hr ⊢
      go_enter Tryz.func47, Tryz.ntmps47
      go_wp2
      go_ret
      exact ⟨ret_eq (by rw [HR.out]; rfl), by go_grown⟩
  · have HR := Lib.hid' (show RD.fin ⟨rest, bad⟩ = bad by unfold RD.fin; rw [if_neg (fun h => hb h.1)])
    have hbb : ((bad : Int) == 0) = false := by rw [beq_eq_false_iff_ne]; omega
    clear hb
    unfold rdV
    simp only at hr ⊢
    go_enter Tryz.func47, Tryz.ntmps47
    go_wp2
    go_ret
    exact ⟨ret_eq (by rw [HR.out]; rfl), by go_grown⟩
/-- what is left is told of an elder world: so it outlives rows that the caller lays -/
def RNum01R (p : Nat × RD) (w0 w : World) (e : Ending) (w' : World) : Prop :=
  ∃ a c, e = .returned (.tuple #[.int .u64 (p.1 : Nat), rdV p.2 a c]) ∧ Bytes w0 (.slice a p.2.rest.length c) p.2.rest ∧ Below w.heap.size w w'
set_option maxHeartbeats 2000000 in
theorem rnum01_any (r : RD) (a : Option Addr) (c : Nat) (w0 w : World) (h : Bytes w0 (.slice a r.rest.length c) r.rest) (hb0 : Below w0.heap.size w0 w) :
    Calls Tryz.prog 45 #[rdV r a c] w (RNum01R r.num w0 w) := by
  have HD0 := Lib.hid' h
  have HD := Lib.hid' (show Bytes w (.slice a r.rest.length c) r.rest from SlV.below h (Nat.le_refl _) hb0)
  have hbl := bytes_len h
  have hcap : r.rest.length ≤ c ∧ c ≤ maxLen := by obtain ⟨_, _, he, h1, h2, _⟩ := h; cases he; exact ⟨h1, h2⟩
  clear h
  obtain ⟨rest, bad⟩ := r
  simp only at hbl hcap
  clear hb0
  by_cases hb : bad = 0
  rotate_left
  · have HR := Lib.hid' (show RD.num ⟨rest, bad⟩ = (0, ⟨rest, bad⟩) from RD.num_bad hb)
    have hbb : ((bad : Int) != 0) = true := by rw [bne_iff_ne]; omega
    clear hb
    unfold rdV
    simp only at HD HD0 ⊢
    go_enter Tryz.func45, Tryz.ntmps45
    go_wp2_with fail
    go_region
    all_goals
      go_wp2
      refine bodyPost_ret (v := .tuple #[.int .u64 0, .agg #[.slice a rest.length c, .int .i64 (bad : Nat)]]) (by simp [results, Tryz.results45, go_sem]) rfl ?_
      rw [HR.out]
      exact ⟨a, c, rfl, HD0.out, by go_grown⟩
  subst hb
  have hT := fun wq => rtake01_any rest a c wq
  cases hv : vtake rest with
  | none =>
    rw [hv] at hT
    simp only [RTake01] at hT
    have HT := Lib.hid' hT
    have HR := Lib.hid' (show RD.num ⟨rest, 0⟩ = (0, ⟨rest, 2⟩) by unfold RD.num; simp only [ne_eq, not_true_eq_false, if_false]; rw [hv])
    have HF := Lib.hid' (fun wq => rfail01_any ⟨rest, 0⟩ a c 2 hbl wq)
    have HFE := Lib.hid' (show rdV (RD.fail ⟨rest, 0⟩ 2) a c = .agg #[.slice a rest.length c, .int .i64 2] by unfold RD.fail rdV; simp)
    clear hv hT
    unfold rdV
    simp only at HD HD0 ⊢
    go_enter Tryz.func45, Tryz.ntmps45
    go_wp2_with fail
    refine (HT.out _ (SlV.below HD.out (Nat.le_refl _) (by go_grown))).mono ?_
    rintro e w2 ⟨rfl, hb2⟩
    have HB2 := Lib.hid' (show Below w.heap.size w w2 from below_call (by go_grown) (by simp; omega) hb2)
    have d0 := ((bcell hb2).1 w.heap.size 0 (by simp)).trans (show _ = some (.slice a rest.length c) by simp [go_sem])
    have d1 := ((bcell hb2).1 w.heap.size 1 (by simp)).trans (show _ = some (.int .i64 0) by simp [go_sem])
    have e0 := ((bcell hb2).1 (w.heap.size + 1) 0 (by simp)).trans (show _ = some (.slice none 0 0) by simp [go_sem])
    have e1 := ((bcell hb2).1 (w.heap.size + 1) 1 (by simp)).trans (show _ = some (.int .i64 0) by simp [go_sem])
    have f0 := ((bcell hb2).2 (w.heap.size + 1) 0 (by simp)).trans (show _ = false by simp [go_sem])
    have f1 := ((bcell hb2).2 (w.heap.size + 1) 1 (by simp)).trans (show _ = false by simp [go_sem])
    have hz2 : w.heap.size + 1 < w2.heap.size := by have := hb2.size; simp at this; omega
    have hz20 : w.heap.size < w2.heap.size := by omega
    clear hb2
    go_wp2_with fail
    have hf := HF.out w2
    rw [HFE.out] at hf
    refine hf.mono ?_
    clear hf
    rintro e w3 ⟨rfl, hb3⟩
    have HB3 := Lib.hid' (HB2.out.trans (hb3.mono (by omega)))
    have g0 := (hb3.cell (p := ⟨w.heap.size + 1, 0, none⟩) hz2).trans e0
    have g1 := (hb3.cell (p := ⟨w.heap.size + 1, 1, none⟩) hz2).trans e1
    have k0 := (hb3.frozen (p := ⟨w.heap.size + 1, 0, none⟩) hz2).trans f0
    have k1 := (hb3.frozen (p := ⟨w.heap.size + 1, 1, none⟩) hz2).trans f1
    have HRET := Lib.hid' (show RNum01R (RD.num ⟨rest, 0⟩) w0 w (.returned (.tuple #[.int .u64 0, .agg #[.slice a rest.length c, .int .i64 2]])) ((w3.setCell ⟨w.heap.size + 1, 0, none⟩ (.slice a rest.length c)).setCell ⟨w.heap.size + 1, 1, none⟩ (.int .i64 2)) from by
      rw [HR.out]
      have hbw : Below w.heap.size w ((w3.setCell ⟨w.heap.size + 1, 0, none⟩ (.slice a rest.length c)).setCell ⟨w.heap.size + 1, 1, none⟩ (.int .i64 2)) := (HB3.out.setCell (by simp) _).setCell (by simp) _
      exact ⟨a, c, rfl, HD0.out, hbw⟩)
    clear hb3 e0 e1 f0 f1 d0 d1
    go_wp2
    refine bodyPost_ret (v := .tuple #[.int .u64 0, .agg #[.slice a rest.length c, .int .i64 2]]) (by simp [results, Tryz.results45, go_sem, g0, g1]) rfl HRET.out
  | some q =>
    obtain ⟨n, k⟩ := q
    rw [hv] at hT
    simp only [RTake01] at hT
    have HT := Lib.hid' hT
    have HR := Lib.hid' (show RD.num ⟨rest, 0⟩ = (n, ⟨rest.drop k, 0⟩) by unfold RD.num; simp only [ne_eq, not_true_eq_false, if_false]; rw [hv])
    obtain ⟨_, hn, hk10, hkl, hk0⟩ := vtake_some hv
    obtain ⟨bb, off, rfl, hq1, hq2⟩ := bytes_at (l := rest) HD.out (show 0 < rest.length by omega)
    have HLD := Lib.hid' (List.length_drop (i := k) (l := rest))
    clear hq1 hq2 hv hT
    have hcm : c ≤ 9223372036854775807 := by have := hcap.2; unfold maxLen at this; omega
    unfold rdV
    simp only at HD HD0 ⊢
    go_enter Tryz.func45, Tryz.ntmps45
    go_wp2_with fail
    refine (HT.out _ (SlV.below HD.out (Nat.le_refl _) (by go_grown))).mono ?_
    rintro e w2 ⟨rfl, hb2⟩
    have HB2 := Lib.hid' (show Below w.heap.size w w2 from below_call (by go_grown) (by simp; omega) hb2)
    have HX2 := Lib.hid' (show BoxW w.heap.size [.slice (some ⟨bb, off, none⟩) rest.length c, .int .i64 0] 95 w2 from by
      have h1 := (BoxW.start w [.slice (some ⟨bb, off, none⟩) rest.length c, .int .i64 0] 95).below (Nat.le_refl _) (show Below (w.alloc (.cells #[.slice (some ⟨bb, off, none⟩) rest.length c, .int .i64 0] 95)).heap.size (w.alloc (.cells #[.slice (some ⟨bb, off, none⟩) rest.length c, .int .i64 0] 95)) _ from (by go_grown : Below _ _ ((w.alloc (.cells #[.slice (some ⟨bb, off, none⟩) rest.length c, .int .i64 0] 95)).alloc (.cells #[.slice none 0 0, .int .i64 0] 95))))
      exact h1.below (Nat.le_refl _) hb2)
    have HZ2 := Lib.hid' (show BoxW (w.heap.size + 1) [.slice none 0 0, .int .i64 0] 95 w2 from by
      have h1 := BoxW.start (w.alloc (.cells #[.slice (some ⟨bb, off, none⟩) rest.length c, .int .i64 0] 95)) [.slice none 0 0, .int .i64 0] 95
      rw [show (w.alloc (.cells #[.slice (some ⟨bb, off, none⟩) rest.length c, .int .i64 0] 95)).heap.size = w.heap.size + 1 by simp] at h1
      exact h1.below (Nat.le_refl _) hb2)
    clear hb2
    have d0 := HX2.out.box.1 0 _ rfl
    have d1 := HX2.out.box.1 1 _ rfl
    have df := HX2.out.box.2.1 0
    have hz := HX2.out.lt
    have hkc : k ≤ c := by omega
    by_cases hkc2 : c = k
    · have HS := Lib.hid' (show Bytes w0 (.slice (some ⟨bb, off, none⟩) (rest.drop k).length (c - k)) (rest.drop k) from bytes_sub HD0.out hkl _ (.inr (by omega)) (by simp))
      have hs0 := HS.out
      rw [HLD.out, show rest.length - k = 0 by omega, show c - k = 0 by omega] at hs0
      have HS0 := Lib.hid' hs0
      have HL0 := Lib.hid' (show (rest.drop k).length = 0 by rw [HLD.out]; omega)
      clear hs0 HS
      subst hkc2
      obtain rfl : c = rest.length := by omega
      go_wp2_with fail
      have HX3 := Lib.hid' (HX2.out.set 0 (.slice (some ⟨bb, off, none⟩) 0 0))
      have HZ3 := Lib.hid' (HZ2.out.fr (fr_set w2 w.heap.size 0 (.slice (some ⟨bb, off, none⟩) 0 0)) (by omega))
      have HB3 := Lib.hid' (show Below w.heap.size w (w2.setCell ⟨w.heap.size, 0, none⟩ (.slice (some ⟨bb, off, none⟩) 0 0)) from HB2.out.setCell (by simp) _)
      clear d0 d1 df hz HX2 HZ2 HB2
      generalize w2.setCell ⟨w.heap.size, 0, none⟩ (.slice (some ⟨bb, off, none⟩) 0 0) = w3 at *
      have d0 := HX3.out.box.1 0 _ rfl
      have d1 := HX3.out.box.1 1 _ rfl
      have hz := HX3.out.lt
      have e0 := HZ3.out.box.1 0 _ rfl
      have e1 := HZ3.out.box.1 1 _ rfl
      have f0 := HZ3.out.box.2.1 0
      have f1 := HZ3.out.box.2.1 1
      have hzz := HZ3.out.lt
      go_region
      all_goals
        have HRET := Lib.hid' (show ∀ wq, Below w.heap.size w wq → RNum01R (RD.num ⟨rest, 0⟩) w0 w (.returned (.tuple #[.int .u64 (n : Int), .agg #[.slice (some ⟨bb, off, none⟩) 0 0, .int .i64 0]])) wq from fun wq hq => by
          rw [HR.out]
          refine ⟨some ⟨bb, off, none⟩, 0, ?_, ?_, hq⟩
          · unfold rdV; simp only [HL0.out]; rfl
          · simp only [HL0.out]; exact HS0.out)
        go_wp2
        refine bodyPost_ret (v := .tuple #[.int .u64 (n : Int), .agg #[.slice (some ⟨bb, off, none⟩) 0 0, .int .i64 0]]) (by simp [results, Tryz.results45, go_sem, e0, e1]) rfl (HRET.out _ ?_)
        first | exact HB3.out | exact (HB3.out.setCell (by simp) _) | exact ((HB3.out.setCell (by simp) _).setCell (by simp) _) | exact ((HB3.out.drew.setCell (by simp) _).setCell (by simp) _)
    · have hlt : k < c := by omega
      have HS := Lib.hid' (show Bytes w0 (.slice (some ⟨bb, off + k, none⟩) (rest.drop k).length (c - k)) (rest.drop k) from bytes_sub HD0.out hkl _ (.inl ⟨bb, off, rfl, rfl⟩) (by simp))
      clear hkc2
      go_wp2_with fail
      have HX3 := Lib.hid' (HX2.out.set 0 (.slice (some ⟨bb, off + k, none⟩) (rest.length - k) (c - k)))
      have HZ3 := Lib.hid' (HZ2.out.fr (fr_set w2 w.heap.size 0 (.slice (some ⟨bb, off + k, none⟩) (rest.length - k) (c - k))) (by omega))
      have HB3 := Lib.hid' (show Below w.heap.size w (w2.setCell ⟨w.heap.size, 0, none⟩ (.slice (some ⟨bb, off + k, none⟩) (rest.length - k) (c - k))) from HB2.out.setCell (by simp) _)
      clear d0 d1 df hz HX2 HZ2 HB2
      generalize w2.setCell ⟨w.heap.size, 0, none⟩ (.slice (some ⟨bb, off + k, none⟩) (rest.length - k) (c - k)) = w3 at *
      have d0 := HX3.out.box.1 0 _ rfl
      have d1 := HX3.out.box.1 1 _ rfl
      have hz := HX3.out.lt
      have e0 := HZ3.out.box.1 0 _ rfl
      have e1 := HZ3.out.box.1 1 _ rfl
      have f0 := HZ3.out.box.2.1 0
      have f1 := HZ3.out.box.2.1 1
      have hzz := HZ3.out.lt
      go_region
      all_goals
        have HRET := Lib.hid' (show ∀ wq, Below w.heap.size w wq → RNum01R (RD.num ⟨rest, 0⟩) w0 w (.returned (.tuple #[.int .u64 (n : Int), .agg #[.slice (some ⟨bb, off + k, none⟩) (rest.length - k) (c - k), .int .i64 0]])) wq from fun wq hq => by
          rw [HR.out]
          refine ⟨some ⟨bb, off + k, none⟩, c - k, ?_, HS.out, hq⟩
          unfold rdV; simp only [HLD.out]; rfl)
        go_wp2
        refine bodyPost_ret (v := .tuple #[.int .u64 (n : Int), .agg #[.slice (some ⟨bb, off + k, none⟩) (rest.length - k) (c - k), .int .i64 0]]) (by simp [results, Tryz.results45, go_sem, e0, e1]) rfl (HRET.out _ ?_)
        first | exact HB3.out | exact (HB3.out.setCell (by simp) _) | exact ((HB3.out.setCell (by simp) _).setCell (by simp) _) | exact ((HB3.out.drew.setCell (by simp) _).setCell (by simp) _)
end Go.Proofs.YtkljeefncopodaaGreat

namespace Go.Proofs.YtkljeefncopodaaGreat
open Go.RowKit
set_option linter.unusedSimpArgs false
set_option linter.unusedVariables false
set_option maxRecDepth 100000

def RInt01R (p : Nat × RD) (w0 w : World) (e : Ending) (w' : World) : Prop :=
  ∃ a c, e = .returned (.tuple #[.int .i64 (p.1 : Nat), rdV p.2 a c]) ∧ Bytes w0 (.slice a p.2.rest.length c) p.2.rest ∧ Below w.heap.size w w'
set_option maxHeartbeats 2000000 in
theorem rwithin01_any (r : RD) (a : Option Addr) (c most : Nat) (hm : most ≤ 4611686018427387904) (w0 w : World) (h : Bytes w0 (.slice a r.rest.length c) r.rest) (hb0 : Below w0.heap.size w0 w) :
    Calls Tryz.prog 44 #[rdV r a c, .int .u64 (most : Nat)] w (RInt01R (r.within most) w0 w) := by
  have HD := Lib.hid' h
  have hbl := bytes_len h
  have HNU := Lib.hid' (fun wq hq => rnum01_any r a c w0 wq h hq)
  have HB0 := Lib.hid' hb0
  have hlt := RD.num_lt r
  have hnl := RD.num_len r
  clear h hb0
  obtain ⟨p, hp⟩ : ∃ p, p = r.within most := ⟨_, rfl⟩
  have HP := Lib.hid' hp
  rw [← hp]
  have HV := Lib.hid' (show rdV r a c = .agg #[.slice a r.rest.length c, .int .i64 (r.bad : Nat)] from rfl)
  rw [HV.out]
  clear hp
  go_enter Tryz.func44, Tryz.ntmps44
  go_wp2_with fail
  have HX1 := Lib.hid' (show BoxW w.heap.size [.slice a r.rest.length c, .int .i64 (r.bad : Nat)] 95 ((w.alloc (.cells #[.slice a r.rest.length c, .int .i64 (r.bad : Nat)] 95)).alloc (.cells #[.slice none 0 0, .int .i64 0] 95)) from
    (BoxW.start w [.slice a r.rest.length c, .int .i64 (r.bad : Nat)] 95).below (Nat.le_refl _) (show Below (w.alloc (.cells #[.slice a r.rest.length c, .int .i64 (r.bad : Nat)] 95)).heap.size _ _ by go_grown))
  have HZ1 := Lib.hid' (show BoxW (w.heap.size + 1) [.slice none 0 0, .int .i64 0] 95 ((w.alloc (.cells #[.slice a r.rest.length c, .int .i64 (r.bad : Nat)] 95)).alloc (.cells #[.slice none 0 0, .int .i64 0] 95)) from by
    have h1 := BoxW.start (w.alloc (.cells #[.slice a r.rest.length c, .int .i64 (r.bad : Nat)] 95)) [.slice none 0 0, .int .i64 0] 95
    rwa [show (w.alloc (.cells #[.slice a r.rest.length c, .int .i64 (r.bad : Nat)] 95)).heap.size = w.heap.size + 1 by simp] at h1)
  have HB1 := Lib.hid' (show Below w.heap.size w ((w.alloc (.cells #[.slice a r.rest.length c, .int .i64 (r.bad : Nat)] 95)).alloc (.cells #[.slice none 0 0, .int .i64 0] 95)) by go_grown)
  generalize ((w.alloc (.cells #[.slice a r.rest.length c, .int .i64 (r.bad : Nat)] 95)).alloc (.cells #[.slice none 0 0, .int .i64 0] 95)) = w1 at *
  obtain ⟨n, hn⟩ : ∃ n, n = r.num.1 := ⟨_, rfl⟩
  obtain ⟨s, hs⟩ : ∃ s, s = r.num.2 := ⟨_, rfl⟩
  have HQ := Lib.hid' (show r.within most = if most < n ∨ 4611686018427387904 < n then (0, s.fail 1) else (n, s) by rw [hn, hs]; rfl)
  have hnu := HNU.out w1 (HB0.out.trans (HB1.out.mono HB0.out.size))
  unfold RNum01R at hnu
  rw [← hn, ← hs] at hnu
  rw [← hn] at hlt
  rw [← hs] at hnl
  clear hn hs HNU
  refine hnu.mono ?_
  clear hnu
  rintro e w2 ⟨a2, c2, rfl, hy2, hb2⟩
  have HY2 := Lib.hid' hy2
  have HX2 := Lib.hid' (HX1.out.below (Nat.le_refl _) hb2)
  have HZ2 := Lib.hid' (HZ1.out.below (Nat.le_refl _) hb2)
  have HB2 := Lib.hid' (HB1.out.trans (hb2.mono HB1.out.size))
  clear hy2 hb2 HX1 HZ1 HB1
  unfold rdV
  have d0 := HX2.out.box.1 0 _ rfl
  have d1 := HX2.out.box.1 1 _ rfl
  have df0 := HX2.out.box.2.1 0
  have df1 := HX2.out.box.2.1 1
  have hz := HX2.out.lt
  go_upto_region 2 with fail
  have HX3 := Lib.hid' (BoxW.set2 (a' := .slice a2 s.rest.length c2) (b' := .int .i64 (s.bad : Nat)) HX2.out)
  have hfr : Fr (fun q => q = w.heap.size) w2 ((w2.setCell ⟨w.heap.size, 0, none⟩ (.slice a2 s.rest.length c2)).setCell ⟨w.heap.size, 1, none⟩ (.int .i64 (s.bad : Nat))) := (fr_set _ _ _ _).trans (fr_set _ _ _ _) (fun i hi => .inl hi)
  have HZ3 := Lib.hid' (HZ2.out.fr hfr (by omega))
  have HY3 := HY2
  have HB3 := Lib.hid' (HB2.out.trans (hfr.below HB2.out.size (fun q hq => by omega)))
  clear hfr d0 d1 df0 df1 hz HX2 HZ2 HB2 HY2
  generalize ((w2.setCell ⟨w.heap.size, 0, none⟩ (.slice a2 s.rest.length c2)).setCell ⟨w.heap.size, 1, none⟩ (.int .i64 (s.bad : Nat))) = w3 at *
  have d0 := HX3.out.box.1 0 _ rfl
  have d1 := HX3.out.box.1 1 _ rfl
  have hz := HX3.out.lt
  have e0 := HZ3.out.box.1 0 _ rfl
  have e1 := HZ3.out.box.1 1 _ rfl
  have f0 := HZ3.out.box.2.1 0
  have f1 := HZ3.out.box.2.1 1
  have hzz := HZ3.out.lt
  by_cases hq : most < n ∨ 4611686018427387904 < n
  · have HPE := Lib.hid' (show p = (0, s.fail 1) by rw [HP.out, HQ.out, if_pos hq])
    have h1 : most < n := by omega
    clear hq
    have HFA := Lib.hid' (fun wq => rfail01_any s a2 c2 1 (by omega) wq)
    have HFR := Lib.hid' (show (s.fail 1).rest = s.rest by unfold RD.fail; split <;> rfl)
    go_wp2_with fail
    refine (HFA.out w3).mono ?_
    rintro e w4 ⟨rfl, hb4⟩
    have HB4 := Lib.hid' (HB3.out.trans (hb4.mono (by omega)))
    have g0 := (hb4.cell (p := ⟨w.heap.size + 1, 0, none⟩) hzz).trans e0
    have g1 := (hb4.cell (p := ⟨w.heap.size + 1, 1, none⟩) hzz).trans e1
    have k0 := (hb4.frozen (p := ⟨w.heap.size + 1, 0, none⟩) hzz).trans f0
    have k1 := (hb4.frozen (p := ⟨w.heap.size + 1, 1, none⟩) hzz).trans f1
    have HY4 := HY3
    have HZ4 := Lib.hid' (HZ3.out.below (Nat.le_refl _) hb4)
    clear hb4
    obtain ⟨s1, hs1⟩ : ∃ s1, s1 = s.fail 1 := ⟨_, rfl⟩
    have HRET := Lib.hid' (show RInt01R p w0 w (.returned (.tuple #[.int .i64 0, .agg #[.slice a2 s1.rest.length c2, .int .i64 (s1.bad : Nat)]])) ((w4.setCell ⟨w.heap.size + 1, 0, none⟩ (.slice a2 s1.rest.length c2)).setCell ⟨w.heap.size + 1, 1, none⟩ (.int .i64 (s1.bad : Nat))) from by
      rw [HPE.out, ← hs1]
      refine ⟨a2, c2, rfl, ?_, (HB4.out.setCell (by simp) _).setCell (by simp) _⟩
      have hfr : Fr (fun q => q = w.heap.size + 1) w4 ((w4.setCell ⟨w.heap.size + 1, 0, none⟩ (.slice a2 s1.rest.length c2)).setCell ⟨w.heap.size + 1, 1, none⟩ (.int .i64 (s1.bad : Nat))) := (fr_set _ _ _ _).trans (fr_set _ _ _ _) (fun i hi => .inl hi)
      have h5 := HY4.out
      rw [← HFR.out, ← hs1] at h5
      exact h5)
    rw [← hs1]
    clear hs1
    unfold rdV
    go_wp2
    refine bodyPost_ret (v := .tuple #[.int .i64 0, .agg #[.slice a2 s1.rest.length c2, .int .i64 (s1.bad : Nat)]]) (by simp [results, Tryz.results44, go_sem, g0, g1]) rfl HRET.out
  · have HPE := Lib.hid' (show p = (n, s) by rw [HP.out, HQ.out, if_neg hq])
    have h1 : ¬ most < n := by omega
    have h2 : ¬ 4611686018427387904 < n := by omega
    clear hq
    have HRET := Lib.hid' (show ∀ wq, Below w.heap.size w wq → Bytes w0 (.slice a2 s.rest.length c2) s.rest → RInt01R p w0 w (.returned (.tuple #[.int .i64 (n : Int), .agg #[.slice a2 s.rest.length c2, .int .i64 (s.bad : Nat)]])) wq from fun wq hb hy => by
      rw [HPE.out]; exact ⟨a2, c2, rfl, hy, hb⟩)
    have hfr : ∀ x y, Fr (fun q => q = w.heap.size + 1) w3 ((w3.setCell ⟨w.heap.size + 1, 0, none⟩ x).setCell ⟨w.heap.size + 1, 1, none⟩ y) := fun x y => (fr_set _ _ _ _).trans (fr_set _ _ _ _) (fun i hi => .inl hi)
    have hfr2 : ∀ x y, Fr (fun q => q = w.heap.size + 1) w3 ((w3.drew.setCell ⟨w.heap.size + 1, 0, none⟩ x).setCell ⟨w.heap.size + 1, 1, none⟩ y) := fun x y => (Fr.of_below (Below.drew (Below.refl _ w3))).trans ((fr_set _ _ _ _).trans (fr_set _ _ _ _) (fun i hi => .inl hi)) (fun i hi => .inl hi)
    have HFR := Lib.hid' hfr
    have HFR2 := Lib.hid' hfr2
    clear hfr hfr2
    go_wp2_with fail
    go_region
    all_goals
      go_wp2
      refine bodyPost_ret (v := .tuple #[.int .i64 (n : Int), .agg #[.slice a2 s.rest.length c2, .int .i64 (s.bad : Nat)]]) (by simp [results, Tryz.results44, go_sem, e0, e1]) rfl ?_
      first
        | exact HRET.out _ ((HB3.out.setCell (by simp) _).setCell (by simp) _) HY3.out
        | exact HRET.out _ ((HB3.out.drew.setCell (by simp) _).setCell (by simp) _) HY3.out
set_option maxHeartbeats 2000000 in
theorem rcount01_any (r : RD) (a : Option Addr) (c most : Nat) (hm : most ≤ 4611686018427387904) (w0 w : World) (h : Bytes w0 (.slice a r.rest.length c) r.rest) (hb0 : Below w0.heap.size w0 w) :
    Calls Tryz.prog 110 #[rdV r a c, .int .i64 (most : Nat)] w (RInt01R (r.count most) w0 w) := by
  have HD := Lib.hid' h
  have hbl := bytes_len h
  have HNU := Lib.hid' (fun wq hq => rnum01_any r a c w0 wq h hq)
  have HB0 := Lib.hid' hb0
  have hlt := RD.num_lt r
  have hnl := RD.num_len r
  clear h hb0
  obtain ⟨p, hp⟩ : ∃ p, p = r.count most := ⟨_, rfl⟩
  have HP := Lib.hid' hp
  rw [← hp]
  have HV := Lib.hid' (show rdV r a c = .agg #[.slice a r.rest.length c, .int .i64 (r.bad : Nat)] from rfl)
  rw [HV.out]
  clear hp
  go_enter Tryz.func110, Tryz.ntmps110
  go_wp2_with fail
  have HX1 := Lib.hid' (show BoxW w.heap.size [.slice a r.rest.length c, .int .i64 (r.bad : Nat)] 95 ((w.alloc (.cells #[.slice a r.rest.length c, .int .i64 (r.bad : Nat)] 95)).alloc (.cells #[.slice none 0 0, .int .i64 0] 95)) from
    (BoxW.start w [.slice a r.rest.length c, .int .i64 (r.bad : Nat)] 95).below (Nat.le_refl _) (show Below (w.alloc (.cells #[.slice a r.rest.length c, .int .i64 (r.bad : Nat)] 95)).heap.size _ _ by go_grown))
  have HZ1 := Lib.hid' (show BoxW (w.heap.size + 1) [.slice none 0 0, .int .i64 0] 95 ((w.alloc (.cells #[.slice a r.rest.length c, .int .i64 (r.bad : Nat)] 95)).alloc (.cells #[.slice none 0 0, .int .i64 0] 95)) from by
    have h1 := BoxW.start (w.alloc (.cells #[.slice a r.rest.length c, .int .i64 (r.bad : Nat)] 95)) [.slice none 0 0, .int .i64 0] 95
    rwa [show (w.alloc (.cells #[.slice a r.rest.length c, .int .i64 (r.bad : Nat)] 95)).heap.size = w.heap.size + 1 by simp] at h1)
  have HB1 := Lib.hid' (show Below w.heap.size w ((w.alloc (.cells #[.slice a r.rest.length c, .int .i64 (r.bad : Nat)] 95)).alloc (.cells #[.slice none 0 0, .int .i64 0] 95)) by go_grown)
  generalize ((w.alloc (.cells #[.slice a r.rest.length c, .int .i64 (r.bad : Nat)] 95)).alloc (.cells #[.slice none 0 0, .int .i64 0] 95)) = w1 at *
  obtain ⟨n, hn⟩ : ∃ n, n = r.num.1 := ⟨_, rfl⟩
  obtain ⟨s, hs⟩ : ∃ s, s = r.num.2 := ⟨_, rfl⟩
  have HQ := Lib.hid' (show r.count most = if s.bad ≠ 0 then (0, s) else if most < n then (0, s.fail 3) else (n, s) by rw [hn, hs]; rfl)
  have hnu := HNU.out w1 (HB0.out.trans (HB1.out.mono HB0.out.size))
  unfold RNum01R at hnu
  rw [← hn, ← hs] at hnu
  rw [← hn] at hlt
  rw [← hs] at hnl
  clear hn hs HNU
  refine hnu.mono ?_
  clear hnu
  rintro e w2 ⟨a2, c2, rfl, hy2, hb2⟩
  have HY2 := Lib.hid' hy2
  have HX2 := Lib.hid' (HX1.out.below (Nat.le_refl _) hb2)
  have HZ2 := Lib.hid' (HZ1.out.below (Nat.le_refl _) hb2)
  have HB2 := Lib.hid' (HB1.out.trans (hb2.mono HB1.out.size))
  clear hy2 hb2 HX1 HZ1 HB1
  unfold rdV
  have d0 := HX2.out.box.1 0 _ rfl
  have d1 := HX2.out.box.1 1 _ rfl
  have df0 := HX2.out.box.2.1 0
  have df1 := HX2.out.box.2.1 1
  have hz := HX2.out.lt
  go_upto_region 2 with fail
  have HX3 := Lib.hid' (BoxW.set2 (a' := .slice a2 s.rest.length c2) (b' := .int .i64 (s.bad : Nat)) HX2.out)
  have hfr : Fr (fun q => q = w.heap.size) w2 ((w2.setCell ⟨w.heap.size, 0, none⟩ (.slice a2 s.rest.length c2)).setCell ⟨w.heap.size, 1, none⟩ (.int .i64 (s.bad : Nat))) := (fr_set _ _ _ _).trans (fr_set _ _ _ _) (fun i hi => .inl hi)
  have HZ3 := Lib.hid' (HZ2.out.fr hfr (by omega))
  have HY3 := HY2
  have HB3 := Lib.hid' (HB2.out.trans (hfr.below HB2.out.size (fun q hq => by omega)))
  clear hfr d0 d1 df0 df1 hz HX2 HZ2 HB2 HY2
  generalize ((w2.setCell ⟨w.heap.size, 0, none⟩ (.slice a2 s.rest.length c2)).setCell ⟨w.heap.size, 1, none⟩ (.int .i64 (s.bad : Nat))) = w3 at *
  have d0 := HX3.out.box.1 0 _ rfl
  have d1 := HX3.out.box.1 1 _ rfl
  have hz := HX3.out.lt
  have e0 := HZ3.out.box.1 0 _ rfl
  have e1 := HZ3.out.box.1 1 _ rfl
  have f0 := HZ3.out.box.2.1 0
  have f1 := HZ3.out.box.2.1 1
  have hzz := HZ3.out.lt
  by_cases hsb : s.bad = 0
  rotate_left
  · have HPE := Lib.hid' (show p = (0, s) by rw [HP.out, HQ.out, if_pos hsb])
    have hbb : ((s.bad : Int) != 0) = true := by rw [bne_iff_ne]; omega
    clear hsb
    have HRET := Lib.hid' (show ∀ wq, Below w.heap.size w wq → Bytes w0 (.slice a2 s.rest.length c2) s.rest → RInt01R p w0 w (.returned (.tuple #[.int .i64 0, .agg #[.slice a2 s.rest.length c2, .int .i64 (s.bad : Nat)]])) wq from fun wq hb hy => by
      rw [HPE.out]; exact ⟨a2, c2, rfl, hy, hb⟩)
    have hfr : ∀ x y, Fr (fun q => q = w.heap.size + 1) w3 ((w3.setCell ⟨w.heap.size + 1, 0, none⟩ x).setCell ⟨w.heap.size + 1, 1, none⟩ y) := fun x y => (fr_set _ _ _ _).trans (fr_set _ _ _ _) (fun i hi => .inl hi)
    have hfr2 : ∀ x y, Fr (fun q => q = w.heap.size + 1) w3 ((w3.drew.setCell ⟨w.heap.size + 1, 0, none⟩ x).setCell ⟨w.heap.size + 1, 1, none⟩ y) := fun x y => (Fr.of_below (Below.drew (Below.refl _ w3))).trans ((fr_set _ _ _ _).trans (fr_set _ _ _ _) (fun i hi => .inl hi)) (fun i hi => .inl hi)
    have HFR := Lib.hid' hfr
    have HFR2 := Lib.hid' hfr2
    clear hfr hfr2
    go_wp2_with fail
    go_region
    all_goals
      go_wp2
      refine bodyPost_ret (v := .tuple #[.int .i64 0, .agg #[.slice a2 s.rest.length c2, .int .i64 (s.bad : Nat)]]) (by simp [results, Tryz.results110, go_sem, e0, e1]) rfl ?_
      first
        | exact HRET.out _ ((HB3.out.setCell (by simp) _).setCell (by simp) _) HY3.out
        | exact HRET.out _ ((HB3.out.drew.setCell (by simp) _).setCell (by simp) _) HY3.out
  have hbb : ((s.bad : Int) != 0) = false := by rw [bne_eq_false_iff_eq]; omega
  by_cases h1 : most < n
  · have HPE := Lib.hid' (show p = (0, s.fail 3) by rw [HP.out, HQ.out, if_neg (by simpa using hsb), if_pos h1])
    clear hsb
    have HFA := Lib.hid' (fun wq => rfail01_any s a2 c2 3 (by omega) wq)
    have HFR := Lib.hid' (show (s.fail 3).rest = s.rest by unfold RD.fail; split <;> rfl)
    go_wp2_with fail
    refine (HFA.out w3).mono ?_
    rintro e w4 ⟨rfl, hb4⟩
    have HB4 := Lib.hid' (HB3.out.trans (hb4.mono (by omega)))
    have g0 := (hb4.cell (p := ⟨w.heap.size + 1, 0, none⟩) hzz).trans e0
    have g1 := (hb4.cell (p := ⟨w.heap.size + 1, 1, none⟩) hzz).trans e1
    have k0 := (hb4.frozen (p := ⟨w.heap.size + 1, 0, none⟩) hzz).trans f0
    have k1 := (hb4.frozen (p := ⟨w.heap.size + 1, 1, none⟩) hzz).trans f1
    have HY4 := HY3
    have HZ4 := Lib.hid' (HZ3.out.below (Nat.le_refl _) hb4)
    clear hb4
    obtain ⟨s1, hs1⟩ : ∃ s1, s1 = s.fail 3 := ⟨_, rfl⟩
    have HRET := Lib.hid' (show RInt01R p w0 w (.returned (.tuple #[.int .i64 0, .agg #[.slice a2 s1.rest.length c2, .int .i64 (s1.bad : Nat)]])) ((w4.setCell ⟨w.heap.size + 1, 0, none⟩ (.slice a2 s1.rest.length c2)).setCell ⟨w.heap.size + 1, 1, none⟩ (.int .i64 (s1.bad : Nat))) from by
      rw [HPE.out, ← hs1]
      refine ⟨a2, c2, rfl, ?_, (HB4.out.setCell (by simp) _).setCell (by simp) _⟩
      have hfr : Fr (fun q => q = w.heap.size + 1) w4 ((w4.setCell ⟨w.heap.size + 1, 0, none⟩ (.slice a2 s1.rest.length c2)).setCell ⟨w.heap.size + 1, 1, none⟩ (.int .i64 (s1.bad : Nat))) := (fr_set _ _ _ _).trans (fr_set _ _ _ _) (fun i hi => .inl hi)
      have h5 := HY4.out
      rw [← HFR.out, ← hs1] at h5
      exact h5)
    rw [← hs1]
    clear hs1
    unfold rdV
    go_wp2
    refine bodyPost_ret (v := .tuple #[.int .i64 0, .agg #[.slice a2 s1.rest.length c2, .int .i64 (s1.bad : Nat)]]) (by simp [results, Tryz.results110, go_sem, g0, g1]) rfl HRET.out
  · have HPE := Lib.hid' (show p = (n, s) by rw [HP.out, HQ.out, if_neg (by simpa using hsb), if_neg h1])
    clear hsb
    have HRET := Lib.hid' (show ∀ wq, Below w.heap.size w wq → Bytes w0 (.slice a2 s.rest.length c2) s.rest → RInt01R p w0 w (.returned (.tuple #[.int .i64 (n : Int), .agg #[.slice a2 s.rest.length c2, .int .i64 (s.bad : Nat)]])) wq from fun wq hb hy => by
      rw [HPE.out]; exact ⟨a2, c2, rfl, hy, hb⟩)
    have hfr : ∀ x y, Fr (fun q => q = w.heap.size + 1) w3 ((w3.setCell ⟨w.heap.size + 1, 0, none⟩ x).setCell ⟨w.heap.size + 1, 1, none⟩ y) := fun x y => (fr_set _ _ _ _).trans (fr_set _ _ _ _) (fun i hi => .inl hi)
    have hfr2 : ∀ x y, Fr (fun q => q = w.heap.size + 1) w3 ((w3.drew.setCell ⟨w.heap.size + 1, 0, none⟩ x).setCell ⟨w.heap.size + 1, 1, none⟩ y) := fun x y => (Fr.of_below (Below.drew (Below.refl _ w3))).trans ((fr_set _ _ _ _).trans (fr_set _ _ _ _) (fun i hi => .inl hi)) (fun i hi => .inl hi)
    have HFR := Lib.hid' hfr
    have HFR2 := Lib.hid' hfr2
    clear hfr hfr2
    go_wp2_with fail
    go_region
    all_goals
      go_wp2
      refine bodyPost_ret (v := .tuple #[.int .i64 (n : Int), .agg #[.slice a2 s.rest.length c2, .int .i64 (s.bad : Nat)]]) (by simp [results, Tryz.results110, go_sem, e0, e1]) rfl ?_
      first
        | exact HRET.out _ ((HB3.out.setCell (by simp) _).setCell (by simp) _) HY3.out
        | exact HRET.out _ ((HB3.out.drew.setCell (by simp) _).setCell (by simp) _) HY3.out
end Go.Proofs.YtkljeefncopodaaGreat
