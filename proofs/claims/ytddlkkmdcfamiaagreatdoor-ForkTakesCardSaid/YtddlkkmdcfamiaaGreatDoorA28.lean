/- Proved here: a part of the proof (28 of 34). -/
import Derived.Test.YtddlkkmdcfamiaaGreatDoorA3
import Derived.Test.YtddlkkmdcfamiaaGreatDoorA7
import Derived.Deep.DeepCutAuto
import Derived.Test.YtddlkkmdcfamiaaGreatDoorA5
import Derived.Test.YtddlkkmdcfamiaaGreatDoorA1
set_option linter.unusedSimpArgs false
set_option linter.unusedVariables false
set_option maxRecDepth 100000
namespace Go.Proofs.YtddlkkmdcfamiaaGreatDoor
open Go.RowKit

def RTake01 (r : Option (Nat × Nat)) : Value := match r with | none => .tuple #[.int .u64 0, .int .i64 0, .int .i64 2] | some (n, k) => .tuple #[.int .u64 (n : Nat), .int .i64 (k : Nat), .int .i64 0]
def vdm (b : List UInt8) (k i : Nat) : Nat := vv ((b.take (k + 1)).drop i) % 18446744073709551616
theorem vdm_end {b : List UInt8} {k : Nat} (hk : k < b.length) : vdm b k (k + 1) = 0 := by
 unfold vdm
 rw [List.drop_of_length_le (by rw [List.length_take]; omega)]; rfl
theorem vdm_zero (b : List UInt8) (k : Nat) : vdm b k 0 = vvm b k := rfl
theorem vdm_lt (b : List UInt8) (k i : Nat) : vdm b k i < 18446744073709551616 := Nat.mod_lt _ (by decide)
theorem vdm_next {b : List UInt8} {k p : Nat} (hp : p < k + 1) (hk : k < b.length) : vdm b k p = (vdm b k (p + 1) * 128 + b[p].toNat % 128) % 18446744073709551616 := by
 unfold vdm
 have hl : p < (b.take (k + 1)).length := by rw [List.length_take]; omega
 rw [List.drop_eq_getElem_cons hl]
 have e : (b.take (k + 1))[p] = b[p] := List.getElem_take
 rw [e]
 show (b[p].toNat % 128 + 128 * vv _) % _ = _
 omega
theorem wrap_step (n y : Nat) : IntKind.u64.wrap (IntKind.u64.wrap ((n : Int) * 128) + (y : Int) % 128) = (((n * 128 + y % 128) % 18446744073709551616 : Nat) : Int) := by
 have e : ∀ x : Int, IntKind.u64.wrap x = x % 18446744073709551616 := fun x => rfl
 rw [e, e]; omega
set_option maxHeartbeats 2000000 in
theorem rtake01_any (b : List UInt8) (a : Option Addr) (c : Nat) (w : World) (h : Bytes w (.slice a b.length c) b) :
  Calls Tryz.prog 103 #[.slice a b.length c] w fun e w' => e = .returned (RTake01 (vtake b)) ∧ Below w.heap.size w w' := by
 have HB := Lib.hid' h
 have hbl := bytes_len h
 have hcap : b.length ≤ c := by obtain ⟨_, _, he, h1, _⟩ := h; cases he; exact h1
 clear h
 obtain ⟨r, hr⟩ : ∃ r, r = vtake b := ⟨_, rfl⟩
 have HR := Lib.hid' hr
 rw [← hr]
 clear hr
 go_enter Tryz.func103, Tryz.ntmps103
 go_wp2_with fail
 go_loop [5] (fun v5 => ∃ k : Nat, v5 = .int .i64 ((k : Int) + 1) ∧ k ≤ 10 ∧ k ≤ b.length ∧ Hid (∀ y ∈ b.take k, 128 ≤ y.toNat)) (fun v5 => 11 - (intOf v5).toNat)
 case atStart => exact ⟨0, rfl, by omega, Nat.zero_le _, Zh (by simp)⟩
 case round =>
  obtain ⟨k, rfl, hk10, hkl, HY⟩ := hrel
  by_cases hend : k < 10 ∧ k < b.length
  rotate_left
  ·have HN := Zh (show r = none by
    rw [HR.out]
    refine vtake_long (fun y hy => ?_)
    by_cases h10 : k = 10
    ·subst h10; exact HY.out y hy
    ·have hkb : k = b.length := by omega
     subst hkb
     have := HY.out y (by rw [List.take_length]; exact List.mem_of_mem_take hy)
     exact this)
   rcases (show ¬ (k : Int) + 1 ≤ 10 ∨ ((k : Int) + 1 ≤ 10 ∧ ¬ (k : Int) + 1 ≤ b.length) by omega) with h1 | ⟨h1, h2⟩
   ·go_wp2
    refine bodyPost_ret (v := .tuple #[.int .u64 0, .int .i64 0, .int .i64 2]) (by simp [results, Tryz.results103, go_sem]) rfl ⟨by rw [HN.out]; rfl, Below.refl _ _⟩
   ·go_wp2
    refine bodyPost_ret (v := .tuple #[.int .u64 0, .int .i64 0, .int .i64 2]) (by simp [results, Tryz.results103, go_sem]) rfl ⟨by rw [HN.out]; rfl, Below.refl _ _⟩
  obtain ⟨hk1, hk2⟩ := hend
  have g1 : (k : Int) + 1 ≤ 10 := by omega
  have g2 : (k : Int) + 1 ≤ b.length := by omega
  obtain ⟨bb, off, rfl, hbb, hc⟩ := bytes_at (l := b) HB.out hk2
  have HNX := Zh (show b[k].toNat < 128 ∨ ∀ y ∈ b.take (k + 1), 128 ≤ y.toNat by
   by_cases hx : b[k].toNat < 128
   ·exact .inl hx
   ·right; rw [List.take_succ_eq_append_getElem hk2]; intro y hy
    rcases List.mem_append.1 hy with hy | hy
    ·exact HY.out y hy
    ·simp only [List.mem_singleton] at hy; subst hy; omega)
  by_cases hx : 128 ≤ b[k].toNat
  ·have HY2 := Zh (HNX.out.resolve_left (by omega))
   have hc' : w.cell? ⟨bb, off + k, none⟩ = some (.int .u8 (b[k].toNat : Int)) := hc
   generalize b[k].toNat = x at *
   go_wp2_with fail
   go_round
   case rel => exact ⟨k + 1, by go_num, by omega, by omega, HY2⟩
   case measure => simp [intOf]; omega
  have HX := Zh (show b[k].toNat < 128 by omega)
  have hc' : w.cell? ⟨bb, off + k, none⟩ = some (.int .u8 (b[k].toNat : Int)) := hc
  obtain ⟨x, hxx⟩ : ∃ x, x = b[k].toNat := ⟨_, rfl⟩
  rw [← hxx] at hc' hx
  clear hxx hc HNX
  go_wp2_with fail
  clear hc' hx
  go_loop [6, 7] (fun v6 v7 => ∃ i : Nat, v7 = .int .i64 ((i : Int) - 1) ∧ i ≤ k + 1 ∧ v6 = .int .u64 (vdm b k i : Nat)) (fun _ v7 => ((intOf v7) + 1).toNat)
  case atStart => exact ⟨k + 1, by go_num, Nat.le_refl _, by rw [vdm_end hk2]; rfl⟩
  case round =>
   obtain ⟨i, rfl, hi, rfl⟩ := hrel
   by_cases hi0 : i = 0
   rotate_left
   ·obtain ⟨p, rfl⟩ : ∃ p, i = p + 1 := ⟨i - 1, by omega⟩
    have hpb : p < b.length := by omega
    obtain ⟨b2, off2, he2, _, hc2⟩ := bytes_at (l := b) HB.out hpb
    simp only [Option.some.injEq, Addr.mk.injEq, and_true] at he2
    obtain ⟨rfl, rfl⟩ := he2
    have HV := Zh (vdm_next (b := b) (k := k) (p := p) (by omega) hk2)
    have hvl := vdm_lt b k (p + 1)
    have hc2' : w.cell? ⟨bb, off + p, none⟩ = some (.int .u8 (b[p].toNat : Int)) := hc2
    have hb8 := b[p].toNat_lt
    generalize vdm b k (p + 1) = n at *
    generalize b[p].toNat = y at *
    rw [show ((p + 1 : Nat) : Int) - 1 = (p : Int) by omega]
    go_wp2_with fail
    go_round
    case rel => exact ⟨p, by go_num, by omega, by rw [HV.out, wrap_step]⟩
    case measure => simp [intOf]
   ·subst hi0
    have hnl := vdm_lt b k 0
    have HM := Zh (vdm_zero b k)
    obtain ⟨n, hn⟩ : ∃ n, n = vdm b k 0 := ⟨_, rfl⟩
    have HN := Lib.hid' hn
    rw [← hn] at hnl ⊢
    clear hn
    obtain ⟨A, hA⟩ : ∃ A, A = vb n := ⟨_, rfl⟩
    obtain ⟨B, hB⟩ : ∃ B, B = b.take (k + 1) := ⟨_, rfl⟩
    have HA := Lib.hid' hA
    have HBB := Lib.hid' hB
    have hby := fun wq => rBytes_any n hnl wq
    rw [← hA] at hby
    have HBY := Lib.hid' hby
    have htk := bytes_take HB.out (k := k + 1) (by omega)
    rw [← hB] at htk
    have HTK := Lib.hid' htk
    have hkc : k + 1 ≤ c := by omega
    have hkc2 : (k : Int) + 1 ≤ c := by omega
    have hkc3 : (0 : Int) ≤ (k : Int) + 1 := by omega
    clear hA hB hby htk
    go_wp2_with fail
    have hb0 := run_string_of (P := Tryz.prog) 22 5 9 Tryz.underlying22 Tryz.underlying5 Tryz.underlying9 (w := w.drew) (SlV.below HTK.out (Nat.le_refl _) (Below.drew (Below.refl _ _)))
    have HBY0 := Zh (show Below w.heap.size w w.drew from Below.drew (Below.refl _ _))
    by_cases hAB : A = B
    ·have hyes : (strOf A).toList = (strOf B).toList := by rw [hAB]
     have HR2 := Zh (show r = some (n, k + 1) by
      rw [HR.out, vtake_yes hk2 (by rw [← HM.out, ← HN.out, ← HA.out, ← HBB.out]; exact hAB), ← HM.out, ← HN.out])
     clear hAB
     refine wp_region_held_drew (S := (fun _ => True)) (by kernel_rfl) trivial (fun hH0 => ?_)
     refine tA 0 (.int .u64 (n : Int)) rfl hH0 ?_ ?_
     ·intro w hSw; go_simp
     simp only [Act.put, gA, gZ, gS, sA, sZ, sS]
     refine tA 3 (.slice (some ⟨bb, off, none⟩) b.length c) rfl hH0 ?_ ?_
     ·intro w hSw; go_simp
     simp only [Act.put, gA, gZ, gS, sA, sZ, sS]
     refine tA 4 (.int .i64 ((k : Int) + 1)) rfl hH0 ?_ ?_
     ·intro w hSw; go_simp
     simp only [Act.put, gA, gZ, gS, sA, sZ, sS]
     refine tA 5 (.slice (some ⟨bb, off, none⟩) (k + 1) c) rfl hH0 ?_ ?_
     ·intro w hSw; go_simp; (try (intro h; exfalso; omega))
     simp only [Act.put, gA, gZ, gS, sA, sZ, sS]
     refine wpAnyH_ready (rs := [1, 6]) (by kernel_rfl) (by simp) (AllReadyH.cons (o := _) rfl (fun K hK => ?_) (AllReadyH.cons (o := _) rfl (fun K hK => ?_) AllReadyH.nil))
     ·skip
      go_simp
      refine (HBY.out _).mono ?_
      rintro en w2 ⟨a2, c2, rfl, ho2, hb2⟩
      have HB2 := Zh (show Below w.heap.size w w2 from HBY0.out.trans hb2)
      have ha2 := run_string_of (P := Tryz.prog) 22 5 9 Tryz.underlying22 Tryz.underlying5 Tryz.underlying9 (w := w2) (show Bytes w2 (.slice a2 A.length c2) A from SlV.of_own ho2)
      have hb2s := run_string_of (P := Tryz.prog) 22 5 9 Tryz.underlying22 Tryz.underlying5 Tryz.underlying9 (w := w2) (SlV.below HTK.out (Nat.le_refl _) HB2.out)
      clear ho2 hb2
      refine hK.out _ _ ?_ (fun hH1 => ?_)
      ·trivial
      clear hK K
      refine wpAnyH_ready (rs := [2, 6]) (by kernel_rfl) (by simp) (AllReadyH.cons (o := _) rfl (fun K hK => ?_) (AllReadyH.cons (o := _) rfl (fun K hK => ?_) AllReadyH.nil))
      ·skip
       go_simp
       refine hK.out _ _ ?_ (fun hH2 => ?_)
       ·trivial
       clear hK K
       refine rD 6 rfl (fun K hK => ?_)
       go_simp
       refine hK.out _ _ ?_ (fun hH3 => ?_)
       ·trivial
       clear hK K
       refine tA 7 (.bool false) rfl hH3 ?_ ?_
       ·intro w hSw; go_simp; (try exact hyes)
       simp only [Act.put, gA, gZ, gS, sA, sZ, sS]
       refine wpAnyH_done (by kernel_rfl) ?_ _
       go_wp2
       refine bodyPost_ret (v := .tuple #[.int .u64 (n : Int), .int .i64 ((k : Int) + 1), .int .i64 0]) (by simp [results, Tryz.results103, go_sem]) rfl ⟨by rw [HR2.out]; rfl, HB2.out⟩
      ·skip
       go_simp
       refine hK.out _ _ ?_ (fun hH2 => ?_)
       ·trivial
       clear hK K
       refine rD 2 rfl (fun K hK => ?_)
       go_simp
       refine hK.out _ _ ?_ (fun hH3 => ?_)
       ·trivial
       clear hK K
       refine tA 7 (.bool false) rfl hH3 ?_ ?_
       ·intro w hSw; go_simp; (try exact hyes)
       simp only [Act.put, gA, gZ, gS, sA, sZ, sS]
       refine wpAnyH_done (by kernel_rfl) ?_ _
       go_wp2
       refine bodyPost_ret (v := .tuple #[.int .u64 (n : Int), .int .i64 ((k : Int) + 1), .int .i64 0]) (by simp [results, Tryz.results103, go_sem]) rfl ⟨by rw [HR2.out]; rfl, HB2.out⟩
     ·skip
      go_simp
      refine hK.out _ _ ?_ (fun hH1 => ?_)
      ·trivial
      clear hK K
      refine rD 1 rfl (fun K hK => ?_)
      go_simp
      refine (HBY.out _).mono ?_
      rintro en w2 ⟨a2, c2, rfl, ho2, hb2⟩
      have HB2 := Zh (show Below w.heap.size w w2 from HBY0.out.trans hb2)
      have ha2 := run_string_of (P := Tryz.prog) 22 5 9 Tryz.underlying22 Tryz.underlying5 Tryz.underlying9 (w := w2) (show Bytes w2 (.slice a2 A.length c2) A from SlV.of_own ho2)
      have hb2s := run_string_of (P := Tryz.prog) 22 5 9 Tryz.underlying22 Tryz.underlying5 Tryz.underlying9 (w := w2) (SlV.below HTK.out (Nat.le_refl _) HB2.out)
      clear ho2 hb2
      refine hK.out _ _ ?_ (fun hH2 => ?_)
      ·trivial
      clear hK K
      refine rD 2 rfl (fun K hK => ?_)
      go_simp
      refine hK.out _ _ ?_ (fun hH3 => ?_)
      ·trivial
      clear hK K
      refine tA 7 (.bool false) rfl hH3 ?_ ?_
      ·intro w hSw; go_simp; (try exact hyes)
      simp only [Act.put, gA, gZ, gS, sA, sZ, sS]
      refine wpAnyH_done (by kernel_rfl) ?_ _
      go_wp2
      refine bodyPost_ret (v := .tuple #[.int .u64 (n : Int), .int .i64 ((k : Int) + 1), .int .i64 0]) (by simp [results, Tryz.results103, go_sem]) rfl ⟨by rw [HR2.out]; rfl, HB2.out⟩
    ·have hyes : ¬ (strOf A).toList = (strOf B).toList := by rw [strOf_toList, strOf_toList]; exact hAB
     have HR2 := Zh (show r = none by
      rw [HR.out]; exact vtake_not hk2 HY.out HX.out (by rw [← HM.out, ← HN.out, ← HA.out, ← HBB.out]; exact hAB))
     clear hAB
     refine wp_region_held_drew (S := (fun _ => True)) (by kernel_rfl) trivial (fun hH0 => ?_)
     refine tA 0 (.int .u64 (n : Int)) rfl hH0 ?_ ?_
     ·intro w hSw; go_simp
     simp only [Act.put, gA, gZ, gS, sA, sZ, sS]
     refine tA 3 (.slice (some ⟨bb, off, none⟩) b.length c) rfl hH0 ?_ ?_
     ·intro w hSw; go_simp
     simp only [Act.put, gA, gZ, gS, sA, sZ, sS]
     refine tA 4 (.int .i64 ((k : Int) + 1)) rfl hH0 ?_ ?_
     ·intro w hSw; go_simp
     simp only [Act.put, gA, gZ, gS, sA, sZ, sS]
     refine tA 5 (.slice (some ⟨bb, off, none⟩) (k + 1) c) rfl hH0 ?_ ?_
     ·intro w hSw; go_simp; (try (intro h; exfalso; omega))
     simp only [Act.put, gA, gZ, gS, sA, sZ, sS]
     refine wpAnyH_ready (rs := [1, 6]) (by kernel_rfl) (by simp) (AllReadyH.cons (o := _) rfl (fun K hK => ?_) (AllReadyH.cons (o := _) rfl (fun K hK => ?_) AllReadyH.nil))
     ·skip
      go_simp
      refine (HBY.out _).mono ?_
      rintro en w2 ⟨a2, c2, rfl, ho2, hb2⟩
      have HB2 := Zh (show Below w.heap.size w w2 from HBY0.out.trans hb2)
      have ha2 := run_string_of (P := Tryz.prog) 22 5 9 Tryz.underlying22 Tryz.underlying5 Tryz.underlying9 (w := w2) (show Bytes w2 (.slice a2 A.length c2) A from SlV.of_own ho2)
      have hb2s := run_string_of (P := Tryz.prog) 22 5 9 Tryz.underlying22 Tryz.underlying5 Tryz.underlying9 (w := w2) (SlV.below HTK.out (Nat.le_refl _) HB2.out)
      clear ho2 hb2
      refine hK.out _ _ ?_ (fun hH1 => ?_)
      ·trivial
      clear hK K
      refine wpAnyH_ready (rs := [2, 6]) (by kernel_rfl) (by simp) (AllReadyH.cons (o := _) rfl (fun K hK => ?_) (AllReadyH.cons (o := _) rfl (fun K hK => ?_) AllReadyH.nil))
      ·skip
       go_simp
       refine hK.out _ _ ?_ (fun hH2 => ?_)
       ·trivial
       clear hK K
       refine rD 6 rfl (fun K hK => ?_)
       go_simp
       refine hK.out _ _ ?_ (fun hH3 => ?_)
       ·trivial
       clear hK K
       refine tA 7 (.bool true) rfl hH3 ?_ ?_
       ·intro w hSw; go_simp; (try exact hyes)
       simp only [Act.put, gA, gZ, gS, sA, sZ, sS]
       refine wpAnyH_done (by kernel_rfl) ?_ _
       go_wp2
       refine bodyPost_ret (v := .tuple #[.int .u64 0, .int .i64 0, .int .i64 2]) (by simp [results, Tryz.results103, go_sem]) rfl ⟨by rw [HR2.out]; rfl, HB2.out⟩
      ·skip
       go_simp
       refine hK.out _ _ ?_ (fun hH2 => ?_)
       ·trivial
       clear hK K
       refine rD 2 rfl (fun K hK => ?_)
       go_simp
       refine hK.out _ _ ?_ (fun hH3 => ?_)
       ·trivial
       clear hK K
       refine tA 7 (.bool true) rfl hH3 ?_ ?_
       ·intro w hSw; go_simp; (try exact hyes)
       simp only [Act.put, gA, gZ, gS, sA, sZ, sS]
       refine wpAnyH_done (by kernel_rfl) ?_ _
       go_wp2
       refine bodyPost_ret (v := .tuple #[.int .u64 0, .int .i64 0, .int .i64 2]) (by simp [results, Tryz.results103, go_sem]) rfl ⟨by rw [HR2.out]; rfl, HB2.out⟩
     ·skip
      go_simp
      refine hK.out _ _ ?_ (fun hH1 => ?_)
      ·trivial
      clear hK K
      refine rD 1 rfl (fun K hK => ?_)
      go_simp
      refine (HBY.out _).mono ?_
      rintro en w2 ⟨a2, c2, rfl, ho2, hb2⟩
      have HB2 := Zh (show Below w.heap.size w w2 from HBY0.out.trans hb2)
      have ha2 := run_string_of (P := Tryz.prog) 22 5 9 Tryz.underlying22 Tryz.underlying5 Tryz.underlying9 (w := w2) (show Bytes w2 (.slice a2 A.length c2) A from SlV.of_own ho2)
      have hb2s := run_string_of (P := Tryz.prog) 22 5 9 Tryz.underlying22 Tryz.underlying5 Tryz.underlying9 (w := w2) (SlV.below HTK.out (Nat.le_refl _) HB2.out)
      clear ho2 hb2
      refine hK.out _ _ ?_ (fun hH2 => ?_)
      ·trivial
      clear hK K
      refine rD 2 rfl (fun K hK => ?_)
      go_simp
      refine hK.out _ _ ?_ (fun hH3 => ?_)
      ·trivial
      clear hK K
      refine tA 7 (.bool true) rfl hH3 ?_ ?_
      ·intro w hSw; go_simp; (try exact hyes)
      simp only [Act.put, gA, gZ, gS, sA, sZ, sS]
      refine wpAnyH_done (by kernel_rfl) ?_ _
      go_wp2
      refine bodyPost_ret (v := .tuple #[.int .u64 0, .int .i64 0, .int .i64 2]) (by simp [results, Tryz.results103, go_sem]) rfl ⟨by rw [HR2.out]; rfl, HB2.out⟩
end Go.Proofs.YtddlkkmdcfamiaaGreatDoor

namespace Go.Proofs.YtddlkkmdcfamiaaGreatDoor
open Go.RowKit

def rdV (r : RD) (a : Option Addr) (c : Nat) : Value := .agg #[.slice a r.rest.length c, .int .i64 (r.bad : Nat)]
set_option maxHeartbeats 1000000 in
theorem rfail01_any (r : RD) (a : Option Addr) (c n : Nat) (hr : r.rest.length ≤ 9223372036854775807) (w : World) :
  Calls Tryz.prog 102 #[rdV r a c, .int .i64 (n : Nat)] w fun e w' => e = .returned (rdV (r.fail n) a c) ∧ Below w.heap.size w w' := by
 obtain ⟨rest, bad⟩ := r
 by_cases hb : bad = 0
 ·have HR := Zh (show RD.fail ⟨rest, bad⟩ n = ⟨rest, n⟩ by unfold RD.fail; rw [if_pos hb])
  have hbb : ((bad : Int) == 0) = true := by rw [beq_iff_eq]; omega
  clear hb
  unfold rdV
  simp only at hr ⊢
  go_enter Tryz.func102, Tryz.ntmps102
  go_wp2
  refine bodyPost_ret (v := .agg #[.slice a rest.length c, .int .i64 (n : Nat)]) (by simp [results, Tryz.results102, go_sem]) rfl ⟨by rw [HR.out], by go_grown⟩
 ·have HR := Zh (show RD.fail ⟨rest, bad⟩ n = ⟨rest, bad⟩ by unfold RD.fail; rw [if_neg hb])
  have hbb : ((bad : Int) == 0) = false := by rw [beq_eq_false_iff_ne]; omega
  clear hb
  unfold rdV
  simp only at hr ⊢
  go_enter Tryz.func102, Tryz.ntmps102
  go_wp2
  refine bodyPost_ret (v := .agg #[.slice a rest.length c, .int .i64 (bad : Nat)]) (by simp [results, Tryz.results102, go_sem]) rfl ⟨by rw [HR.out], by go_grown⟩
theorem rend01_any (r : RD) (a : Option Addr) (c : Nat) (hr : r.rest.length ≤ 9223372036854775807) (w : World) :
  Calls Tryz.prog 61 #[rdV r a c] w fun e w' => e = .returned (.int .i64 (r.fin : Nat)) ∧ Below w.heap.size w w' := by
 obtain ⟨rest, bad⟩ := r
 by_cases hb : bad = 0
 ·subst hb
  by_cases hl : 0 < rest.length
  ·have HR := Zh (show RD.fin ⟨rest, 0⟩ = 2 by unfold RD.fin; rw [if_pos ⟨rfl, hl⟩])
   unfold rdV
   simp only at hr ⊢
   go_enter Tryz.func61, Tryz.ntmps61
   go_wp2
   go_ret
   exact ⟨ret_eq (by rw [HR.out]; rfl), by go_grown⟩
  ·have HR := Zh (show RD.fin ⟨rest, 0⟩ = 0 by unfold RD.fin; rw [if_neg (fun h => hl h.2)])
   have hl0 : ¬ (0 : Int) < (rest.length : Int) := by omega
   unfold rdV
   simp only at hr ⊢
   go_enter Tryz.func61, Tryz.ntmps61
   go_wp2
   go_ret
   exact ⟨ret_eq (by rw [HR.out]; rfl), by go_grown⟩
 ·have HR := Zh (show RD.fin ⟨rest, bad⟩ = bad by unfold RD.fin; rw [if_neg (fun h => hb h.1)])
  have hbb : ((bad : Int) == 0) = false := by rw [beq_eq_false_iff_ne]; omega
  clear hb
  unfold rdV
  simp only at hr ⊢
  go_enter Tryz.func61, Tryz.ntmps61
  go_wp2
  go_ret
  exact ⟨ret_eq (by rw [HR.out]; rfl), by go_grown⟩
/-- what is left is told of an elder world: so it outlives rows that the caller lays -/
def RNum01R (p : Nat × RD) (w0 w : World) (e : Ending) (w' : World) : Prop :=
 ∃ a c, e = .returned (.tuple #[.int .u64 (p.1 : Nat), rdV p.2 a c]) ∧ Bytes w0 (.slice a p.2.rest.length c) p.2.rest ∧ Below w.heap.size w w'
set_option maxHeartbeats 2000000 in
theorem rnum01_any (r : RD) (a : Option Addr) (c : Nat) (w0 w : World) (h : Bytes w0 (.slice a r.rest.length c) r.rest) (hb0 : Below w0.heap.size w0 w) :
  Calls Tryz.prog 59 #[rdV r a c] w (RNum01R r.num w0 w) := by
 have HD0 := Lib.hid' h
 have HD := Zh (show Bytes w (.slice a r.rest.length c) r.rest from SlV.below h (Nat.le_refl _) hb0)
 have hbl := bytes_len h
 have hcap : r.rest.length ≤ c ∧ c ≤ maxLen := by obtain ⟨_, _, he, h1, h2, _⟩ := h; cases he; exact ⟨h1, h2⟩
 clear h
 obtain ⟨rest, bad⟩ := r
 simp only at hbl hcap
 clear hb0
 by_cases hb : bad = 0
 rotate_left
 ·have HR := Zh (show RD.num ⟨rest, bad⟩ = (0, ⟨rest, bad⟩) from RD.num_bad hb)
  have hbb : ((bad : Int) != 0) = true := by rw [bne_iff_ne]; omega
  clear hb
  unfold rdV
  simp only at HD HD0 ⊢
  go_enter Tryz.func59, Tryz.ntmps59
  go_wp2_with fail
  go_region
  all_goals
   go_wp2
   refine bodyPost_ret (v := .tuple #[.int .u64 0, .agg #[.slice a rest.length c, .int .i64 (bad : Nat)]]) (by simp [results, Tryz.results59, go_sem]) rfl ?_
   rw [HR.out]
   exact ⟨a, c, rfl, HD0.out, by go_grown⟩
 subst hb
 have hT := fun wq => rtake01_any rest a c wq
 cases hv : vtake rest with
 | none =>
  rw [hv] at hT
  simp only [RTake01] at hT
  have HT := Lib.hid' hT
  have HR := Zh (show RD.num ⟨rest, 0⟩ = (0, ⟨rest, 2⟩) by unfold RD.num; simp only [ne_eq, not_true_eq_false, if_false]; rw [hv])
  have HF := Zh (fun wq => rfail01_any ⟨rest, 0⟩ a c 2 hbl wq)
  have HFE := Zh (show rdV (RD.fail ⟨rest, 0⟩ 2) a c = .agg #[.slice a rest.length c, .int .i64 2] by unfold RD.fail rdV; simp)
  clear hv hT
  unfold rdV
  simp only at HD HD0 ⊢
  go_enter Tryz.func59, Tryz.ntmps59
  go_wp2_with fail
  refine (HT.out _ (SlV.below HD.out (Nat.le_refl _) (by go_grown))).mono ?_
  rintro e w2 ⟨rfl, hb2⟩
  have HB2 := Zh (show Below w.heap.size w w2 from below_call (by go_grown) (by simp; omega) hb2)
  have d0 := ((bcell hb2).1 w.heap.size 0 (by simp)).trans (show _ = some (.slice a rest.length c) by simp [go_sem])
  have d1 := ((bcell hb2).1 w.heap.size 1 (by simp)).trans (show _ = some (.int .i64 0) by simp [go_sem])
  have e0 := ((bcell hb2).1 (w.heap.size + 1) 0 (by simp)).trans (show _ = some (.slice none 0 0) by simp [go_sem])
  have e1 := ((bcell hb2).1 (w.heap.size + 1) 1 (by simp)).trans (show _ = some (.int .i64 0) by simp [go_sem])
  have f0 := ((bcell hb2).2 (w.heap.size + 1) 0 (by simp)).trans (show _ = false by simp [go_sem])
  have f1 := ((bcell hb2).2 (w.heap.size + 1) 1 (by simp)).trans (show _ = false by simp [go_sem])
  have hz2 : w.heap.size + 1 < w2.heap.size := by have := hb2.size; simp at this; omega
  have hz20 : w.heap.size < w2.heap.size := by omega
  clear hb2
  go_wp2_with fail
  have hf := HF.out w2
  rw [HFE.out] at hf
  refine hf.mono ?_
  clear hf
  rintro e w3 ⟨rfl, hb3⟩
  have HB3 := Zh (HB2.out.trans (hb3.mono (by omega)))
  have g0 := (hb3.cell (p := ⟨w.heap.size + 1, 0, none⟩) hz2).trans e0
  have g1 := (hb3.cell (p := ⟨w.heap.size + 1, 1, none⟩) hz2).trans e1
  have k0 := (hb3.frozen (p := ⟨w.heap.size + 1, 0, none⟩) hz2).trans f0
  have k1 := (hb3.frozen (p := ⟨w.heap.size + 1, 1, none⟩) hz2).trans f1
  have HRET := Zh (show RNum01R (RD.num ⟨rest, 0⟩) w0 w (.returned (.tuple #[.int .u64 0, .agg #[.slice a rest.length c, .int .i64 2]])) ((w3.setCell ⟨w.heap.size + 1, 0, none⟩ (.slice a rest.length c)).setCell ⟨w.heap.size + 1, 1, none⟩ (.int .i64 2)) from by
   rw [HR.out]
   have hbw : Below w.heap.size w ((w3.setCell ⟨w.heap.size + 1, 0, none⟩ (.slice a rest.length c)).setCell ⟨w.heap.size + 1, 1, none⟩ (.int .i64 2)) := (HB3.out.setCell (by simp) _).setCell (by simp) _
   exact ⟨a, c, rfl, HD0.out, hbw⟩)
  clear hb3 e0 e1 f0 f1 d0 d1
  go_wp2
  refine bodyPost_ret (v := .tuple #[.int .u64 0, .agg #[.slice a rest.length c, .int .i64 2]]) (by simp [results, Tryz.results59, go_sem, g0, g1]) rfl HRET.out
 | some q =>
  obtain ⟨n, k⟩ := q
  rw [hv] at hT
  simp only [RTake01] at hT
  have HT := Lib.hid' hT
  have HR := Zh (show RD.num ⟨rest, 0⟩ = (n, ⟨rest.drop k, 0⟩) by unfold RD.num; simp only [ne_eq, not_true_eq_false, if_false]; rw [hv])
  obtain ⟨_, hn, hk10, hkl, hk0⟩ := vtake_some hv
  obtain ⟨bb, off, rfl, hq1, hq2⟩ := bytes_at (l := rest) HD.out (show 0 < rest.length by omega)
  have HLD := Zh (List.length_drop (i := k) (l := rest))
  clear hq1 hq2 hv hT
  have hcm : c ≤ 9223372036854775807 := by have := hcap.2; unfold maxLen at this; omega
  unfold rdV
  simp only at HD HD0 ⊢
  go_enter Tryz.func59, Tryz.ntmps59
  go_wp2_with fail
  refine (HT.out _ (SlV.below HD.out (Nat.le_refl _) (by go_grown))).mono ?_
  rintro e w2 ⟨rfl, hb2⟩
  have HB2 := Zh (show Below w.heap.size w w2 from below_call (by go_grown) (by simp; omega) hb2)
  have HX2 := Zh (show BoxW w.heap.size [.slice (some ⟨bb, off, none⟩) rest.length c, .int .i64 0] 122 w2 from by
   have h1 := (BoxW.start w [.slice (some ⟨bb, off, none⟩) rest.length c, .int .i64 0] 122).below (Nat.le_refl _) (show Below (w.alloc (.cells #[.slice (some ⟨bb, off, none⟩) rest.length c, .int .i64 0] 122)).heap.size (w.alloc (.cells #[.slice (some ⟨bb, off, none⟩) rest.length c, .int .i64 0] 122)) _ from (by go_grown : Below _ _ ((w.alloc (.cells #[.slice (some ⟨bb, off, none⟩) rest.length c, .int .i64 0] 122)).alloc (.cells #[.slice none 0 0, .int .i64 0] 122))))
   exact h1.below (Nat.le_refl _) hb2)
  have HZ2 := Zh (show BoxW (w.heap.size + 1) [.slice none 0 0, .int .i64 0] 122 w2 from by
   have h1 := BoxW.start (w.alloc (.cells #[.slice (some ⟨bb, off, none⟩) rest.length c, .int .i64 0] 122)) [.slice none 0 0, .int .i64 0] 122
   rw [show (w.alloc (.cells #[.slice (some ⟨bb, off, none⟩) rest.length c, .int .i64 0] 122)).heap.size = w.heap.size + 1 by simp] at h1
   exact h1.below (Nat.le_refl _) hb2)
  clear hb2
  have d0 := HX2.out.box.1 0 _ rfl
  have d1 := HX2.out.box.1 1 _ rfl
  have df := HX2.out.box.2.1 0
  have hz := HX2.out.lt
  have hkc : k ≤ c := by omega
  by_cases hkc2 : c = k
  ·have HS := Zh (show Bytes w0 (.slice (some ⟨bb, off, none⟩) (rest.drop k).length (c - k)) (rest.drop k) from bytes_sub HD0.out hkl _ (.inr (by omega)) (by simp))
   have hs0 := HS.out
   rw [HLD.out, show rest.length - k = 0 by omega, show c - k = 0 by omega] at hs0
   have HS0 := Lib.hid' hs0
   have HL0 := Zh (show (rest.drop k).length = 0 by rw [HLD.out]; omega)
   clear hs0 HS
   subst hkc2
   obtain rfl : c = rest.length := by omega
   go_wp2_with fail
   have HX3 := Zh (HX2.out.set 0 (.slice (some ⟨bb, off, none⟩) 0 0))
   have HZ3 := Zh (HZ2.out.fr (fr_set w2 w.heap.size 0 (.slice (some ⟨bb, off, none⟩) 0 0)) (by omega))
   have HB3 := Zh (show Below w.heap.size w (w2.setCell ⟨w.heap.size, 0, none⟩ (.slice (some ⟨bb, off, none⟩) 0 0)) from HB2.out.setCell (by simp) _)
   clear d0 d1 df hz HX2 HZ2 HB2
   generalize w2.setCell ⟨w.heap.size, 0, none⟩ (.slice (some ⟨bb, off, none⟩) 0 0) = w3 at *
   have d0 := HX3.out.box.1 0 _ rfl
   have d1 := HX3.out.box.1 1 _ rfl
   have hz := HX3.out.lt
   have e0 := HZ3.out.box.1 0 _ rfl
   have e1 := HZ3.out.box.1 1 _ rfl
   have f0 := HZ3.out.box.2.1 0
   have f1 := HZ3.out.box.2.1 1
   have hzz := HZ3.out.lt
   go_region
   all_goals
    have HRET := Zh (show ∀ wq, Below w.heap.size w wq → RNum01R (RD.num ⟨rest, 0⟩) w0 w (.returned (.tuple #[.int .u64 (n : Int), .agg #[.slice (some ⟨bb, off, none⟩) 0 0, .int .i64 0]])) wq from fun wq hq => by
     rw [HR.out]
     refine ⟨some ⟨bb, off, none⟩, 0, ?_, ?_, hq⟩
     ·unfold rdV; simp only [HL0.out]; rfl
     ·simp only [HL0.out]; exact HS0.out)
    go_wp2
    refine bodyPost_ret (v := .tuple #[.int .u64 (n : Int), .agg #[.slice (some ⟨bb, off, none⟩) 0 0, .int .i64 0]]) (by simp [results, Tryz.results59, go_sem, e0, e1]) rfl (HRET.out _ ?_)
    first | exact HB3.out | exact (HB3.out.setCell (by simp) _) | exact ((HB3.out.setCell (by simp) _).setCell (by simp) _) | exact ((HB3.out.drew.setCell (by simp) _).setCell (by simp) _)
  ·have hlt : k < c := by omega
   have HS := Zh (show Bytes w0 (.slice (some ⟨bb, off + k, none⟩) (rest.drop k).length (c - k)) (rest.drop k) from bytes_sub HD0.out hkl _ (.inl ⟨bb, off, rfl, rfl⟩) (by simp))
   clear hkc2
   go_wp2_with fail
   have HX3 := Zh (HX2.out.set 0 (.slice (some ⟨bb, off + k, none⟩) (rest.length - k) (c - k)))
   have HZ3 := Zh (HZ2.out.fr (fr_set w2 w.heap.size 0 (.slice (some ⟨bb, off + k, none⟩) (rest.length - k) (c - k))) (by omega))
   have HB3 := Zh (show Below w.heap.size w (w2.setCell ⟨w.heap.size, 0, none⟩ (.slice (some ⟨bb, off + k, none⟩) (rest.length - k) (c - k))) from HB2.out.setCell (by simp) _)
   clear d0 d1 df hz HX2 HZ2 HB2
   generalize w2.setCell ⟨w.heap.size, 0, none⟩ (.slice (some ⟨bb, off + k, none⟩) (rest.length - k) (c - k)) = w3 at *
   have d0 := HX3.out.box.1 0 _ rfl
   have d1 := HX3.out.box.1 1 _ rfl
   have hz := HX3.out.lt
   have e0 := HZ3.out.box.1 0 _ rfl
   have e1 := HZ3.out.box.1 1 _ rfl
   have f0 := HZ3.out.box.2.1 0
   have f1 := HZ3.out.box.2.1 1
   have hzz := HZ3.out.lt
   go_region
   all_goals
    have HRET := Zh (show ∀ wq, Below w.heap.size w wq → RNum01R (RD.num ⟨rest, 0⟩) w0 w (.returned (.tuple #[.int .u64 (n : Int), .agg #[.slice (some ⟨bb, off + k, none⟩) (rest.length - k) (c - k), .int .i64 0]])) wq from fun wq hq => by
     rw [HR.out]
     refine ⟨some ⟨bb, off + k, none⟩, c - k, ?_, HS.out, hq⟩
     unfold rdV; simp only [HLD.out]; rfl)
    go_wp2
    refine bodyPost_ret (v := .tuple #[.int .u64 (n : Int), .agg #[.slice (some ⟨bb, off + k, none⟩) (rest.length - k) (c - k), .int .i64 0]]) (by simp [results, Tryz.results59, go_sem, e0, e1]) rfl (HRET.out _ ?_)
    first | exact HB3.out | exact (HB3.out.setCell (by simp) _) | exact ((HB3.out.setCell (by simp) _).setCell (by simp) _) | exact ((HB3.out.drew.setCell (by simp) _).setCell (by simp) _)
end Go.Proofs.YtddlkkmdcfamiaaGreatDoor

namespace Go.Proofs.YtddlkkmdcfamiaaGreatDoor
open Go.RowKit

def RInt01R (p : Nat × RD) (w0 w : World) (e : Ending) (w' : World) : Prop :=
 ∃ a c, e = .returned (.tuple #[.int .i64 (p.1 : Nat), rdV p.2 a c]) ∧ Bytes w0 (.slice a p.2.rest.length c) p.2.rest ∧ Below w.heap.size w w'
set_option maxHeartbeats 2000000 in
theorem rwithin01_any (r : RD) (a : Option Addr) (c most : Nat) (hm : most ≤ 4611686018427387904) (w0 w : World) (h : Bytes w0 (.slice a r.rest.length c) r.rest) (hb0 : Below w0.heap.size w0 w) :
  Calls Tryz.prog 58 #[rdV r a c, .int .u64 (most : Nat)] w (RInt01R (r.within most) w0 w) := by
 have HD := Lib.hid' h
 have hbl := bytes_len h
 have HNU := Zh (fun wq hq => rnum01_any r a c w0 wq h hq)
 have HB0 := Lib.hid' hb0
 have hlt := RD.num_lt r
 have hnl := RD.num_len r
 clear h hb0
 obtain ⟨p, hp⟩ : ∃ p, p = r.within most := ⟨_, rfl⟩
 have HP := Lib.hid' hp
 rw [← hp]
 have HV := Zh (show rdV r a c = .agg #[.slice a r.rest.length c, .int .i64 (r.bad : Nat)] from rfl)
 rw [HV.out]
 clear hp
 go_enter Tryz.func58, Tryz.ntmps58
 go_wp2_with fail
 have HX1 := Zh (show BoxW w.heap.size [.slice a r.rest.length c, .int .i64 (r.bad : Nat)] 122 ((w.alloc (.cells #[.slice a r.rest.length c, .int .i64 (r.bad : Nat)] 122)).alloc (.cells #[.slice none 0 0, .int .i64 0] 122)) from
  (BoxW.start w [.slice a r.rest.length c, .int .i64 (r.bad : Nat)] 122).below (Nat.le_refl _) (show Below (w.alloc (.cells #[.slice a r.rest.length c, .int .i64 (r.bad : Nat)] 122)).heap.size _ _ by go_grown))
 have HZ1 := Zh (show BoxW (w.heap.size + 1) [.slice none 0 0, .int .i64 0] 122 ((w.alloc (.cells #[.slice a r.rest.length c, .int .i64 (r.bad : Nat)] 122)).alloc (.cells #[.slice none 0 0, .int .i64 0] 122)) from by
  have h1 := BoxW.start (w.alloc (.cells #[.slice a r.rest.length c, .int .i64 (r.bad : Nat)] 122)) [.slice none 0 0, .int .i64 0] 122
  rwa [show (w.alloc (.cells #[.slice a r.rest.length c, .int .i64 (r.bad : Nat)] 122)).heap.size = w.heap.size + 1 by simp] at h1)
 have HB1 := Zh (show Below w.heap.size w ((w.alloc (.cells #[.slice a r.rest.length c, .int .i64 (r.bad : Nat)] 122)).alloc (.cells #[.slice none 0 0, .int .i64 0] 122)) by go_grown)
 generalize ((w.alloc (.cells #[.slice a r.rest.length c, .int .i64 (r.bad : Nat)] 122)).alloc (.cells #[.slice none 0 0, .int .i64 0] 122)) = w1 at *
 obtain ⟨n, hn⟩ : ∃ n, n = r.num.1 := ⟨_, rfl⟩
 obtain ⟨s, hs⟩ : ∃ s, s = r.num.2 := ⟨_, rfl⟩
 have HQ := Zh (show r.within most = if most < n ∨ 4611686018427387904 < n then (0, s.fail 1) else (n, s) by rw [hn, hs]; rfl)
 have hnu := HNU.out w1 (HB0.out.trans (HB1.out.mono HB0.out.size))
 unfold RNum01R at hnu
 rw [← hn, ← hs] at hnu
 rw [← hn] at hlt
 rw [← hs] at hnl
 clear hn hs HNU
 refine hnu.mono ?_
 clear hnu
 rintro e w2 ⟨a2, c2, rfl, hy2, hb2⟩
 have HY2 := Lib.hid' hy2
 have HX2 := Zh (HX1.out.below (Nat.le_refl _) hb2)
 have HZ2 := Zh (HZ1.out.below (Nat.le_refl _) hb2)
 have HB2 := Zh (HB1.out.trans (hb2.mono HB1.out.size))
 clear hy2 hb2 HX1 HZ1 HB1
 unfold rdV
 have d0 := HX2.out.box.1 0 _ rfl
 have d1 := HX2.out.box.1 1 _ rfl
 have df0 := HX2.out.box.2.1 0
 have df1 := HX2.out.box.2.1 1
 have hz := HX2.out.lt
 go_upto_region 2 with fail
 have HX3 := Zh (BoxW.set2 (a' := .slice a2 s.rest.length c2) (b' := .int .i64 (s.bad : Nat)) HX2.out)
 have hfr : Fr (fun q => q = w.heap.size) w2 ((w2.setCell ⟨w.heap.size, 0, none⟩ (.slice a2 s.rest.length c2)).setCell ⟨w.heap.size, 1, none⟩ (.int .i64 (s.bad : Nat))) := (fr_set _ _ _ _).trans (fr_set _ _ _ _) (fun i hi => .inl hi)
 have HZ3 := Zh (HZ2.out.fr hfr (by omega))
 have HY3 := HY2
 have HB3 := Zh (HB2.out.trans (hfr.below HB2.out.size (fun q hq => by omega)))
 clear hfr d0 d1 df0 df1 hz HX2 HZ2 HB2 HY2
 generalize ((w2.setCell ⟨w.heap.size, 0, none⟩ (.slice a2 s.rest.length c2)).setCell ⟨w.heap.size, 1, none⟩ (.int .i64 (s.bad : Nat))) = w3 at *
 have d0 := HX3.out.box.1 0 _ rfl
 have d1 := HX3.out.box.1 1 _ rfl
 have hz := HX3.out.lt
 have e0 := HZ3.out.box.1 0 _ rfl
 have e1 := HZ3.out.box.1 1 _ rfl
 have f0 := HZ3.out.box.2.1 0
 have f1 := HZ3.out.box.2.1 1
 have hzz := HZ3.out.lt
 by_cases hq : most < n ∨ 4611686018427387904 < n
 ·have HPE := Zh (show p = (0, s.fail 1) by rw [HP.out, HQ.out, if_pos hq])
  have h1 : most < n := by omega
  clear hq
  have HFA := Zh (fun wq => rfail01_any s a2 c2 1 (by omega) wq)
  have HFR := Zh (show (s.fail 1).rest = s.rest by unfold RD.fail; split <;> rfl)
  go_wp2_with fail
  refine (HFA.out w3).mono ?_
  rintro e w4 ⟨rfl, hb4⟩
  have HB4 := Zh (HB3.out.trans (hb4.mono (by omega)))
  have g0 := (hb4.cell (p := ⟨w.heap.size + 1, 0, none⟩) hzz).trans e0
  have g1 := (hb4.cell (p := ⟨w.heap.size + 1, 1, none⟩) hzz).trans e1
  have k0 := (hb4.frozen (p := ⟨w.heap.size + 1, 0, none⟩) hzz).trans f0
  have k1 := (hb4.frozen (p := ⟨w.heap.size + 1, 1, none⟩) hzz).trans f1
  have HY4 := HY3
  have HZ4 := Zh (HZ3.out.below (Nat.le_refl _) hb4)
  clear hb4
  obtain ⟨s1, hs1⟩ : ∃ s1, s1 = s.fail 1 := ⟨_, rfl⟩
  have HRET := Zh (show RInt01R p w0 w (.returned (.tuple #[.int .i64 0, .agg #[.slice a2 s1.rest.length c2, .int .i64 (s1.bad : Nat)]])) ((w4.setCell ⟨w.heap.size + 1, 0, none⟩ (.slice a2 s1.rest.length c2)).setCell ⟨w.heap.size + 1, 1, none⟩ (.int .i64 (s1.bad : Nat))) from by
   rw [HPE.out, ← hs1]
   refine ⟨a2, c2, rfl, ?_, (HB4.out.setCell (by simp) _).setCell (by simp) _⟩
   have hfr : Fr (fun q => q = w.heap.size + 1) w4 ((w4.setCell ⟨w.heap.size + 1, 0, none⟩ (.slice a2 s1.rest.length c2)).setCell ⟨w.heap.size + 1, 1, none⟩ (.int .i64 (s1.bad : Nat))) := (fr_set _ _ _ _).trans (fr_set _ _ _ _) (fun i hi => .inl hi)
   have h5 := HY4.out
   rw [← HFR.out, ← hs1] at h5
   exact h5)
  rw [← hs1]
  clear hs1
  unfold rdV
  go_wp2
  refine bodyPost_ret (v := .tuple #[.int .i64 0, .agg #[.slice a2 s1.rest.length c2, .int .i64 (s1.bad : Nat)]]) (by simp [results, Tryz.results58, go_sem, g0, g1]) rfl HRET.out
 ·have HPE := Zh (show p = (n, s) by rw [HP.out, HQ.out, if_neg hq])
  have h1 : ¬ most < n := by omega
  have h2 : ¬ 4611686018427387904 < n := by omega
  clear hq
  have HRET := Zh (show ∀ wq, Below w.heap.size w wq → Bytes w0 (.slice a2 s.rest.length c2) s.rest → RInt01R p w0 w (.returned (.tuple #[.int .i64 (n : Int), .agg #[.slice a2 s.rest.length c2, .int .i64 (s.bad : Nat)]])) wq from fun wq hb hy => by
   rw [HPE.out]; exact ⟨a2, c2, rfl, hy, hb⟩)
  have hfr : ∀ x y, Fr (fun q => q = w.heap.size + 1) w3 ((w3.setCell ⟨w.heap.size + 1, 0, none⟩ x).setCell ⟨w.heap.size + 1, 1, none⟩ y) := fun x y => (fr_set _ _ _ _).trans (fr_set _ _ _ _) (fun i hi => .inl hi)
  have hfr2 : ∀ x y, Fr (fun q => q = w.heap.size + 1) w3 ((w3.drew.setCell ⟨w.heap.size + 1, 0, none⟩ x).setCell ⟨w.heap.size + 1, 1, none⟩ y) := fun x y => (Fr.of_below (Below.drew (Below.refl _ w3))).trans ((fr_set _ _ _ _).trans (fr_set _ _ _ _) (fun i hi => .inl hi)) (fun i hi => .inl hi)
  have HFR := Lib.hid' hfr
  have HFR2 := Lib.hid' hfr2
  clear hfr hfr2
  go_wp2_with fail
  go_region
  all_goals
   go_wp2
   refine bodyPost_ret (v := .tuple #[.int .i64 (n : Int), .agg #[.slice a2 s.rest.length c2, .int .i64 (s.bad : Nat)]]) (by simp [results, Tryz.results58, go_sem, e0, e1]) rfl ?_
   first
    | exact HRET.out _ ((HB3.out.setCell (by simp) _).setCell (by simp) _) HY3.out
    | exact HRET.out _ ((HB3.out.drew.setCell (by simp) _).setCell (by simp) _) HY3.out
set_option maxHeartbeats 2000000 in
theorem rcount01_any (r : RD) (a : Option Addr) (c most : Nat) (hm : most ≤ 4611686018427387904) (w0 w : World) (h : Bytes w0 (.slice a r.rest.length c) r.rest) (hb0 : Below w0.heap.size w0 w) :
  Calls Tryz.prog 142 #[rdV r a c, .int .i64 (most : Nat)] w (RInt01R (r.count most) w0 w) := by
 have HD := Lib.hid' h
 have hbl := bytes_len h
 have HNU := Zh (fun wq hq => rnum01_any r a c w0 wq h hq)
 have HB0 := Lib.hid' hb0
 have hlt := RD.num_lt r
 have hnl := RD.num_len r
 clear h hb0
 obtain ⟨p, hp⟩ : ∃ p, p = r.count most := ⟨_, rfl⟩
 have HP := Lib.hid' hp
 rw [← hp]
 have HV := Zh (show rdV r a c = .agg #[.slice a r.rest.length c, .int .i64 (r.bad : Nat)] from rfl)
 rw [HV.out]
 clear hp
 go_enter Tryz.func142, Tryz.ntmps142
 go_wp2_with fail
 have HX1 := Zh (show BoxW w.heap.size [.slice a r.rest.length c, .int .i64 (r.bad : Nat)] 122 ((w.alloc (.cells #[.slice a r.rest.length c, .int .i64 (r.bad : Nat)] 122)).alloc (.cells #[.slice none 0 0, .int .i64 0] 122)) from
  (BoxW.start w [.slice a r.rest.length c, .int .i64 (r.bad : Nat)] 122).below (Nat.le_refl _) (show Below (w.alloc (.cells #[.slice a r.rest.length c, .int .i64 (r.bad : Nat)] 122)).heap.size _ _ by go_grown))
 have HZ1 := Zh (show BoxW (w.heap.size + 1) [.slice none 0 0, .int .i64 0] 122 ((w.alloc (.cells #[.slice a r.rest.length c, .int .i64 (r.bad : Nat)] 122)).alloc (.cells #[.slice none 0 0, .int .i64 0] 122)) from by
  have h1 := BoxW.start (w.alloc (.cells #[.slice a r.rest.length c, .int .i64 (r.bad : Nat)] 122)) [.slice none 0 0, .int .i64 0] 122
  rwa [show (w.alloc (.cells #[.slice a r.rest.length c, .int .i64 (r.bad : Nat)] 122)).heap.size = w.heap.size + 1 by simp] at h1)
 have HB1 := Zh (show Below w.heap.size w ((w.alloc (.cells #[.slice a r.rest.length c, .int .i64 (r.bad : Nat)] 122)).alloc (.cells #[.slice none 0 0, .int .i64 0] 122)) by go_grown)
 generalize ((w.alloc (.cells #[.slice a r.rest.length c, .int .i64 (r.bad : Nat)] 122)).alloc (.cells #[.slice none 0 0, .int .i64 0] 122)) = w1 at *
 obtain ⟨n, hn⟩ : ∃ n, n = r.num.1 := ⟨_, rfl⟩
 obtain ⟨s, hs⟩ : ∃ s, s = r.num.2 := ⟨_, rfl⟩
 have HQ := Zh (show r.count most = if s.bad ≠ 0 then (0, s) else if most < n then (0, s.fail 3) else (n, s) by rw [hn, hs]; rfl)
 have hnu := HNU.out w1 (HB0.out.trans (HB1.out.mono HB0.out.size))
 unfold RNum01R at hnu
 rw [← hn, ← hs] at hnu
 rw [← hn] at hlt
 rw [← hs] at hnl
 clear hn hs HNU
 refine hnu.mono ?_
 clear hnu
 rintro e w2 ⟨a2, c2, rfl, hy2, hb2⟩
 have HY2 := Lib.hid' hy2
 have HX2 := Zh (HX1.out.below (Nat.le_refl _) hb2)
 have HZ2 := Zh (HZ1.out.below (Nat.le_refl _) hb2)
 have HB2 := Zh (HB1.out.trans (hb2.mono HB1.out.size))
 clear hy2 hb2 HX1 HZ1 HB1
 unfold rdV
 have d0 := HX2.out.box.1 0 _ rfl
 have d1 := HX2.out.box.1 1 _ rfl
 have df0 := HX2.out.box.2.1 0
 have df1 := HX2.out.box.2.1 1
 have hz := HX2.out.lt
 go_upto_region 2 with fail
 have HX3 := Zh (BoxW.set2 (a' := .slice a2 s.rest.length c2) (b' := .int .i64 (s.bad : Nat)) HX2.out)
 have hfr : Fr (fun q => q = w.heap.size) w2 ((w2.setCell ⟨w.heap.size, 0, none⟩ (.slice a2 s.rest.length c2)).setCell ⟨w.heap.size, 1, none⟩ (.int .i64 (s.bad : Nat))) := (fr_set _ _ _ _).trans (fr_set _ _ _ _) (fun i hi => .inl hi)
 have HZ3 := Zh (HZ2.out.fr hfr (by omega))
 have HY3 := HY2
 have HB3 := Zh (HB2.out.trans (hfr.below HB2.out.size (fun q hq => by omega)))
 clear hfr d0 d1 df0 df1 hz HX2 HZ2 HB2 HY2
 generalize ((w2.setCell ⟨w.heap.size, 0, none⟩ (.slice a2 s.rest.length c2)).setCell ⟨w.heap.size, 1, none⟩ (.int .i64 (s.bad : Nat))) = w3 at *
 have d0 := HX3.out.box.1 0 _ rfl
 have d1 := HX3.out.box.1 1 _ rfl
 have hz := HX3.out.lt
 have e0 := HZ3.out.box.1 0 _ rfl
 have e1 := HZ3.out.box.1 1 _ rfl
 have f0 := HZ3.out.box.2.1 0
 have f1 := HZ3.out.box.2.1 1
 have hzz := HZ3.out.lt
 by_cases hsb : s.bad = 0
 rotate_left
 ·have HPE := Zh (show p = (0, s) by rw [HP.out, HQ.out, if_pos hsb])
  have hbb : ((s.bad : Int) != 0) = true := by rw [bne_iff_ne]; omega
  clear hsb
  have HRET := Zh (show ∀ wq, Below w.heap.size w wq → Bytes w0 (.slice a2 s.rest.length c2) s.rest → RInt01R p w0 w (.returned (.tuple #[.int .i64 0, .agg #[.slice a2 s.rest.length c2, .int .i64 (s.bad : Nat)]])) wq from fun wq hb hy => by
   rw [HPE.out]; exact ⟨a2, c2, rfl, hy, hb⟩)
  have hfr : ∀ x y, Fr (fun q => q = w.heap.size + 1) w3 ((w3.setCell ⟨w.heap.size + 1, 0, none⟩ x).setCell ⟨w.heap.size + 1, 1, none⟩ y) := fun x y => (fr_set _ _ _ _).trans (fr_set _ _ _ _) (fun i hi => .inl hi)
  have hfr2 : ∀ x y, Fr (fun q => q = w.heap.size + 1) w3 ((w3.drew.setCell ⟨w.heap.size + 1, 0, none⟩ x).setCell ⟨w.heap.size + 1, 1, none⟩ y) := fun x y => (Fr.of_below (Below.drew (Below.refl _ w3))).trans ((fr_set _ _ _ _).trans (fr_set _ _ _ _) (fun i hi => .inl hi)) (fun i hi => .inl hi)
  have HFR := Lib.hid' hfr
  have HFR2 := Lib.hid' hfr2
  clear hfr hfr2
  go_wp2_with fail
  go_region
  all_goals
   go_wp2
   refine bodyPost_ret (v := .tuple #[.int .i64 0, .agg #[.slice a2 s.rest.length c2, .int .i64 (s.bad : Nat)]]) (by simp [results, Tryz.results142, go_sem, e0, e1]) rfl ?_
   first
    | exact HRET.out _ ((HB3.out.setCell (by simp) _).setCell (by simp) _) HY3.out
    | exact HRET.out _ ((HB3.out.drew.setCell (by simp) _).setCell (by simp) _) HY3.out
 have hbb : ((s.bad : Int) != 0) = false := by rw [bne_eq_false_iff_eq]; omega
 by_cases h1 : most < n
 ·have HPE := Zh (show p = (0, s.fail 3) by rw [HP.out, HQ.out, if_neg (by simpa using hsb), if_pos h1])
  clear hsb
  have HFA := Zh (fun wq => rfail01_any s a2 c2 3 (by omega) wq)
  have HFR := Zh (show (s.fail 3).rest = s.rest by unfold RD.fail; split <;> rfl)
  go_wp2_with fail
  refine (HFA.out w3).mono ?_
  rintro e w4 ⟨rfl, hb4⟩
  have HB4 := Zh (HB3.out.trans (hb4.mono (by omega)))
  have g0 := (hb4.cell (p := ⟨w.heap.size + 1, 0, none⟩) hzz).trans e0
  have g1 := (hb4.cell (p := ⟨w.heap.size + 1, 1, none⟩) hzz).trans e1
  have k0 := (hb4.frozen (p := ⟨w.heap.size + 1, 0, none⟩) hzz).trans f0
  have k1 := (hb4.frozen (p := ⟨w.heap.size + 1, 1, none⟩) hzz).trans f1
  have HY4 := HY3
  have HZ4 := Zh (HZ3.out.below (Nat.le_refl _) hb4)
  clear hb4
  obtain ⟨s1, hs1⟩ : ∃ s1, s1 = s.fail 3 := ⟨_, rfl⟩
  have HRET := Zh (show RInt01R p w0 w (.returned (.tuple #[.int .i64 0, .agg #[.slice a2 s1.rest.length c2, .int .i64 (s1.bad : Nat)]])) ((w4.setCell ⟨w.heap.size + 1, 0, none⟩ (.slice a2 s1.rest.length c2)).setCell ⟨w.heap.size + 1, 1, none⟩ (.int .i64 (s1.bad : Nat))) from by
   rw [HPE.out, ← hs1]
   refine ⟨a2, c2, rfl, ?_, (HB4.out.setCell (by simp) _).setCell (by simp) _⟩
   have hfr : Fr (fun q => q = w.heap.size + 1) w4 ((w4.setCell ⟨w.heap.size + 1, 0, none⟩ (.slice a2 s1.rest.length c2)).setCell ⟨w.heap.size + 1, 1, none⟩ (.int .i64 (s1.bad : Nat))) := (fr_set _ _ _ _).trans (fr_set _ _ _ _) (fun i hi => .inl hi)
   have h5 := HY4.out
   rw [← HFR.out, ← hs1] at h5
   exact h5)
  rw [← hs1]
  clear hs1
  unfold rdV
  go_wp2
  refine bodyPost_ret (v := .tuple #[.int .i64 0, .agg #[.slice a2 s1.rest.length c2, .int .i64 (s1.bad : Nat)]]) (by simp [results, Tryz.results142, go_sem, g0, g1]) rfl HRET.out
 ·have HPE := Zh (show p = (n, s) by rw [HP.out, HQ.out, if_neg (by simpa using hsb), if_neg h1])
  clear hsb
  have HRET := Zh (show ∀ wq, Below w.heap.size w wq → Bytes w0 (.slice a2 s.rest.length c2) s.rest → RInt01R p w0 w (.returned (.tuple #[.int .i64 (n : Int), .agg #[.slice a2 s.rest.length c2, .int .i64 (s.bad : Nat)]])) wq from fun wq hb hy => by
   rw [HPE.out]; exact ⟨a2, c2, rfl, hy, hb⟩)
  have hfr : ∀ x y, Fr (fun q => q = w.heap.size + 1) w3 ((w3.setCell ⟨w.heap.size + 1, 0, none⟩ x).setCell ⟨w.heap.size + 1, 1, none⟩ y) := fun x y => (fr_set _ _ _ _).trans (fr_set _ _ _ _) (fun i hi => .inl hi)
  have hfr2 : ∀ x y, Fr (fun q => q = w.heap.size + 1) w3 ((w3.drew.setCell ⟨w.heap.size + 1, 0, none⟩ x).setCell ⟨w.heap.size + 1, 1, none⟩ y) := fun x y => (Fr.of_below (Below.drew (Below.refl _ w3))).trans ((fr_set _ _ _ _).trans (fr_set _ _ _ _) (fun i hi => .inl hi)) (fun i hi => .inl hi)
  have HFR := Lib.hid' hfr
  have HFR2 := Lib.hid' hfr2
  clear hfr hfr2
  go_wp2_with fail
  go_region
  all_goals
   go_wp2
   refine bodyPost_ret (v := .tuple #[.int .i64 (n : Int), .agg #[.slice a2 s.rest.length c2, .int .i64 (s.bad : Nat)]]) (by simp [results, Tryz.results142, go_sem, e0, e1]) rfl ?_
   first
    | exact HRET.out _ ((HB3.out.setCell (by simp) _).setCell (by simp) _) HY3.out
    | exact HRET.out _ ((HB3.out.drew.setCell (by simp) _).setCell (by simp) _) HY3.out
end Go.Proofs.YtddlkkmdcfamiaaGreatDoor

namespace Go.Proofs.YtddlkkmdcfamiaaGreatDoor
open Go.RowKit

def RTake04R (r : Nat × List UInt8 × Nat) (w : World) (en : Ending) (w' : World) : Prop :=
 ∃ a c, en = .returned (.tuple #[.slice a r.2.1.length c, .int .i64 (r.2.2 : Nat), .int .i64 (r.1 : Nat)]) ∧ Bytes w' (.slice a r.2.1.length c) r.2.1 ∧ Below w.heap.size w w'
theorem RTake04R.bad {w w' : World} {n : Nat} (h : Below w.heap.size w w') : RTake04R (n, [], 0) w (.returned (.tuple #[.slice none 0 0, .int .i64 0, .int .i64 (n : Nat)])) w' :=
 ⟨none, 0, rfl, SlV.empty _ _ _ (Nat.zero_le _) (fun _ => rfl), h⟩
set_option maxHeartbeats 4000000 in
theorem rtake04_any (b : List UInt8) (a : Option Addr) (c : Nat) (w : World) (h : Bytes w (.slice a b.length c) b) :
  Calls Tryz.prog 101 #[.slice a b.length c] w (RTake04R (ftake b) w) := by
 have HB := Lib.hid' h
 have hbl := bytes_len h
 have hcap : b.length ≤ c := by obtain ⟨_, _, he, h1, _⟩ := h; cases he; exact h1
 have hT := rtake01_any b a c w h
 clear h
 cases hv : vtake b with
 | none =>
  rw [hv] at hT
  simp only [RTake01] at hT
  have HT := Lib.hid' hT
  have HR := Zh (show ftake b = (2, [], 0) by unfold ftake; rw [hv])
  clear hv hT
  go_enter Tryz.func101, Tryz.ntmps101
  go_wp2_with fail
  refine HT.out.mono ?_
  rintro e w1 ⟨rfl, hb1⟩
  have HB1 := Lib.hid' hb1
  clear hb1
  go_wp2
  refine bodyPost_ret (v := .tuple #[.slice none 0 0, .int .i64 0, .int .i64 2]) (by simp [results, Tryz.results101, go_sem]) rfl ?_
  rw [HR.out]; exact RTake04R.bad HB1.out
 | some q =>
 obtain ⟨n, k⟩ := q
 rw [hv] at hT
 simp only [RTake01] at hT
 have HT := Lib.hid' hT
 obtain ⟨_, hn, hk10, hkl, hk0⟩ := vtake_some hv
 by_cases h1 : 65536 < n
 ·have HR := Zh (show ftake b = (3, [], 0) by unfold ftake; rw [hv]; simp only [h1, if_true])
  clear hv hT
  go_enter Tryz.func101, Tryz.ntmps101
  go_wp2_with fail
  refine HT.out.mono ?_
  rintro e w1 ⟨rfl, hb1⟩
  have HB1 := Lib.hid' hb1
  clear hb1
  go_wp2
  refine bodyPost_ret (v := .tuple #[.slice none 0 0, .int .i64 0, .int .i64 3]) (by simp [results, Tryz.results101, go_sem]) rfl ?_
  rw [HR.out]; exact RTake04R.bad HB1.out
 by_cases h2 : b.length < k + n + 4
 ·have HR := Zh (show ftake b = (2, [], 0) by unfold ftake; rw [hv]; simp only [h1, h2, if_true, if_false])
  have h2' : (b.length : Int) < (k : Int) + n + 4 := by omega
  clear hv hT h2
  go_enter Tryz.func101, Tryz.ntmps101
  go_wp2_with fail
  refine HT.out.mono ?_
  rintro e w1 ⟨rfl, hb1⟩
  have HB1 := Lib.hid' hb1
  clear hb1
  go_wp2
  refine bodyPost_ret (v := .tuple #[.slice none 0 0, .int .i64 0, .int .i64 2]) (by simp [results, Tryz.results101, go_sem]) rfl ?_
  rw [HR.out]; exact RTake04R.bad HB1.out
 obtain ⟨E, hE⟩ : ∃ E, E = k + n := ⟨_, rfl⟩
 have HR := Zh (show ftake b = if four (crcOf 0 (b.take E)) = (b.drop E).take 4 then (0, (b.take E).drop k, E + 4) else (11, [], 0) by unfold ftake; rw [hv, hE]; simp only [h1, h2, if_false])
 have h2' : ¬ (b.length : Int) < (k : Int) + n + 4 := by omega
 have hE4 : E + 4 ≤ b.length := by omega
 have hkE : k ≤ E := by omega
 have HE := Zh (show (k : Int) + (n : Int) = (E : Int) by omega)
 obtain ⟨bb, off, rfl, hq1, hq2⟩ := bytes_at (l := b) HB.out (show 0 < b.length by omega)
 clear hq1 hq2 hv hT h2 hE
 go_enter Tryz.func101, Tryz.ntmps101
 go_wp2_with fail
 refine HT.out.mono ?_
 rintro e w1 ⟨rfl, hb1⟩
 have HB1 := Lib.hid' hb1
 have HD1 := Zh (show Bytes w1 (.slice (some ⟨bb, off, none⟩) b.length c) b from SlV.below HB.out (Nat.le_refl _) hb1)
 clear hb1
 go_upto_region 9 with fail
 rw [HE.out]
 clear h2'
 obtain ⟨A, hA⟩ : ∃ A, A = four (crcOf 0 (b.take E)) := ⟨_, rfl⟩
 obtain ⟨B, hB⟩ : ∃ B, B = (b.drop E).take 4 := ⟨_, rfl⟩
 have HA := Lib.hid' hA
 have HBB := Lib.hid' hB
 have hal : A.length = 4 := by rw [hA]; exact four_length _
 have hdr : Below w1.heap.size w1 w1.drew := Below.drew (Below.refl _ _)
 have htk := bytes_take HD1.out (k := E) (by omega)
 have hdk : Bytes w1 (.slice (some ⟨bb, off + E, none⟩) 4 (c - E)) B := by
  have h3 := bytes_drop HD1.out (k := E) (by omega)
  have h4 := bytes_take h3 (k := 4) (by rw [List.length_drop]; omega)
  rw [← hB] at h4
  exact h4
 have hsu := rSum_any (some ⟨bb, off, none⟩) c (b.take E) w1.drew (by rw [List.length_take, Nat.min_eq_left (by omega)]; exact SlV.below htk (Nat.le_refl _) hdr)
 rw [List.length_take, Nat.min_eq_left (show E ≤ b.length by omega)] at hsu
 obtain ⟨x, hx⟩ : ∃ x, x = crcOf 0 (b.take E) := ⟨_, rfl⟩
 have hx32 : x < 4294967296 := by rw [hx]; exact crcOf_lt (s := 0) (by decide) (b.take E)
 have hfo := fun wq => rFour_any x hx32 wq
 rw [hx, ← hA, ← hx] at hfo
 rw [← hx] at hsu
 have HSU := Lib.hid' hsu
 clear hsu
 have HFO := Lib.hid' hfo
 have HDK := Lib.hid' hdk
 have hb0 := run_string_of (P := Tryz.prog) 22 5 9 Tryz.underlying22 Tryz.underlying5 Tryz.underlying9 (w := w1.drew) (SlV.below hdk (Nat.le_refl _) hdr)
 clear hA hB hfo hdk hx htk
 have hEc : E + 4 ≤ c := by omega
 by_cases hAB : A = B
 ·have hyes : (strOf A).toList = (strOf B).toList := by rw [hAB]
  have HR2 := Zh (show ftake b = (0, (b.take E).drop k, E + 4) by rw [HR.out, if_pos (by rw [← HA.out, ← HBB.out]; exact hAB)])
  clear hAB
  refine wp_region_held_drew (S := (fun _ => True)) (by kernel_rfl) trivial (fun hH0 => ?_)
  refine tA 0 (.slice (some ⟨bb, off, none⟩) b.length c) rfl hH0 ?_ ?_
  ·intro w hSw; go_simp
  simp only [Act.put, gA, gZ, gS, sA, sZ, sS]
  refine tA 1 (.int .i64 (E : Int)) rfl hH0 ?_ ?_
  ·intro w hSw; go_simp
  simp only [Act.put, gA, gZ, gS, sA, sZ, sS]
  refine tA 2 (.slice (some ⟨bb, off, none⟩) E c) rfl hH0 ?_ ?_
  ·intro w hSw; go_simp; (try (intro h; exfalso; omega))
  simp only [Act.put, gA, gZ, gS, sA, sZ, sS]
  refine tA 6 (.slice (some ⟨bb, off, none⟩) b.length c) rfl hH0 ?_ ?_
  ·intro w hSw; go_simp
  simp only [Act.put, gA, gZ, gS, sA, sZ, sS]
  refine tA 7 (.int .i64 (E : Int)) rfl hH0 ?_ ?_
  ·intro w hSw; go_simp
  simp only [Act.put, gA, gZ, gS, sA, sZ, sS]
  refine tA 8 (.int .i64 (E : Int)) rfl hH0 ?_ ?_
  ·intro w hSw; go_simp
  simp only [Act.put, gA, gZ, gS, sA, sZ, sS]
  refine tA 9 (.int .i64 ((E : Int) + 4)) rfl hH0 ?_ ?_
  ·intro w hSw; go_simp; first | exact IntWalk.i64_in _ (by omega) | exact IntWalk.i64_in _ (by omega) (by omega)
  simp only [Act.put, gA, gZ, gS, sA, sZ, sS]
  refine tA 10 (.slice (some ⟨bb, off + E, none⟩) 4 (c - E)) rfl hH0 ?_ ?_
  ·intro w hSw; go_simp; rw [if_pos ⟨by omega, by omega⟩, if_pos (show E ≤ ((E : Int) + 4).toNat by omega), if_neg (show ¬ c = E by omega), show ((E : Int) + 4).toNat - E = 4 by omega]; (try rfl)
  simp only [Act.put, gA, gZ, gS, sA, sZ, sS]
  refine wpAnyH_ready (rs := [3, 11]) (by kernel_rfl) (by simp) (AllReadyH.cons (o := _) rfl (fun K hK => ?_) (AllReadyH.cons (o := _) rfl (fun K hK => ?_) AllReadyH.nil))
  ·skip
   go_simp
   refine HSU.out.mono ?_
   rintro en wq ⟨rfl, rfl⟩
   refine hK.out _ _ ?_ (fun hH1 => ?_)
   ·trivial
   clear hK K
   refine wpAnyH_ready (rs := [4, 11]) (by kernel_rfl) (by simp) (AllReadyH.cons (o := _) rfl (fun K hK => ?_) (AllReadyH.cons (o := _) rfl (fun K hK => ?_) AllReadyH.nil))
   ·skip
    go_simp
    refine (HFO.out _).mono ?_
    rintro en w2 ⟨a2, c2, rfl, ho2, hb2⟩
    have HB2 := Zh (show Below w1.heap.size w1 w2 from hdr.trans hb2)
    have hy2 := show Bytes w2 (.slice a2 A.length c2) A from SlV.of_own (by rw [hal]; exact ho2)
    rw [hal] at hy2
    have ha2 := run_string_of (P := Tryz.prog) 22 5 9 Tryz.underlying22 Tryz.underlying5 Tryz.underlying9 (w := w2) hy2
    have hb2s := run_string_of (P := Tryz.prog) 22 5 9 Tryz.underlying22 Tryz.underlying5 Tryz.underlying9 (w := w2) (SlV.below HDK.out (Nat.le_refl _) HB2.out)
    clear ho2 hb2 hy2
    refine hK.out _ _ ?_ (fun hH2 => ?_)
    ·trivial
    clear hK K
    refine wpAnyH_ready (rs := [5, 11]) (by kernel_rfl) (by simp) (AllReadyH.cons (o := _) rfl (fun K hK => ?_) (AllReadyH.cons (o := _) rfl (fun K hK => ?_) AllReadyH.nil))
    ·skip
     go_simp
     refine hK.out _ _ ?_ (fun hH3 => ?_)
     ·trivial
     clear hK K
     refine rD 11 rfl (fun K hK => ?_)
     go_simp
     refine hK.out _ _ ?_ (fun hH4 => ?_)
     ·trivial
     clear hK K
     refine tA 12 (.bool false) rfl hH4 ?_ ?_
     ·intro w hSw; go_simp; (try exact hyes)
     simp only [Act.put, gA, gZ, gS, sA, sZ, sS]
     refine wpAnyH_done (by kernel_rfl) ?_ _
     have HB3 := Zh (HB1.out.trans (HB2.out.mono HB1.out.size))
     have hds := bytes_drop (bytes_take (SlV.below HD1.out (Nat.le_refl _) HB2.out) (k := E) (by omega)) (k := k) (by rw [List.length_take]; omega)
     rw [List.length_take, Nat.min_eq_left (show E ≤ b.length by omega)] at hds
     have HDS := Lib.hid' hds
     have HLD := Zh (show ((b.take E).drop k).length = E - k by rw [List.length_drop, List.length_take]; omega)
     clear hds ha2 hb2s
     go_wp2
     refine bodyPost_ret (v := .tuple #[.slice (some ⟨bb, off + k, none⟩) (E - k) (c - k), .int .i64 ((E : Int) + 4), .int .i64 0]) (by simp [results, Tryz.results101, go_sem]) rfl ?_
     rw [HR2.out]
     refine ⟨some ⟨bb, off + k, none⟩, c - k, ?_, ?_, HB3.out⟩
     ·simp only [HLD.out]; rfl
     ·simp only [HLD.out]; exact HDS.out
    ·skip
     go_simp
     refine hK.out _ _ ?_ (fun hH3 => ?_)
     ·trivial
     clear hK K
     refine rD 5 rfl (fun K hK => ?_)
     go_simp
     refine hK.out _ _ ?_ (fun hH4 => ?_)
     ·trivial
     clear hK K
     refine tA 12 (.bool false) rfl hH4 ?_ ?_
     ·intro w hSw; go_simp; (try exact hyes)
     simp only [Act.put, gA, gZ, gS, sA, sZ, sS]
     refine wpAnyH_done (by kernel_rfl) ?_ _
     have HB3 := Zh (HB1.out.trans (HB2.out.mono HB1.out.size))
     have hds := bytes_drop (bytes_take (SlV.below HD1.out (Nat.le_refl _) HB2.out) (k := E) (by omega)) (k := k) (by rw [List.length_take]; omega)
     rw [List.length_take, Nat.min_eq_left (show E ≤ b.length by omega)] at hds
     have HDS := Lib.hid' hds
     have HLD := Zh (show ((b.take E).drop k).length = E - k by rw [List.length_drop, List.length_take]; omega)
     clear hds ha2 hb2s
     go_wp2
     refine bodyPost_ret (v := .tuple #[.slice (some ⟨bb, off + k, none⟩) (E - k) (c - k), .int .i64 ((E : Int) + 4), .int .i64 0]) (by simp [results, Tryz.results101, go_sem]) rfl ?_
     rw [HR2.out]
     refine ⟨some ⟨bb, off + k, none⟩, c - k, ?_, ?_, HB3.out⟩
     ·simp only [HLD.out]; rfl
     ·simp only [HLD.out]; exact HDS.out
   ·skip
    go_simp
    refine hK.out _ _ ?_ (fun hH2 => ?_)
    ·trivial
    clear hK K
    refine rD 4 rfl (fun K hK => ?_)
    go_simp
    refine (HFO.out _).mono ?_
    rintro en w2 ⟨a2, c2, rfl, ho2, hb2⟩
    have HB2 := Zh (show Below w1.heap.size w1 w2 from hdr.trans hb2)
    have hy2 := show Bytes w2 (.slice a2 A.length c2) A from SlV.of_own (by rw [hal]; exact ho2)
    rw [hal] at hy2
    have ha2 := run_string_of (P := Tryz.prog) 22 5 9 Tryz.underlying22 Tryz.underlying5 Tryz.underlying9 (w := w2) hy2
    have hb2s := run_string_of (P := Tryz.prog) 22 5 9 Tryz.underlying22 Tryz.underlying5 Tryz.underlying9 (w := w2) (SlV.below HDK.out (Nat.le_refl _) HB2.out)
    clear ho2 hb2 hy2
    refine hK.out _ _ ?_ (fun hH3 => ?_)
    ·trivial
    clear hK K
    refine rD 5 rfl (fun K hK => ?_)
    go_simp
    refine hK.out _ _ ?_ (fun hH4 => ?_)
    ·trivial
    clear hK K
    refine tA 12 (.bool false) rfl hH4 ?_ ?_
    ·intro w hSw; go_simp; (try exact hyes)
    simp only [Act.put, gA, gZ, gS, sA, sZ, sS]
    refine wpAnyH_done (by kernel_rfl) ?_ _
    have HB3 := Zh (HB1.out.trans (HB2.out.mono HB1.out.size))
    have hds := bytes_drop (bytes_take (SlV.below HD1.out (Nat.le_refl _) HB2.out) (k := E) (by omega)) (k := k) (by rw [List.length_take]; omega)
    rw [List.length_take, Nat.min_eq_left (show E ≤ b.length by omega)] at hds
    have HDS := Lib.hid' hds
    have HLD := Zh (show ((b.take E).drop k).length = E - k by rw [List.length_drop, List.length_take]; omega)
    clear hds ha2 hb2s
    go_wp2
    refine bodyPost_ret (v := .tuple #[.slice (some ⟨bb, off + k, none⟩) (E - k) (c - k), .int .i64 ((E : Int) + 4), .int .i64 0]) (by simp [results, Tryz.results101, go_sem]) rfl ?_
    rw [HR2.out]
    refine ⟨some ⟨bb, off + k, none⟩, c - k, ?_, ?_, HB3.out⟩
    ·simp only [HLD.out]; rfl
    ·simp only [HLD.out]; exact HDS.out
  ·skip
   go_simp
   refine hK.out _ _ ?_ (fun hH1 => ?_)
   ·trivial
   clear hK K
   refine rD 3 rfl (fun K hK => ?_)
   go_simp
   refine HSU.out.mono ?_
   rintro en wq ⟨rfl, rfl⟩
   refine hK.out _ _ ?_ (fun hH2 => ?_)
   ·trivial
   clear hK K
   refine rD 4 rfl (fun K hK => ?_)
   go_simp
   refine (HFO.out _).mono ?_
   rintro en w2 ⟨a2, c2, rfl, ho2, hb2⟩
   have HB2 := Zh (show Below w1.heap.size w1 w2 from hdr.trans hb2)
   have hy2 := show Bytes w2 (.slice a2 A.length c2) A from SlV.of_own (by rw [hal]; exact ho2)
   rw [hal] at hy2
   have ha2 := run_string_of (P := Tryz.prog) 22 5 9 Tryz.underlying22 Tryz.underlying5 Tryz.underlying9 (w := w2) hy2
   have hb2s := run_string_of (P := Tryz.prog) 22 5 9 Tryz.underlying22 Tryz.underlying5 Tryz.underlying9 (w := w2) (SlV.below HDK.out (Nat.le_refl _) HB2.out)
   clear ho2 hb2 hy2
   refine hK.out _ _ ?_ (fun hH3 => ?_)
   ·trivial
   clear hK K
   refine rD 5 rfl (fun K hK => ?_)
   go_simp
   refine hK.out _ _ ?_ (fun hH4 => ?_)
   ·trivial
   clear hK K
   refine tA 12 (.bool false) rfl hH4 ?_ ?_
   ·intro w hSw; go_simp; (try exact hyes)
   simp only [Act.put, gA, gZ, gS, sA, sZ, sS]
   refine wpAnyH_done (by kernel_rfl) ?_ _
   have HB3 := Zh (HB1.out.trans (HB2.out.mono HB1.out.size))
   have hds := bytes_drop (bytes_take (SlV.below HD1.out (Nat.le_refl _) HB2.out) (k := E) (by omega)) (k := k) (by rw [List.length_take]; omega)
   rw [List.length_take, Nat.min_eq_left (show E ≤ b.length by omega)] at hds
   have HDS := Lib.hid' hds
   have HLD := Zh (show ((b.take E).drop k).length = E - k by rw [List.length_drop, List.length_take]; omega)
   clear hds ha2 hb2s
   go_wp2
   refine bodyPost_ret (v := .tuple #[.slice (some ⟨bb, off + k, none⟩) (E - k) (c - k), .int .i64 ((E : Int) + 4), .int .i64 0]) (by simp [results, Tryz.results101, go_sem]) rfl ?_
   rw [HR2.out]
   refine ⟨some ⟨bb, off + k, none⟩, c - k, ?_, ?_, HB3.out⟩
   ·simp only [HLD.out]; rfl
   ·simp only [HLD.out]; exact HDS.out
 ·have hyes : ¬ (strOf A).toList = (strOf B).toList := by rw [strOf_toList, strOf_toList]; exact hAB
  have HR2 := Zh (show ftake b = (11, [], 0) by rw [HR.out, if_neg (by rw [← HA.out, ← HBB.out]; exact hAB)])
  clear hAB
  refine wp_region_held_drew (S := (fun _ => True)) (by kernel_rfl) trivial (fun hH0 => ?_)
  refine tA 0 (.slice (some ⟨bb, off, none⟩) b.length c) rfl hH0 ?_ ?_
  ·intro w hSw; go_simp
  simp only [Act.put, gA, gZ, gS, sA, sZ, sS]
  refine tA 1 (.int .i64 (E : Int)) rfl hH0 ?_ ?_
  ·intro w hSw; go_simp
  simp only [Act.put, gA, gZ, gS, sA, sZ, sS]
  refine tA 2 (.slice (some ⟨bb, off, none⟩) E c) rfl hH0 ?_ ?_
  ·intro w hSw; go_simp; (try (intro h; exfalso; omega))
  simp only [Act.put, gA, gZ, gS, sA, sZ, sS]
  refine tA 6 (.slice (some ⟨bb, off, none⟩) b.length c) rfl hH0 ?_ ?_
  ·intro w hSw; go_simp
  simp only [Act.put, gA, gZ, gS, sA, sZ, sS]
  refine tA 7 (.int .i64 (E : Int)) rfl hH0 ?_ ?_
  ·intro w hSw; go_simp
  simp only [Act.put, gA, gZ, gS, sA, sZ, sS]
  refine tA 8 (.int .i64 (E : Int)) rfl hH0 ?_ ?_
  ·intro w hSw; go_simp
  simp only [Act.put, gA, gZ, gS, sA, sZ, sS]
  refine tA 9 (.int .i64 ((E : Int) + 4)) rfl hH0 ?_ ?_
  ·intro w hSw; go_simp; first | exact IntWalk.i64_in _ (by omega) | exact IntWalk.i64_in _ (by omega) (by omega)
  simp only [Act.put, gA, gZ, gS, sA, sZ, sS]
  refine tA 10 (.slice (some ⟨bb, off + E, none⟩) 4 (c - E)) rfl hH0 ?_ ?_
  ·intro w hSw; go_simp; rw [if_pos ⟨by omega, by omega⟩, if_pos (show E ≤ ((E : Int) + 4).toNat by omega), if_neg (show ¬ c = E by omega), show ((E : Int) + 4).toNat - E = 4 by omega]; (try rfl)
  simp only [Act.put, gA, gZ, gS, sA, sZ, sS]
  refine wpAnyH_ready (rs := [3, 11]) (by kernel_rfl) (by simp) (AllReadyH.cons (o := _) rfl (fun K hK => ?_) (AllReadyH.cons (o := _) rfl (fun K hK => ?_) AllReadyH.nil))
  ·skip
   go_simp
   refine HSU.out.mono ?_
   rintro en wq ⟨rfl, rfl⟩
   refine hK.out _ _ ?_ (fun hH1 => ?_)
   ·trivial
   clear hK K
   refine wpAnyH_ready (rs := [4, 11]) (by kernel_rfl) (by simp) (AllReadyH.cons (o := _) rfl (fun K hK => ?_) (AllReadyH.cons (o := _) rfl (fun K hK => ?_) AllReadyH.nil))
   ·skip
    go_simp
    refine (HFO.out _).mono ?_
    rintro en w2 ⟨a2, c2, rfl, ho2, hb2⟩
    have HB2 := Zh (show Below w1.heap.size w1 w2 from hdr.trans hb2)
    have hy2 := show Bytes w2 (.slice a2 A.length c2) A from SlV.of_own (by rw [hal]; exact ho2)
    rw [hal] at hy2
    have ha2 := run_string_of (P := Tryz.prog) 22 5 9 Tryz.underlying22 Tryz.underlying5 Tryz.underlying9 (w := w2) hy2
    have hb2s := run_string_of (P := Tryz.prog) 22 5 9 Tryz.underlying22 Tryz.underlying5 Tryz.underlying9 (w := w2) (SlV.below HDK.out (Nat.le_refl _) HB2.out)
    clear ho2 hb2 hy2
    refine hK.out _ _ ?_ (fun hH2 => ?_)
    ·trivial
    clear hK K
    refine wpAnyH_ready (rs := [5, 11]) (by kernel_rfl) (by simp) (AllReadyH.cons (o := _) rfl (fun K hK => ?_) (AllReadyH.cons (o := _) rfl (fun K hK => ?_) AllReadyH.nil))
    ·skip
     go_simp
     refine hK.out _ _ ?_ (fun hH3 => ?_)
     ·trivial
     clear hK K
     refine rD 11 rfl (fun K hK => ?_)
     go_simp
     refine hK.out _ _ ?_ (fun hH4 => ?_)
     ·trivial
     clear hK K
     refine tA 12 (.bool true) rfl hH4 ?_ ?_
     ·intro w hSw; go_simp; (try exact hyes)
     simp only [Act.put, gA, gZ, gS, sA, sZ, sS]
     refine wpAnyH_done (by kernel_rfl) ?_ _
     have HB3 := Zh (HB1.out.trans (HB2.out.mono HB1.out.size))
     go_wp2
     refine bodyPost_ret (v := .tuple #[.slice none 0 0, .int .i64 0, .int .i64 11]) (by simp [results, Tryz.results101, go_sem]) rfl ?_
     rw [HR2.out]; exact RTake04R.bad HB3.out
    ·skip
     go_simp
     refine hK.out _ _ ?_ (fun hH3 => ?_)
     ·trivial
     clear hK K
     refine rD 5 rfl (fun K hK => ?_)
     go_simp
     refine hK.out _ _ ?_ (fun hH4 => ?_)
     ·trivial
     clear hK K
     refine tA 12 (.bool true) rfl hH4 ?_ ?_
     ·intro w hSw; go_simp; (try exact hyes)
     simp only [Act.put, gA, gZ, gS, sA, sZ, sS]
     refine wpAnyH_done (by kernel_rfl) ?_ _
     have HB3 := Zh (HB1.out.trans (HB2.out.mono HB1.out.size))
     go_wp2
     refine bodyPost_ret (v := .tuple #[.slice none 0 0, .int .i64 0, .int .i64 11]) (by simp [results, Tryz.results101, go_sem]) rfl ?_
     rw [HR2.out]; exact RTake04R.bad HB3.out
   ·skip
    go_simp
    refine hK.out _ _ ?_ (fun hH2 => ?_)
    ·trivial
    clear hK K
    refine rD 4 rfl (fun K hK => ?_)
    go_simp
    refine (HFO.out _).mono ?_
    rintro en w2 ⟨a2, c2, rfl, ho2, hb2⟩
    have HB2 := Zh (show Below w1.heap.size w1 w2 from hdr.trans hb2)
    have hy2 := show Bytes w2 (.slice a2 A.length c2) A from SlV.of_own (by rw [hal]; exact ho2)
    rw [hal] at hy2
    have ha2 := run_string_of (P := Tryz.prog) 22 5 9 Tryz.underlying22 Tryz.underlying5 Tryz.underlying9 (w := w2) hy2
    have hb2s := run_string_of (P := Tryz.prog) 22 5 9 Tryz.underlying22 Tryz.underlying5 Tryz.underlying9 (w := w2) (SlV.below HDK.out (Nat.le_refl _) HB2.out)
    clear ho2 hb2 hy2
    refine hK.out _ _ ?_ (fun hH3 => ?_)
    ·trivial
    clear hK K
    refine rD 5 rfl (fun K hK => ?_)
    go_simp
    refine hK.out _ _ ?_ (fun hH4 => ?_)
    ·trivial
    clear hK K
    refine tA 12 (.bool true) rfl hH4 ?_ ?_
    ·intro w hSw; go_simp; (try exact hyes)
    simp only [Act.put, gA, gZ, gS, sA, sZ, sS]
    refine wpAnyH_done (by kernel_rfl) ?_ _
    have HB3 := Zh (HB1.out.trans (HB2.out.mono HB1.out.size))
    go_wp2
    refine bodyPost_ret (v := .tuple #[.slice none 0 0, .int .i64 0, .int .i64 11]) (by simp [results, Tryz.results101, go_sem]) rfl ?_
    rw [HR2.out]; exact RTake04R.bad HB3.out
  ·skip
   go_simp
   refine hK.out _ _ ?_ (fun hH1 => ?_)
   ·trivial
   clear hK K
   refine rD 3 rfl (fun K hK => ?_)
   go_simp
   refine HSU.out.mono ?_
   rintro en wq ⟨rfl, rfl⟩
   refine hK.out _ _ ?_ (fun hH2 => ?_)
   ·trivial
   clear hK K
   refine rD 4 rfl (fun K hK => ?_)
   go_simp
   refine (HFO.out _).mono ?_
   rintro en w2 ⟨a2, c2, rfl, ho2, hb2⟩
   have HB2 := Zh (show Below w1.heap.size w1 w2 from hdr.trans hb2)
   have hy2 := show Bytes w2 (.slice a2 A.length c2) A from SlV.of_own (by rw [hal]; exact ho2)
   rw [hal] at hy2
   have ha2 := run_string_of (P := Tryz.prog) 22 5 9 Tryz.underlying22 Tryz.underlying5 Tryz.underlying9 (w := w2) hy2
   have hb2s := run_string_of (P := Tryz.prog) 22 5 9 Tryz.underlying22 Tryz.underlying5 Tryz.underlying9 (w := w2) (SlV.below HDK.out (Nat.le_refl _) HB2.out)
   clear ho2 hb2 hy2
   refine hK.out _ _ ?_ (fun hH3 => ?_)
   ·trivial
   clear hK K
   refine rD 5 rfl (fun K hK => ?_)
   go_simp
   refine hK.out _ _ ?_ (fun hH4 => ?_)
   ·trivial
   clear hK K
   refine tA 12 (.bool true) rfl hH4 ?_ ?_
   ·intro w hSw; go_simp; (try exact hyes)
   simp only [Act.put, gA, gZ, gS, sA, sZ, sS]
   refine wpAnyH_done (by kernel_rfl) ?_ _
   have HB3 := Zh (HB1.out.trans (HB2.out.mono HB1.out.size))
   go_wp2
   refine bodyPost_ret (v := .tuple #[.slice none 0 0, .int .i64 0, .int .i64 11]) (by simp [results, Tryz.results101, go_sem]) rfl ?_
   rw [HR2.out]; exact RTake04R.bad HB3.out
end Go.Proofs.YtddlkkmdcfamiaaGreatDoor

namespace Go.Proofs.YtddlkkmdcfamiaaGreatDoor
open Go.RowKit

def RByt01R (p : List UInt8 × RD) (w0 w : World) (e : Ending) (w' : World) : Prop :=
 ∃ ta tc a c, e = .returned (.tuple #[.slice ta p.1.length tc, rdV p.2 a c]) ∧ Bytes w0 (.slice ta p.1.length tc) p.1 ∧ Bytes w0 (.slice a p.2.rest.length c) p.2.rest ∧ Below w.heap.size w w'
theorem fail_rest (r : RD) (n : Nat) : (r.fail n).rest = r.rest := by unfold RD.fail; split <;> rfl
set_option maxHeartbeats 2000000 in
theorem rfixed01_any (r : RD) (a : Option Addr) (c n : Nat) (hn : n ≤ 1099511627776) (w0 w : World) (h : Bytes w0 (.slice a r.rest.length c) r.rest) :
  Calls Tryz.prog 143 #[rdV r a c, .int .i64 (n : Nat)] w (RByt01R (r.fixed n) w0 w) := by
 have HD := Lib.hid' h
 have hbl := bytes_len h
 have hcap : r.rest.length ≤ c ∧ c ≤ maxLen := by obtain ⟨_, _, he, h1, h2, _⟩ := h; cases he; exact ⟨h1, h2⟩
 have hcm : c ≤ 9223372036854775807 := by have := hcap.2; unfold maxLen at this; omega
 have hcl : r.rest.length ≤ c := hcap.1
 clear h hcap
 obtain ⟨p, hp⟩ : ∃ p, p = r.fixed n := ⟨_, rfl⟩
 have HP := Lib.hid' hp
 rw [← hp]
 have HV := Zh (show rdV r a c = .agg #[.slice a r.rest.length c, .int .i64 (r.bad : Nat)] from rfl)
 rw [HV.out]
 clear hp
 by_cases hb : r.bad = 0
 rotate_left
 ·skip
  have HRET := Zh (show ∀ wq, Below w.heap.size w wq → RByt01R p w0 w (.returned (.tuple #[.slice none 0 0, .agg #[.slice a r.rest.length c, .int .i64 (r.bad : Nat)]])) wq from fun wq hq => by
   rw [HP.out, show r.fixed n = ([], r) by unfold RD.fixed; rw [if_pos hb]]; exact ⟨none, 0, a, c, rfl, SlV.empty _ _ _ (Nat.zero_le _) (fun _ => rfl), HD.out, hq⟩)
  have hbb : ((r.bad : Int) != 0) = true := by rw [bne_iff_ne]; omega
  clear hb
  go_enter Tryz.func143, Tryz.ntmps143
  go_wp2_with fail
  go_region
  all_goals
   go_wp2
   refine bodyPost_ret (v := .tuple #[.slice none 0 0, .agg #[.slice a r.rest.length c, .int .i64 (r.bad : Nat)]]) (by simp [results, Tryz.results143, go_sem]) rfl ?_
   exact HRET.out _ (by go_grown)
 have HBD := Lib.hid' hb
 have hbb : ((r.bad : Int) != 0) = false := by rw [bne_eq_false_iff_eq]; omega
 clear hb
 by_cases hq : r.rest.length < n
 ·skip
  have HPE := Zh (show p = ([], r.fail 2) by rw [HP.out]; unfold RD.fixed; rw [if_neg (by simpa using HBD.out), if_pos hq])
  have hq2 : ¬ n ≤ r.rest.length := by omega
  have hq3 : (r.rest.length : Int) < (n : Int) := by omega
  have HFA := Zh (fun wq => rfail01_any r a c 2 (by omega) wq)
  rw [HV.out] at HFA
  go_enter Tryz.func143, Tryz.ntmps143
  go_wp2_with fail
  have H0 : Sep w NoF [] w := Sep.start _
  have H1 : Sep w NoF [.box (w.heap.size + 1) [.slice none 0 0, .int .i64 0] 122, .box (w.heap.size) [.slice a r.rest.length c, .int .i64 (r.bad : Nat)] 122] (((w.alloc (.cells #[.slice a r.rest.length c, .int .i64 (r.bad : Nat)] 122)).alloc (.cells #[.slice none 0 0, .int .i64 0] 122))) := ((H0.allocAt (w.heap.size) [.slice a r.rest.length c, .int .i64 (r.bad : Nat)] 122 (by simp)).allocAt (w.heap.size + 1) [.slice none 0 0, .int .i64 0] 122 (by simp))
  clear H0
  generalize ((w.alloc (.cells #[.slice a r.rest.length c, .int .i64 (r.bad : Nat)] 122)).alloc (.cells #[.slice none 0 0, .int .i64 0] 122)) = w1 at *
  refine (HFA.out _).mono ?_
  rintro e w2 ⟨rfl, hb2⟩
  have H2 : Sep w NoF [.box (w.heap.size + 1) [.slice none 0 0, .int .i64 0] 122, .box (w.heap.size) [.slice a r.rest.length c, .int .i64 (r.bad : Nat)] 122] (w2) := (H1.below hb2)
  clear H1 hb2
  obtain ⟨s1, hs1⟩ : ∃ s1, s1 = r.fail 2 := ⟨_, rfl⟩
  have HRET := Zh (show ∀ wq, Below w.heap.size w wq → RByt01R p w0 w (.returned (.tuple #[.slice none 0 0, .agg #[.slice a s1.rest.length c, .int .i64 (s1.bad : Nat)]])) wq from fun wq hq => by
   rw [HPE.out, ← hs1]; exact ⟨none, 0, a, c, rfl, SlV.empty _ _ _ (Nat.zero_le _) (fun _ => rfl), by rw [show s1.rest = r.rest by rw [hs1, fail_rest]]; exact HD.out, hq⟩)
  rw [← hs1]
  clear hs1
  unfold rdV
  have Rc0 := H2.cell 1 rfl 0 rfl
  have Rc1 := H2.cell 1 rfl 1 rfl
  have Rl := H2.lt 1 rfl
  have Zc0 := H2.cell 0 rfl 0 rfl
  have Zc1 := H2.cell 0 rfl 1 rfl
  have Zf0 := H2.free 0 rfl 0
  have Zf1 := H2.free 0 rfl 1
  have Zl := H2.lt 0 rfl
  have RnZ := H2.ne 1 0 rfl rfl (by decide)
  have ZnR := H2.ne 0 1 rfl rfl (by decide)
  go_wp2
  refine bodyPost_ret (v := .tuple #[.slice none 0 0, .agg #[.slice a s1.rest.length c, .int .i64 (s1.bad : Nat)]]) (by simp [results, Tryz.results143, go_sem, Zc0, Zc1]) rfl (HRET.out _ ((H2.toBelow.setCell (by simp) _).setCell (by simp) _))
 have HPE := Zh (show p = (r.rest.take n, ⟨r.rest.drop n, 0⟩) by rw [HP.out]; unfold RD.fixed; rw [if_neg (by simpa using HBD.out), if_neg hq, HBD.out])
 have hq2 : n ≤ r.rest.length := by omega
 have hq3 : ¬ (r.rest.length : Int) < (n : Int) := by omega
 have hmc : n ≤ c := by omega
 have HTK := Zh (show Bytes w0 (.slice a (r.rest.take n).length c) (r.rest.take n) by rw [show (r.rest.take n).length = n by rw [List.length_take]; omega]; exact bytes_take HD.out hq2)
 have HDL := Zh (show (r.rest.drop n).length = r.rest.length - n from List.length_drop)
 have HTL := Zh (show (r.rest.take n).length = n by rw [List.length_take]; omega)
 have HRET := Zh (show ∀ a2, Bytes w0 (.slice a2 (r.rest.drop n).length (c - n)) (r.rest.drop n) → ∀ wq, Below w.heap.size w wq → RByt01R p w0 w (.returned (.tuple #[.slice a n c, .agg #[.slice a2 (r.rest.length - n) (c - n), .int .i64 (r.bad : Nat)]])) wq from fun a2 hd wq hq => by
  rw [HPE.out]; refine ⟨a, c, a2, c - n, ?_, HTK.out, hd, hq⟩
  simp only [rdV, HTL.out, HDL.out, HBD.out])
 clear hq
 have hadr : (∃ bb off, a = some ⟨bb, off, none⟩) ∨ r.rest.length = 0 := by
  rcases Nat.eq_zero_or_pos r.rest.length with h0 | h0
  ·exact .inr h0
  ·obtain ⟨bb, off, e, _⟩ := bytes_at HD.out h0; exact .inl ⟨bb, off, e⟩
 have HNN := Zh (show a = none → c = 0 by obtain ⟨_, _, he, _, _, h0, _⟩ := HD.out; cases he; exact h0)
 have FIN := Zh (show ∀ (a3 : Option Addr), ((∃ bb off, a = some ⟨bb, off, none⟩ ∧ a3 = some ⟨bb, off + n, none⟩) ∨ r.rest.length = n) → (a3 = none → c = n) → ∀ wq, Below w.heap.size w wq → RByt01R p w0 w (.returned (.tuple #[.slice a n c, .agg #[.slice a3 (r.rest.length - n) (c - n), .int .i64 (r.bad : Nat)]])) wq from fun a3 h3 h4 wq hq => HRET.out a3 (bytes_sub HD.out hq2 a3 h3 h4) wq hq)
 clear HRET HTK HDL HTL HPE HBD
 rcases hadr with ⟨bb, off, rfl⟩ | h0
 ·skip
  by_cases hkc : c = n
  ·skip
   have HF := Zh (FIN.out (some ⟨bb, off, none⟩) (.inr (by omega)) (by simp))
   subst hkc
   obtain rfl : c = r.rest.length := by omega
   rw [Nat.sub_self] at HF
   go_enter Tryz.func143, Tryz.ntmps143
   go_wp2_with fail
   go_region
   all_goals
    go_wp2
    refine bodyPost_ret (v := .tuple #[.slice (some ⟨bb, off, none⟩) r.rest.length r.rest.length, .agg #[.slice (some ⟨bb, off, none⟩) 0 0, .int .i64 (r.bad : Nat)]]) (by simp [results, Tryz.results143, go_sem]) rfl ?_
    exact HF.out _ (by go_grown)
  ·skip
   have hlt : n < c := by omega
   have HF := Zh (FIN.out (some ⟨bb, off + n, none⟩) (.inl ⟨bb, off, rfl, rfl⟩) (by simp))
   go_enter Tryz.func143, Tryz.ntmps143
   go_wp2_with fail
   go_region
   all_goals
    go_wp2
    refine bodyPost_ret (v := .tuple #[.slice (some ⟨bb, off, none⟩) n c, .agg #[.slice (some ⟨bb, off + n, none⟩) (r.rest.length - n) (c - n), .int .i64 (r.bad : Nat)]]) (by simp [results, Tryz.results143, go_sem]) rfl ?_
    exact HF.out _ (by go_grown)
 ·skip
  obtain rfl : n = 0 := by omega
  cases a with
  | none =>
   obtain rfl := HNN.out rfl
   have HF := Zh (FIN.out none (.inr (by omega)) (fun _ => rfl))
   simp only [h0, Nat.sub_zero] at HF
   go_enter Tryz.func143, Tryz.ntmps143
   go_wp2_with fail
   go_region
   all_goals
    go_wp2
    refine bodyPost_ret (v := .tuple #[.slice none 0 0, .agg #[.slice none 0 0, .int .i64 (r.bad : Nat)]]) (by simp [results, Tryz.results143, go_sem]) rfl ?_
    exact HF.out _ (by go_grown)
  | some pa =>
   have HF := Zh (FIN.out (some pa) (.inr (by omega)) (by simp))
   simp only [h0, Nat.sub_zero] at HF
   go_enter Tryz.func143, Tryz.ntmps143
   go_wp2_with fail
   go_region
   all_goals
    go_wp2
    refine bodyPost_ret (v := .tuple #[.slice (some pa) 0 c, .agg #[.slice (some pa) 0 c, .int .i64 (r.bad : Nat)]]) (by simp [results, Tryz.results143, go_sem]) rfl ?_
    exact HF.out _ (by go_grown)
set_option maxHeartbeats 2000000 in
theorem rtext01_any (r : RD) (a : Option Addr) (c most : Nat) (hm : most ≤ 1099511627776) (w0 w : World) (h : Bytes w0 (.slice a r.rest.length c) r.rest) (hb0 : Below w0.heap.size w0 w) :
  Calls Tryz.prog 104 #[rdV r a c, .int .i64 (most : Nat)] w (RByt01R (r.text most) w0 w) := by
 have HD := Lib.hid' h
 have HB0 := Lib.hid' hb0
 have hbl := bytes_len h
 clear h hb0
 have HV := Zh (show rdV r a c = .agg #[.slice a r.rest.length c, .int .i64 (r.bad : Nat)] from rfl)
 rw [HV.out]
 go_enter Tryz.func104, Tryz.ntmps104
 go_wp2_with fail
 have H0 : Sep w NoF [] w := Sep.start _
 have H1 : Sep w NoF [.box (w.heap.size + 1) [.slice none 0 0, .int .i64 0] 122, .box (w.heap.size) [.slice a r.rest.length c, .int .i64 (r.bad : Nat)] 122] (((w.alloc (.cells #[.slice a r.rest.length c, .int .i64 (r.bad : Nat)] 122)).alloc (.cells #[.slice none 0 0, .int .i64 0] 122))) := ((H0.allocAt (w.heap.size) [.slice a r.rest.length c, .int .i64 (r.bad : Nat)] 122 (by simp)).allocAt (w.heap.size + 1) [.slice none 0 0, .int .i64 0] 122 (by simp))
 clear H0
 generalize ((w.alloc (.cells #[.slice a r.rest.length c, .int .i64 (r.bad : Nat)] 122)).alloc (.cells #[.slice none 0 0, .int .i64 0] 122)) = w1 at *
 obtain ⟨n, hn⟩ : ∃ n, n = (r.count most).1 := ⟨_, rfl⟩
 obtain ⟨s, hs⟩ : ∃ s, s = (r.count most).2 := ⟨_, rfl⟩
 have HPE := Zh (show r.text most = s.fixed n by rw [hn, hs]; rfl)
 have hnm : n ≤ most := by rw [hn]; exact count_le r most
 have hct := rcount01_any r a c most (by omega) w0 w1 HD.out (HB0.out.trans (H1.toBelow.mono HB0.out.size))
 unfold RInt01R at hct
 rw [← hn, ← hs] at hct
 clear hn hs
 refine hct.mono ?_
 clear hct
 rintro e w2 ⟨a2, c2, rfl, hy2, hb2⟩
 have HY2 := Lib.hid' hy2
 clear hy2
 have H2 : Sep w NoF [.box (w.heap.size + 1) [.slice none 0 0, .int .i64 0] 122, .box (w.heap.size) [.slice a r.rest.length c, .int .i64 (r.bad : Nat)] 122] (w2) := (H1.below hb2)
 clear H1 hb2
 unfold rdV
 have Rc0 := H2.cell 1 rfl 0 rfl
 have Rc1 := H2.cell 1 rfl 1 rfl
 have Rf0 := H2.free 1 rfl 0
 have Rf1 := H2.free 1 rfl 1
 have Rl := H2.lt 1 rfl
 have Zc0 := H2.cell 0 rfl 0 rfl
 have Zc1 := H2.cell 0 rfl 1 rfl
 have Zf0 := H2.free 0 rfl 0
 have Zf1 := H2.free 0 rfl 1
 have Zl := H2.lt 0 rfl
 have RnZ := H2.ne 1 0 rfl rfl (by decide)
 have ZnR := H2.ne 0 1 rfl rfl (by decide)
 go_wp2_with fail
 have H3 : Sep w NoF [.box (w.heap.size) [.slice a2 s.rest.length c2, .int .i64 (s.bad : Nat)] 122, .box (w.heap.size + 1) [.slice none 0 0, .int .i64 0] 122] (((w2.setCell ⟨w.heap.size, 0, none⟩ (.slice a2 s.rest.length c2)).setCell ⟨w.heap.size, 1, none⟩ (.int .i64 (s.bad : Nat)))) := ((H2.set 1 rfl 0 (.slice a2 s.rest.length c2)).set 0 rfl 1 (.int .i64 (s.bad : Nat)))
 clear Rc0 Rc1 Rf0 Rf1 Rl Zc0 Zc1 Zf0 Zf1 Zl RnZ ZnR
 clear H2
 generalize ((w2.setCell ⟨w.heap.size, 0, none⟩ (.slice a2 s.rest.length c2)).setCell ⟨w.heap.size, 1, none⟩ (.int .i64 (s.bad : Nat))) = w3 at *
 refine (rfixed01_any s a2 c2 n (by omega) w0 _ HY2.out).mono ?_
 rintro e w4 ⟨ta, tc, a4, c4, rfl, ht4, hy4, hb4⟩
 have HT4 := Lib.hid' ht4
 have HY4 := Lib.hid' hy4
 clear ht4 hy4
 have H4 : Sep w NoF [.box (w.heap.size) [.slice a2 s.rest.length c2, .int .i64 (s.bad : Nat)] 122, .box (w.heap.size + 1) [.slice none 0 0, .int .i64 0] 122] (w4) := (H3.below hb4)
 clear H3 hb4
 obtain ⟨x, hx⟩ : ∃ x, x = s.fixed n := ⟨_, rfl⟩
 rw [← hx] at HT4 HY4 HPE
 rw [← hx]
 clear hx
 obtain ⟨tx, s4⟩ := x
 simp only at HT4 HY4 ⊢
 unfold rdV
 have Rc0 := H4.cell 0 rfl 0 rfl
 have Rc1 := H4.cell 0 rfl 1 rfl
 have Rf0 := H4.free 0 rfl 0
 have Rf1 := H4.free 0 rfl 1
 have Rl := H4.lt 0 rfl
 have Zc0 := H4.cell 1 rfl 0 rfl
 have Zc1 := H4.cell 1 rfl 1 rfl
 have Zf0 := H4.free 1 rfl 0
 have Zf1 := H4.free 1 rfl 1
 have Zl := H4.lt 1 rfl
 have RnZ := H4.ne 0 1 rfl rfl (by decide)
 have ZnR := H4.ne 1 0 rfl rfl (by decide)
 go_wp2
 refine bodyPost_ret (v := .tuple #[.slice ta tx.length tc, .agg #[.slice a4 s4.rest.length c4, .int .i64 (s4.bad : Nat)]]) (by simp [results, Tryz.results104, go_sem, Zc0, Zc1]) rfl ?_
 rw [HPE.out]
 exact ⟨ta, tc, a4, c4, rfl, HT4.out, HY4.out, (H4.toBelow.setCell (by simp) _).setCell (by simp) _⟩
def ROneR (b : List UInt8) (w : World) (en : Ending) (w' : World) : Prop :=
 ∃ a2 t c2, en = .returned (.tuple #[.slice a2 t.length c2, .int .i64 ((fone b).1 : Nat)]) ∧ Bytes w' (.slice a2 t.length c2) t ∧ ((fone b).1 = 0 → t = (fone b).2) ∧ Below w.heap.size w w'
theorem rone09_any (b : List UInt8) (a : Option Addr) (c : Nat) (w : World) (h : Bytes w (.slice a b.length c) b) :
  Calls Tryz.prog 57 #[.slice a b.length c] w (ROneR b w) := by
 have hbl := bytes_len h
 have hft := rtake04_any b a c w h
 obtain ⟨⟨fe, t, fn⟩, hq⟩ : ∃ q, q = ftake b := ⟨_, rfl⟩
 have HFO := Zh (show fone b = if fe ≠ 0 then (fe, []) else if fn < b.length then (2, []) else (0, t) by unfold fone; rw [← hq])
 rw [← hq] at hft
 unfold RTake04R at hft
 have HFT := Lib.hid' hft
 clear h hft hq
 go_enter Tryz.func57, Tryz.ntmps57
 go_wp2_with fail
 refine HFT.out.mono ?_
 clear HFT
 rintro en w2 ⟨a2, c2, rfl, hy2, hb2⟩
 have HRET := Zh (show ∀ n : Nat, (fone b).1 = n → ((fone b).1 = 0 → t = (fone b).2) → ROneR b w (.returned (.tuple #[.slice a2 t.length c2, .int .i64 (n : Nat)])) w2 from fun n hn ht => by
  subst hn; exact ⟨a2, t, c2, rfl, hy2, ht, hb2⟩)
 clear hy2 hb2
 simp only
 by_cases hf0 : fe = 0
 ·subst hf0
  by_cases hfn : fn < b.length
  ·have HR := Zh (HRET.out 2 (by rw [HFO.out, if_neg (by simp), if_pos hfn]) (by rw [HFO.out, if_neg (by simp), if_pos hfn]; intro h; cases h))
   go_wp2
   go_ret2
   exact HR.out
  ·have HR := Zh (HRET.out 0 (by rw [HFO.out, if_neg (by simp), if_neg hfn]) (by rw [HFO.out, if_neg (by simp), if_neg hfn]; intro h; rfl))
   have hfb : ¬ (fn : Int) < (b.length : Int) := by omega
   go_wp2
   go_ret2
   exact HR.out
 ·have HR := Zh (HRET.out fe (by rw [HFO.out, if_pos hf0]) (by rw [HFO.out, if_pos hf0]; intro h; exact absurd h hf0))
  have hbb : ((fe : Int) == 0) = false := by rw [beq_eq_false_iff_ne]; omega
  clear hf0
  go_wp2
  go_ret2
  exact HR.out
end Go.Proofs.YtddlkkmdcfamiaaGreatDoor
