/- slices.Chunk: a row of whole blocks, block by block. -/
import Derived.Test.YtinbcehlpfnlaaaGreatDoorShaM
import Derived.Test.YtinbcehlpfnlaaaGreatDoorCell
import Derived.RangeFuncNested
import Derived.RangeFuncBound
import Derived.RangeFuncCalls
import Derived.RangeFuncLeaves
import Derived.Shelf.Abstract
import Derived.Shelf.RegionOpen
import Derived.WalkKit
import Derived.OwnWalkIn
import Derived.TacticsInMore
import Derived.LoopNIn
import Derived.LoopIn
namespace Go.Proofs.YtinbcehlpfnlaaaGreatDoor
open Go.RowKit Go.Shelf
set_option linter.unusedSimpArgs false
set_option linter.unusedVariables false
set_option maxRecDepth 100000
attribute [local go_sem] Oper.semAt_some

def uptoF (m k : Nat) : List (Fin m) := (List.range k).filterMap (fun i => if h : i < m then some ⟨i, h⟩ else none)
theorem uptoF_succ (m k : Nat) (h : k < m) : uptoF m (k + 1) = uptoF m k ++ [⟨k, h⟩] := by simp [uptoF, List.range_succ, h]
theorem uptoF_len (m k : Nat) (h : k ≤ m) : (uptoF m k).length = k := by
  induction k with
  | zero => rfl
  | succ k ih => rw [uptoF_succ m k (by omega), List.length_append, ih (by omega)]; rfl
theorem uptoF_val (m k : Nat) (h : k ≤ m) : (uptoF m k).map (·.1) = List.range k := by
  induction k with
  | zero => rfl
  | succ k ih => rw [uptoF_succ m k (by omega), List.map_append, ih (by omega), List.range_succ]; rfl
/-- the two boxes that the closure has captured stay -/
def KpC (Bs Bn : Nat) (W W' : World) : Prop := W'.cell? ⟨Bs, 0, none⟩ = W.cell? ⟨Bs, 0, none⟩ ∧ W'.cell? ⟨Bn, 0, none⟩ = W.cell? ⟨Bn, 0, none⟩
set_option maxHeartbeats 4000000 in
theorem chunk1_in (n : Nat) (hn : 1 ≤ n) (l Bs Bn rb cap m : Nat) (hm : 64 * m ≤ cap) (hcap : cap ≤ 9223372036854775807) (hmb : m ≤ 1099511627776) (J Jx : List (Fin m) → World → Prop)
    (hJd : ∀ pre W, J pre W → J pre W.drew) (hY : ∀ pre (x : Fin m) W, J pre W → pre.length < m → YieldAt Fence.wide (n - 1) Tryz.prog l #[.slice (some ⟨rb, 64 * x.1, none⟩) 64 64] W fun e W' =>
      (e = .returned (.bool true) ∧ J (pre ++ [x]) W' ∧ KpC Bs Bn W W') ∨ (e = .returned (.bool false) ∧ Jx (pre ++ [x]) W'))
    (W : World) (hs : W.cell? ⟨Bs, 0, none⟩ = some (.slice (some ⟨rb, 0, none⟩) (64 * m) cap)) (hb : W.cell? ⟨Bn, 0, none⟩ = some (.int .i64 64)) (h0 : J [] W) :
    CallsIn Fence.wide n Tryz.prog 89 #[.func (.yield l) #[] #[], .pointer (some ⟨Bs, 0, none⟩), .pointer (some ⟨Bn, 0, none⟩)] W fun e W' => (∃ v, e = .returned v) ∧
      ((∃ ys : List (Fin m), ys.map (·.1) = List.range m ∧ J ys W') ∨ (∃ pre : List (Fin m), True ∧ Jx pre W')) := by
  refine callsIn_of_wp Tryz.func89 rfl trivial ?_ rfl
  simp only [Tryz.ntmps89, List.size_toArray, List.length_cons, List.length_nil, Nat.reduceAdd, Nat.reduceSub, Array.replicate_succ, Array.replicate_zero, List.push_toArray, List.append_toArray, List.nil_append, List.cons_append]
  gi_wp2
  gi_loopw [4] (fun i wr => ∃ k : Nat, k ≤ m ∧ i = .int .i64 ((64 * k : Nat) : Int) ∧ J (uptoF m k) wr ∧ wr.cell? ⟨Bs, 0, none⟩ = some (.slice (some ⟨rb, 0, none⟩) (64 * m) cap) ∧ wr.cell? ⟨Bn, 0, none⟩ = some (.int .i64 64))
    (fun i _ => 64 * m - (intOf i).toNat)
  case atStart => exact ⟨0, Nat.zero_le _, rfl, h0, hs, hb⟩
  case round =>
    obtain ⟨k, hk, rfl, hJs, hcs, hcb⟩ := hrel
    by_cases hlt : k < m
    · obtain ⟨fn, tmps, assign, body, hy, hR⟩ := hY _ ⟨k, hlt⟩ wr hJs (by rw [uptoF_len m k hk]; exact hlt)
      have e1 : ((64 * k : Nat) : Int) < ((64 * m : Nat) : Int) := by omega
      gi_wp2
      refine wpIn_wide.2 ?_
      refine wp_region_held_drew (S := (fun w' => w'.cell? ⟨Bs, 0, none⟩ = some (.slice (some ⟨rb, 0, none⟩) (64 * m) cap) ∧ w'.cell? ⟨Bn, 0, none⟩ = some (.int .i64 64))) (by kernel_rfl) ⟨hcs, hcb⟩ (fun hH0 => ?_)
      refine wpAnyH_take (i := 0) (oi := _) (v := .int .i64 (64)) rfl (by kernel_rfl) (by kernel_rfl) (by kernel_rfl) (fun _ _ _ h => h) (Or.inl ⟨by rfl, ?_⟩) hH0 ?_
      · intro w hSw; obtain ⟨q0, q1⟩ := hSw; go_simp
      simp only [Act.put, List.getElem_toArray, List.getElem_cons_zero, List.getElem_cons_succ, List.setIfInBounds_toArray, List.set_cons_zero, List.set_cons_succ]
      refine wpAnyH_take (i := 1) (oi := _) (v := .slice (some ⟨rb, 0, none⟩) (64 * m) cap) rfl (by kernel_rfl) (by kernel_rfl) (by kernel_rfl) (fun _ _ _ h => h) (Or.inl ⟨by rfl, ?_⟩) hH0 ?_
      · intro w hSw; obtain ⟨q0, q1⟩ := hSw; go_simp
      simp only [Act.put, List.getElem_toArray, List.getElem_cons_zero, List.getElem_cons_succ, List.setIfInBounds_toArray, List.set_cons_zero, List.set_cons_succ]
      refine wpAnyH_take (i := 2) (oi := _) (v := .int .i64 (((64 * k : Nat) : Int))) rfl (by kernel_rfl) (by kernel_rfl) (by kernel_rfl) (fun _ _ _ h => h) (Or.inl ⟨by rfl, ?_⟩) hH0 ?_
      · intro w hSw; go_simp
      simp only [Act.put, List.getElem_toArray, List.getElem_cons_zero, List.getElem_cons_succ, List.setIfInBounds_toArray, List.set_cons_zero, List.set_cons_succ]
      refine wpAnyH_take (i := 3) (oi := _) (v := .slice (some ⟨rb, 64 * k, none⟩) (64 * m - 64 * k) (cap - 64 * k)) rfl (by kernel_rfl) (by kernel_rfl) (by kernel_rfl) (fun _ _ _ h => h) (Or.inl ⟨by rfl, ?_⟩) hH0 ?_
      · intro w hSw; go_simp; rw [if_pos (by omega), show (64 * (k : Int)).toNat = 64 * k by omega, if_neg (by omega)]
      simp only [Act.put, List.getElem_toArray, List.getElem_cons_zero, List.getElem_cons_succ, List.setIfInBounds_toArray, List.set_cons_zero, List.set_cons_succ]
      refine wpAnyH_take (i := 4) (oi := _) (v := .int .i64 (((64 * m - 64 * k : Nat) : Int))) rfl (by kernel_rfl) (by kernel_rfl) (by kernel_rfl) (fun _ _ _ h => h) (Or.inl ⟨by rfl, ?_⟩) hH0 ?_
      · intro w hSw; go_simp
      simp only [Act.put, List.getElem_toArray, List.getElem_cons_zero, List.getElem_cons_succ, List.setIfInBounds_toArray, List.set_cons_zero, List.set_cons_succ]
      refine wpAnyH_take (i := 5) (oi := _) (v := .int .i64 (64)) rfl (by kernel_rfl) (by kernel_rfl) (by kernel_rfl) (fun _ _ _ h => h) (Or.inl ⟨by rfl, ?_⟩) hH0 ?_
      · intro w hSw; go_simp; intro h; omega
      simp only [Act.put, List.getElem_toArray, List.getElem_cons_zero, List.getElem_cons_succ, List.setIfInBounds_toArray, List.set_cons_zero, List.set_cons_succ]
      refine wpAnyH_take (i := 6) (oi := _) (v := .int .i64 (64)) rfl (by kernel_rfl) (by kernel_rfl) (by kernel_rfl) (fun _ _ _ h => h) (Or.inl ⟨by rfl, ?_⟩) hH0 ?_
      · intro w hSw; go_simp
      simp only [Act.put, List.getElem_toArray, List.getElem_cons_zero, List.getElem_cons_succ, List.setIfInBounds_toArray, List.set_cons_zero, List.set_cons_succ]
      refine wpAnyH_done (by kernel_rfl) ?_ _
      have hJ2 := hJd _ _ hJs
      have hcs' : wr.drew.cell? ⟨Bs, 0, none⟩ = some (.slice (some ⟨rb, 0, none⟩) (64 * m) cap) := hcs
      have hcb' : wr.drew.cell? ⟨Bn, 0, none⟩ = some (.int .i64 64) := hcb
      clear hJs hcs hcb
      generalize wr.drew = w2 at *
      obtain ⟨fn, tmps, assign, body, hy, hR⟩ := hY _ ⟨k, hlt⟩ w2 hJ2 (by rw [uptoF_len m k hk]; exact hlt)
      dsimp only at hy
      have e2 : IntKind.i64.wrap (((64 * k : Nat) : Int) + 64) = ((64 * (k + 1) : Nat) : Int) := by rw [show ((64 * k : Nat) : Int) + 64 = ((64 * (k + 1) : Nat) : Int) by omega]; exact IntWalk.i64_in _ (by omega)
      have e3 : ((64 * (k + 1) : Nat) : Int) ≤ (cap : Int) := by omega
      gi_wp2
      refine hR.mono ?_
      rintro e W3 (⟨rfl, hJ3, hk1, hk2⟩ | ⟨rfl, hJx3⟩)
      · gi_wp2
        go_roundw
        case rel => exact ⟨k + 1, by omega, by go_num, by rw [uptoF_succ m k hlt]; exact hJ3, hk1.trans hcs', hk2.trans hcb'⟩
        case measure => simp [intOf]; omega
      · gi_wp2
        refine bodyPost_ret (results_none rfl _ _ _) rfl ?_
        exact ⟨⟨_, rfl⟩, .inr ⟨_, trivial, hJx3⟩⟩
    · obtain rfl : k = m := by omega
      gi_wp2
      go_end0
      exact ⟨⟨_, rfl⟩, .inl ⟨_, uptoF_val _ _ (Nat.le_refl _), hJs⟩⟩
end Go.Proofs.YtinbcehlpfnlaaaGreatDoor
