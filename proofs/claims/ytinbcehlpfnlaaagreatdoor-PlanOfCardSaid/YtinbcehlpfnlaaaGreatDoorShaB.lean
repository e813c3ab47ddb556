/- Layer 3 (sha): a block's words. -/
import Derived.Test.YtinbcehlpfnlaaaGreatDoorShaA
import Derived.Test.YtinbcehlpfnlaaaGreatDoorRefU
import Derived.Test.YtinbcehlpfnlaaaGreatDoorArr
import Derived.Deep.DeepCutAuto
import Derived.Deep.CutBlock
namespace Go.Proofs.YtinbcehlpfnlaaaGreatDoor
open Go.RowKit
set_option linter.unusedSimpArgs false
set_option linter.unusedVariables false
set_option maxRecDepth 100000

def shaArr (S : List W32) : List Value := S.map wV ++ List.replicate (64 - S.length) (.int .u32 0)
theorem shaArr_set (S : List W32) (x : W32) (h : S.length < 64) : (shaArr S).set S.length (wV x) = shaArr (S ++ [x]) := by
  unfold shaArr
  obtain ⟨m, hm⟩ : ∃ m, 64 - S.length = m + 1 := ⟨63 - S.length, by omega⟩
  rw [hm, List.replicate_succ, List.set_append_right _ _ (by simp)]
  simp [show 64 - (S.length + 1) = m by omega]
theorem shaArr_get (S : List W32) (j : Nat) (h : j < S.length) : (shaArr S)[j]? = some (wV (S.getD j 0)) := by
  unfold shaArr
  rw [List.getElem?_append_left (by simpa using h)]
  simp [h]
theorem shaArr_next (S : List W32) (h : S.length < 64) : (shaArr S)[S.length]? = some (.int .u32 0) := by
  unfold shaArr
  obtain ⟨m, hm⟩ : ∃ m, 64 - S.length = m + 1 := ⟨63 - S.length, by omega⟩
  rw [List.getElem?_append_right (by simp)]
  simp [hm, List.replicate_succ]
theorem shaArr_full (S : List W32) (h : S.length = 64) : shaArr S = S.map wV := by unfold shaArr; simp [h]
theorem zeroArr : (#[.int .u32 0, .int .u32 0, .int .u32 0, .int .u32 0, .int .u32 0, .int .u32 0, .int .u32 0, .int .u32 0, .int .u32 0, .int .u32 0, .int .u32 0, .int .u32 0, .int .u32 0, .int .u32 0, .int .u32 0, .int .u32 0, .int .u32 0, .int .u32 0, .int .u32 0, .int .u32 0, .int .u32 0, .int .u32 0, .int .u32 0, .int .u32 0, .int .u32 0, .int .u32 0, .int .u32 0, .int .u32 0, .int .u32 0, .int .u32 0, .int .u32 0, .int .u32 0, .int .u32 0, .int .u32 0, .int .u32 0, .int .u32 0, .int .u32 0, .int .u32 0, .int .u32 0, .int .u32 0, .int .u32 0, .int .u32 0, .int .u32 0, .int .u32 0, .int .u32 0, .int .u32 0, .int .u32 0, .int .u32 0, .int .u32 0, .int .u32 0, .int .u32 0, .int .u32 0, .int .u32 0, .int .u32 0, .int .u32 0, .int .u32 0, .int .u32 0, .int .u32 0, .int .u32 0, .int .u32 0, .int .u32 0, .int .u32 0, .int .u32 0, .int .u32 0] : Array Value) = (shaArr []).toArray := rfl
theorem w_sh24 (c : UInt8) (n : Nat) (hn : n = 16777216 ∨ n = 65536 ∨ n = 256) : IntKind.u32.wrap ((c.toNat : Int) * (n : Int)) = ((c.toNat * n : Nat) : Int) := by
  have h1 : c.toNat < 256 := c.toNat_lt
  rw [IntKind.wrap_u32']
  rcases hn with rfl | rfl | rfl <;> omega
theorem w_j2 (a b : UInt8) : bits .or .u32 ((a.toNat * 16777216 : Nat) : Int) ((b.toNat * 65536 : Nat) : Int) = ((a.toNat * 16777216 + b.toNat * 65536 : Nat) : Int) := by
  have h1 : a.toNat < 256 := a.toNat_lt
  have h2 : b.toNat < 256 := b.toNat_lt
  rw [u32_or_nat _ _ (by omega) (by omega), nat_join 24 _ _ (by omega) (by omega)]
theorem w_j3 (a b c : UInt8) : bits .or .u32 ((a.toNat * 16777216 + b.toNat * 65536 : Nat) : Int) ((c.toNat * 256 : Nat) : Int) = ((a.toNat * 16777216 + b.toNat * 65536 + c.toNat * 256 : Nat) : Int) := by
  have h1 : a.toNat < 256 := a.toNat_lt
  have h2 : b.toNat < 256 := b.toNat_lt
  have h3 : c.toNat < 256 := c.toNat_lt
  rw [u32_or_nat _ _ (by omega) (by omega), nat_join 16 _ _ (by omega) (by omega)]
theorem w_j4 (a b c d : UInt8) : bits .or .u32 ((a.toNat * 16777216 + b.toNat * 65536 + c.toNat * 256 : Nat) : Int) ((d.toNat : Nat) : Int) = ((wN (word4 a b c d) : Nat) : Int) := by
  have h1 : a.toNat < 256 := a.toNat_lt
  have h2 : b.toNat < 256 := b.toNat_lt
  have h3 : c.toNat < 256 := c.toNat_lt
  have h4 : d.toNat < 256 := d.toNat_lt
  rw [u32_or_nat _ _ (by omega) (by omega), nat_join 8 _ _ (by omega) (by omega)]
  unfold wN word4
  rw [BitVec.toNat_ofNat, Nat.mod_eq_of_lt (by omega)]
theorem ne64 {b : List UInt8} (h : b.length = 64) : byteVs b ≠ [] := by intro h0; have := congrArg List.length h0; simp [byteVs, h] at this
theorem byteVs_length' (l : List UInt8) : (byteVs l).length = l.length := by simp [byteVs]
theorem byteAt {w : World} {bb off c : Nat} {b : List UInt8} (h : SlV w (.slice (some ⟨bb, off, none⟩) 64 c) 64 (byteVs b)) (hl : b.length = 64) {j : Nat} (hj : j < 64) : w.cell? ⟨bb, off + j, none⟩ = some (.int .u8 (((b.getD j 0).toNat : Nat) : Int)) := by
  obtain ⟨bb', off', he, hb, hc⟩ := SlV.addr h (ne64 hl)
  cases he
  have := hc j (byteV (b.getD j 0)) (by simp [byteVs, List.getD, show j < b.length by omega])
  simpa [byteV] using this
set_option maxHeartbeats 8000000 in
theorem schedule_any (b : List UInt8) (h64 : b.length = 64) (a : Option Addr) (c : Nat) (w : World) (h : SlV w (.slice a 64 c) 64 (byteVs b)) :
    Calls Tryz.prog 90 #[.slice a 64 c] w fun e w' => e = .returned (.agg ((sched b 64).map wV).toArray) ∧ Below w.heap.size w w' := by
  have HD := Lib.hid' h
  have HL := Lib.hid' h64
  have HZ := Lib.hid' zeroArr
  obtain ⟨bb, off, rfl, hbl, hcs⟩ := SlV.addr h (ne64 h64)
  have hne : ¬ bb = w.heap.size + 1 := by omega
  clear h h64 hcs
  go_enter Tryz.func90, Tryz.ntmps90
  go_wp2_with fail
  rw [HZ.out]
  have H1 : Sep w NoF [.box (w.heap.size + 1) (shaArr (sched b 0)) 168, .box w.heap.size (shaArr []) 168] ((w.alloc (.cells (shaArr []).toArray 168)).alloc (.cells (shaArr []).toArray 168)) := (((Sep.start w).allocAt (w.heap.size) (shaArr []) 168 rfl).allocAt (w.heap.size + 1) (shaArr (sched b 0)) 168 (by simp))
  generalize (w.alloc (.cells (shaArr []).toArray 168)).alloc (.cells (shaArr []).toArray 168) = w1 at *
  go_loopw [7] (fun v7 wr => ∃ k : Nat, v7 = .int .i64 k ∧ k ≤ 64 ∧ Sep w NoF [.box (w.heap.size + 1) (shaArr (sched b k)) 168, .box w.heap.size (shaArr []) 168] wr) (fun v7 _ => 64 - (intOf v7).toNat)
  case atStart => exact ⟨0, rfl, Nat.zero_le _, H1⟩
  case round =>
    clear H1
    obtain ⟨k, rfl, hk, H0⟩ := hrel
    have HS := Lib.hid' (sched_len b k)
    by_cases hlt : k < 64
    · have ck := H0.cell 0 rfl k (by have := shaArr_next (sched b k) (by rw [HS.out]; exact hlt); rwa [HS.out] at this)
      have fk := H0.free 0 rfl k
      have HSET := fun x => Lib.hid' (show (shaArr (sched b k)).set k (wV x) = shaArr (sched b k ++ [x]) by have := shaArr_set (sched b k) x (by rw [HS.out]; exact hlt); rwa [HS.out] at this)
      have hNl := H0.lt 0 rfl
      by_cases h16 : k < 16
      · have hbk := fun j (hj : j < 4) => byteAt (H0.old0 HD.out) HL.out (show 4 * k + j < 64 by omega)
        have x0 := hbk 0 (by omega); have x1 := hbk 1 (by omega); have x2 := hbk 2 (by omega); have x3 := hbk 3 (by omega)
        clear hbk
        have HN := Lib.hid' (show sched b (k + 1) = sched b k ++ [word4 (b.getD (4 * k) 0) (b.getD (4 * k + 1) 0) (b.getD (4 * k + 2) 0) (b.getD (4 * k + 3) 0)] by simp only [sched, nextW, if_pos h16, wordAt])
        simp only [Nat.add_zero] at x0
        generalize b.getD (4 * k) 0 = y0 at *
        generalize b.getD (4 * k + 1) 0 = y1 at *
        generalize b.getD (4 * k + 2) 0 = y2 at *
        generalize b.getD (4 * k + 3) 0 = y3 at *
        go_upto_region 6 with fail
        refine wp_region_held_drew (S := (fun w' => w'.cell? ⟨bb, off + 4 * k, none⟩ = some (.int .u8 ((y0.toNat : Nat) : Int)) ∧ w'.cell? ⟨bb, off + (4 * k + 1), none⟩ = some (.int .u8 ((y1.toNat : Nat) : Int)) ∧ w'.cell? ⟨bb, off + (4 * k + 2), none⟩ = some (.int .u8 ((y2.toNat : Nat) : Int)) ∧ w'.cell? ⟨bb, off + (4 * k + 3), none⟩ = some (.int .u8 ((y3.toNat : Nat) : Int)))) (by kernel_rfl) ⟨x0, x1, x2, x3⟩ (fun hH0 => ?_)
        refine wpAnyH_take (i := 0) (oi := _) (v := .int .i64 (k : Int)) rfl (by kernel_rfl) (by kernel_rfl) (by kernel_rfl) (fun _ _ _ h => h) (Or.inl ⟨by rfl, ?_⟩) hH0 ?_
        · intro w hSw; go_simp
        simp only [Act.put, List.getElem_toArray, List.getElem_cons_zero, List.getElem_cons_succ, List.setIfInBounds_toArray, List.set_cons_zero, List.set_cons_succ]
        refine wpAnyH_take (i := 1) (oi := _) (v := .slice (some ⟨bb, off, none⟩) 64 c) rfl (by kernel_rfl) (by kernel_rfl) (by kernel_rfl) (fun _ _ _ h => h) (Or.inl ⟨by rfl, ?_⟩) hH0 ?_
        · intro w hSw; go_simp
        simp only [Act.put, List.getElem_toArray, List.getElem_cons_zero, List.getElem_cons_succ, List.setIfInBounds_toArray, List.set_cons_zero, List.set_cons_succ]
        refine wpAnyH_take (i := 2) (oi := _) (v := .int .i64 (k : Int)) rfl (by kernel_rfl) (by kernel_rfl) (by kernel_rfl) (fun _ _ _ h => h) (Or.inl ⟨by rfl, ?_⟩) hH0 ?_
        · intro w hSw; go_simp
        simp only [Act.put, List.getElem_toArray, List.getElem_cons_zero, List.getElem_cons_succ, List.setIfInBounds_toArray, List.set_cons_zero, List.set_cons_succ]
        refine wpAnyH_take (i := 3) (oi := _) (v := .int .i64 ((4 * (k : Int)))) rfl (by kernel_rfl) (by kernel_rfl) (by kernel_rfl) (fun _ _ _ h => h) (Or.inl ⟨by rfl, ?_⟩) hH0 ?_
        · intro w hSw; first | (go_simp; done) | (go_simp; exact IntWalk.i64_in _ (by omega)) | (go_simp; omega)
        simp only [Act.put, List.getElem_toArray, List.getElem_cons_zero, List.getElem_cons_succ, List.setIfInBounds_toArray, List.set_cons_zero, List.set_cons_succ]
        refine wpAnyH_take (i := 4) (oi := _) (v := .pointer (some ⟨bb, off + 4 * k, none⟩)) rfl (by kernel_rfl) (by kernel_rfl) (by kernel_rfl) (fun _ _ _ h => h) (Or.inl ⟨by rfl, ?_⟩) hH0 ?_
        · intro w hSw; go_simp; rw [if_pos (by omega), show (4 * (k : Int)).toNat = 4 * k by omega]
        simp only [Act.put, List.getElem_toArray, List.getElem_cons_zero, List.getElem_cons_succ, List.setIfInBounds_toArray, List.set_cons_zero, List.set_cons_succ]
        refine wpAnyH_take (i := 5) (oi := _) (v := .int .u8 ((y0.toNat : Nat) : Int)) rfl (by kernel_rfl) (by kernel_rfl) (by kernel_rfl) (fun _ _ _ h => h) (Or.inl ⟨by rfl, ?_⟩) hH0 ?_
        · intro w hSw; obtain ⟨q0, q1, q2, q3⟩ := hSw; go_simp
        simp only [Act.put, List.getElem_toArray, List.getElem_cons_zero, List.getElem_cons_succ, List.setIfInBounds_toArray, List.set_cons_zero, List.set_cons_succ]
        refine wpAnyH_take (i := 6) (oi := _) (v := .int .u32 ((y0.toNat : Nat) : Int)) rfl (by kernel_rfl) (by kernel_rfl) (by kernel_rfl) (fun _ _ _ h => h) (Or.inl ⟨by rfl, ?_⟩) hH0 ?_
        · intro w hSw; have hy := y0.toNat_lt; first | (go_simp; done) | (go_simp; rw [IntKind.wrap_u32']; omega) | (go_simp; omega)
        simp only [Act.put, List.getElem_toArray, List.getElem_cons_zero, List.getElem_cons_succ, List.setIfInBounds_toArray, List.set_cons_zero, List.set_cons_succ]
        refine wpAnyH_take (i := 7) (oi := _) (v := .int .u32 ((y0.toNat * 16777216 : Nat) : Int)) rfl (by kernel_rfl) (by kernel_rfl) (by kernel_rfl) (fun _ _ _ h => h) (Or.inl ⟨by rfl, ?_⟩) hH0 ?_
        · intro w hSw; have hy := y0.toNat_lt; first | (go_simp; done) | (go_simp; rw [IntKind.wrap_u32']; omega) | (go_simp; omega)
        simp only [Act.put, List.getElem_toArray, List.getElem_cons_zero, List.getElem_cons_succ, List.setIfInBounds_toArray, List.set_cons_zero, List.set_cons_succ]
        refine wpAnyH_take (i := 8) (oi := _) (v := .slice (some ⟨bb, off, none⟩) 64 c) rfl (by kernel_rfl) (by kernel_rfl) (by kernel_rfl) (fun _ _ _ h => h) (Or.inl ⟨by rfl, ?_⟩) hH0 ?_
        · intro w hSw; go_simp
        simp only [Act.put, List.getElem_toArray, List.getElem_cons_zero, List.getElem_cons_succ, List.setIfInBounds_toArray, List.set_cons_zero, List.set_cons_succ]
        refine wpAnyH_take (i := 9) (oi := _) (v := .int .i64 (k : Int)) rfl (by kernel_rfl) (by kernel_rfl) (by kernel_rfl) (fun _ _ _ h => h) (Or.inl ⟨by rfl, ?_⟩) hH0 ?_
        · intro w hSw; go_simp
        simp only [Act.put, List.getElem_toArray, List.getElem_cons_zero, List.getElem_cons_succ, List.setIfInBounds_toArray, List.set_cons_zero, List.set_cons_succ]
        refine wpAnyH_take (i := 10) (oi := _) (v := .int .i64 ((4 * (k : Int)))) rfl (by kernel_rfl) (by kernel_rfl) (by kernel_rfl) (fun _ _ _ h => h) (Or.inl ⟨by rfl, ?_⟩) hH0 ?_
        · intro w hSw; first | (go_simp; done) | (go_simp; exact IntWalk.i64_in _ (by omega)) | (go_simp; omega)
        simp only [Act.put, List.getElem_toArray, List.getElem_cons_zero, List.getElem_cons_succ, List.setIfInBounds_toArray, List.set_cons_zero, List.set_cons_succ]
        refine wpAnyH_take (i := 11) (oi := _) (v := .int .i64 ((4 * (k : Int) + 1))) rfl (by kernel_rfl) (by kernel_rfl) (by kernel_rfl) (fun _ _ _ h => h) (Or.inl ⟨by rfl, ?_⟩) hH0 ?_
        · intro w hSw; first | (go_simp; done) | (go_simp; exact IntWalk.i64_in _ (by omega)) | (go_simp; omega)
        simp only [Act.put, List.getElem_toArray, List.getElem_cons_zero, List.getElem_cons_succ, List.setIfInBounds_toArray, List.set_cons_zero, List.set_cons_succ]
        refine wpAnyH_take (i := 12) (oi := _) (v := .pointer (some ⟨bb, off + (4 * k + 1), none⟩)) rfl (by kernel_rfl) (by kernel_rfl) (by kernel_rfl) (fun _ _ _ h => h) (Or.inl ⟨by rfl, ?_⟩) hH0 ?_
        · intro w hSw; go_simp; rw [if_pos (by omega), show (4 * (k : Int) + 1).toNat = 4 * k + 1 by omega]
        simp only [Act.put, List.getElem_toArray, List.getElem_cons_zero, List.getElem_cons_succ, List.setIfInBounds_toArray, List.set_cons_zero, List.set_cons_succ]
        refine wpAnyH_take (i := 13) (oi := _) (v := .int .u8 ((y1.toNat : Nat) : Int)) rfl (by kernel_rfl) (by kernel_rfl) (by kernel_rfl) (fun _ _ _ h => h) (Or.inl ⟨by rfl, ?_⟩) hH0 ?_
        · intro w hSw; obtain ⟨q0, q1, q2, q3⟩ := hSw; go_simp
        simp only [Act.put, List.getElem_toArray, List.getElem_cons_zero, List.getElem_cons_succ, List.setIfInBounds_toArray, List.set_cons_zero, List.set_cons_succ]
        refine wpAnyH_take (i := 14) (oi := _) (v := .int .u32 ((y1.toNat : Nat) : Int)) rfl (by kernel_rfl) (by kernel_rfl) (by kernel_rfl) (fun _ _ _ h => h) (Or.inl ⟨by rfl, ?_⟩) hH0 ?_
        · intro w hSw; have hy := y1.toNat_lt; first | (go_simp; done) | (go_simp; rw [IntKind.wrap_u32']; omega) | (go_simp; omega)
        simp only [Act.put, List.getElem_toArray, List.getElem_cons_zero, List.getElem_cons_succ, List.setIfInBounds_toArray, List.set_cons_zero, List.set_cons_succ]
        refine wpAnyH_take (i := 15) (oi := _) (v := .int .u32 ((y1.toNat * 65536 : Nat) : Int)) rfl (by kernel_rfl) (by kernel_rfl) (by kernel_rfl) (fun _ _ _ h => h) (Or.inl ⟨by rfl, ?_⟩) hH0 ?_
        · intro w hSw; have hy := y1.toNat_lt; first | (go_simp; done) | (go_simp; rw [IntKind.wrap_u32']; omega) | (go_simp; omega)
        simp only [Act.put, List.getElem_toArray, List.getElem_cons_zero, List.getElem_cons_succ, List.setIfInBounds_toArray, List.set_cons_zero, List.set_cons_succ]
        refine wpAnyH_take (i := 16) (oi := _) (v := .int .u32 ((y0.toNat * 16777216 + y1.toNat * 65536 : Nat) : Int)) rfl (by kernel_rfl) (by kernel_rfl) (by kernel_rfl) (fun _ _ _ h => h) (Or.inl ⟨by rfl, ?_⟩) hH0 ?_
        · intro w hSw; go_simp; exact w_j2 _ _
        simp only [Act.put, List.getElem_toArray, List.getElem_cons_zero, List.getElem_cons_succ, List.setIfInBounds_toArray, List.set_cons_zero, List.set_cons_succ]
        refine wpAnyH_take (i := 17) (oi := _) (v := .slice (some ⟨bb, off, none⟩) 64 c) rfl (by kernel_rfl) (by kernel_rfl) (by kernel_rfl) (fun _ _ _ h => h) (Or.inl ⟨by rfl, ?_⟩) hH0 ?_
        · intro w hSw; go_simp
        simp only [Act.put, List.getElem_toArray, List.getElem_cons_zero, List.getElem_cons_succ, List.setIfInBounds_toArray, List.set_cons_zero, List.set_cons_succ]
        refine wpAnyH_take (i := 18) (oi := _) (v := .int .i64 (k : Int)) rfl (by kernel_rfl) (by kernel_rfl) (by kernel_rfl) (fun _ _ _ h => h) (Or.inl ⟨by rfl, ?_⟩) hH0 ?_
        · intro w hSw; go_simp
        simp only [Act.put, List.getElem_toArray, List.getElem_cons_zero, List.getElem_cons_succ, List.setIfInBounds_toArray, List.set_cons_zero, List.set_cons_succ]
        refine wpAnyH_take (i := 19) (oi := _) (v := .int .i64 ((4 * (k : Int)))) rfl (by kernel_rfl) (by kernel_rfl) (by kernel_rfl) (fun _ _ _ h => h) (Or.inl ⟨by rfl, ?_⟩) hH0 ?_
        · intro w hSw; first | (go_simp; done) | (go_simp; exact IntWalk.i64_in _ (by omega)) | (go_simp; omega)
        simp only [Act.put, List.getElem_toArray, List.getElem_cons_zero, List.getElem_cons_succ, List.setIfInBounds_toArray, List.set_cons_zero, List.set_cons_succ]
        refine wpAnyH_take (i := 20) (oi := _) (v := .int .i64 ((4 * (k : Int) + 2))) rfl (by kernel_rfl) (by kernel_rfl) (by kernel_rfl) (fun _ _ _ h => h) (Or.inl ⟨by rfl, ?_⟩) hH0 ?_
        · intro w hSw; first | (go_simp; done) | (go_simp; exact IntWalk.i64_in _ (by omega)) | (go_simp; omega)
        simp only [Act.put, List.getElem_toArray, List.getElem_cons_zero, List.getElem_cons_succ, List.setIfInBounds_toArray, List.set_cons_zero, List.set_cons_succ]
        refine wpAnyH_take (i := 21) (oi := _) (v := .pointer (some ⟨bb, off + (4 * k + 2), none⟩)) rfl (by kernel_rfl) (by kernel_rfl) (by kernel_rfl) (fun _ _ _ h => h) (Or.inl ⟨by rfl, ?_⟩) hH0 ?_
        · intro w hSw; go_simp; rw [if_pos (by omega), show (4 * (k : Int) + 2).toNat = 4 * k + 2 by omega]
        simp only [Act.put, List.getElem_toArray, List.getElem_cons_zero, List.getElem_cons_succ, List.setIfInBounds_toArray, List.set_cons_zero, List.set_cons_succ]
        refine wpAnyH_take (i := 22) (oi := _) (v := .int .u8 ((y2.toNat : Nat) : Int)) rfl (by kernel_rfl) (by kernel_rfl) (by kernel_rfl) (fun _ _ _ h => h) (Or.inl ⟨by rfl, ?_⟩) hH0 ?_
        · intro w hSw; obtain ⟨q0, q1, q2, q3⟩ := hSw; go_simp
        simp only [Act.put, List.getElem_toArray, List.getElem_cons_zero, List.getElem_cons_succ, List.setIfInBounds_toArray, List.set_cons_zero, List.set_cons_succ]
        refine wpAnyH_take (i := 23) (oi := _) (v := .int .u32 ((y2.toNat : Nat) : Int)) rfl (by kernel_rfl) (by kernel_rfl) (by kernel_rfl) (fun _ _ _ h => h) (Or.inl ⟨by rfl, ?_⟩) hH0 ?_
        · intro w hSw; have hy := y2.toNat_lt; first | (go_simp; done) | (go_simp; rw [IntKind.wrap_u32']; omega) | (go_simp; omega)
        simp only [Act.put, List.getElem_toArray, List.getElem_cons_zero, List.getElem_cons_succ, List.setIfInBounds_toArray, List.set_cons_zero, List.set_cons_succ]
        refine wpAnyH_take (i := 24) (oi := _) (v := .int .u32 ((y2.toNat * 256 : Nat) : Int)) rfl (by kernel_rfl) (by kernel_rfl) (by kernel_rfl) (fun _ _ _ h => h) (Or.inl ⟨by rfl, ?_⟩) hH0 ?_
        · intro w hSw; have hy := y2.toNat_lt; first | (go_simp; done) | (go_simp; rw [IntKind.wrap_u32']; omega) | (go_simp; omega)
        simp only [Act.put, List.getElem_toArray, List.getElem_cons_zero, List.getElem_cons_succ, List.setIfInBounds_toArray, List.set_cons_zero, List.set_cons_succ]
        refine wpAnyH_take (i := 25) (oi := _) (v := .int .u32 ((y0.toNat * 16777216 + y1.toNat * 65536 + y2.toNat * 256 : Nat) : Int)) rfl (by kernel_rfl) (by kernel_rfl) (by kernel_rfl) (fun _ _ _ h => h) (Or.inl ⟨by rfl, ?_⟩) hH0 ?_
        · intro w hSw; go_simp; exact w_j3 _ _ _
        simp only [Act.put, List.getElem_toArray, List.getElem_cons_zero, List.getElem_cons_succ, List.setIfInBounds_toArray, List.set_cons_zero, List.set_cons_succ]
        refine wpAnyH_take (i := 26) (oi := _) (v := .slice (some ⟨bb, off, none⟩) 64 c) rfl (by kernel_rfl) (by kernel_rfl) (by kernel_rfl) (fun _ _ _ h => h) (Or.inl ⟨by rfl, ?_⟩) hH0 ?_
        · intro w hSw; go_simp
        simp only [Act.put, List.getElem_toArray, List.getElem_cons_zero, List.getElem_cons_succ, List.setIfInBounds_toArray, List.set_cons_zero, List.set_cons_succ]
        refine wpAnyH_take (i := 27) (oi := _) (v := .int .i64 (k : Int)) rfl (by kernel_rfl) (by kernel_rfl) (by kernel_rfl) (fun _ _ _ h => h) (Or.inl ⟨by rfl, ?_⟩) hH0 ?_
        · intro w hSw; go_simp
        simp only [Act.put, List.getElem_toArray, List.getElem_cons_zero, List.getElem_cons_succ, List.setIfInBounds_toArray, List.set_cons_zero, List.set_cons_succ]
        refine wpAnyH_take (i := 28) (oi := _) (v := .int .i64 ((4 * (k : Int)))) rfl (by kernel_rfl) (by kernel_rfl) (by kernel_rfl) (fun _ _ _ h => h) (Or.inl ⟨by rfl, ?_⟩) hH0 ?_
        · intro w hSw; first | (go_simp; done) | (go_simp; exact IntWalk.i64_in _ (by omega)) | (go_simp; omega)
        simp only [Act.put, List.getElem_toArray, List.getElem_cons_zero, List.getElem_cons_succ, List.setIfInBounds_toArray, List.set_cons_zero, List.set_cons_succ]
        refine wpAnyH_take (i := 29) (oi := _) (v := .int .i64 ((4 * (k : Int) + 3))) rfl (by kernel_rfl) (by kernel_rfl) (by kernel_rfl) (fun _ _ _ h => h) (Or.inl ⟨by rfl, ?_⟩) hH0 ?_
        · intro w hSw; first | (go_simp; done) | (go_simp; exact IntWalk.i64_in _ (by omega)) | (go_simp; omega)
        simp only [Act.put, List.getElem_toArray, List.getElem_cons_zero, List.getElem_cons_succ, List.setIfInBounds_toArray, List.set_cons_zero, List.set_cons_succ]
        refine wpAnyH_take (i := 30) (oi := _) (v := .pointer (some ⟨bb, off + (4 * k + 3), none⟩)) rfl (by kernel_rfl) (by kernel_rfl) (by kernel_rfl) (fun _ _ _ h => h) (Or.inl ⟨by rfl, ?_⟩) hH0 ?_
        · intro w hSw; go_simp; rw [if_pos (by omega), show (4 * (k : Int) + 3).toNat = 4 * k + 3 by omega]
        simp only [Act.put, List.getElem_toArray, List.getElem_cons_zero, List.getElem_cons_succ, List.setIfInBounds_toArray, List.set_cons_zero, List.set_cons_succ]
        refine wpAnyH_take (i := 31) (oi := _) (v := .int .u8 ((y3.toNat : Nat) : Int)) rfl (by kernel_rfl) (by kernel_rfl) (by kernel_rfl) (fun _ _ _ h => h) (Or.inl ⟨by rfl, ?_⟩) hH0 ?_
        · intro w hSw; obtain ⟨q0, q1, q2, q3⟩ := hSw; go_simp
        simp only [Act.put, List.getElem_toArray, List.getElem_cons_zero, List.getElem_cons_succ, List.setIfInBounds_toArray, List.set_cons_zero, List.set_cons_succ]
        refine wpAnyH_take (i := 32) (oi := _) (v := .int .u32 ((y3.toNat : Nat) : Int)) rfl (by kernel_rfl) (by kernel_rfl) (by kernel_rfl) (fun _ _ _ h => h) (Or.inl ⟨by rfl, ?_⟩) hH0 ?_
        · intro w hSw; have hy := y3.toNat_lt; first | (go_simp; done) | (go_simp; rw [IntKind.wrap_u32']; omega) | (go_simp; omega)
        simp only [Act.put, List.getElem_toArray, List.getElem_cons_zero, List.getElem_cons_succ, List.setIfInBounds_toArray, List.set_cons_zero, List.set_cons_succ]
        refine wpAnyH_take (i := 33) (oi := _) (v := .int .u32 ((wN (word4 y0 y1 y2 y3) : Nat) : Int)) rfl (by kernel_rfl) (by kernel_rfl) (by kernel_rfl) (fun _ _ _ h => h) (Or.inl ⟨by rfl, ?_⟩) hH0 ?_
        · intro w hSw; go_simp; exact w_j4 _ _ _ _
        simp only [Act.put, List.getElem_toArray, List.getElem_cons_zero, List.getElem_cons_succ, List.setIfInBounds_toArray, List.set_cons_zero, List.set_cons_succ]
        refine wpAnyH_take (i := 34) (oi := _) (v := .pointer (some ⟨w.heap.size + 1, k, none⟩)) rfl (by kernel_rfl) (by kernel_rfl) (by kernel_rfl) (fun _ _ _ h => h) (Or.inl ⟨by rfl, ?_⟩) hH0 ?_
        · intro w hSw; go_simp
        simp only [Act.put, List.getElem_toArray, List.getElem_cons_zero, List.getElem_cons_succ, List.setIfInBounds_toArray, List.set_cons_zero, List.set_cons_succ]
        refine wpAnyH_ready (rs := [35]) (by kernel_rfl) (by simp) (AllReadyH.cons (o := _) rfl (fun K hK => ?_) AllReadyH.nil)
        go_simp
        refine hK.out _ _ ?_ (fun hH1 => ?_)
        · exact ⟨by simp [go_sem, x0, hne], by simp [go_sem, x1, hne], by simp [go_sem, x2, hne], by simp [go_sem, x3, hne]⟩
        clear hK K
        refine wpAnyH_done (by kernel_rfl) ?_ _
        have H2 : Sep w NoF [.box (w.heap.size + 1) ((shaArr (sched b k)).set k (wV (word4 y0 y1 y2 y3))) 168, .box w.heap.size (shaArr []) 168] ((wr.setCell ⟨w.heap.size + 1, k, none⟩ (wV (word4 y0 y1 y2 y3))).drew) := (H0.set 0 rfl k (wV (word4 y0 y1 y2 y3))).drew
        rw [(HSET _).out, ← HN.out] at H2
        unfold wV at H2
        generalize (wr.setCell ⟨w.heap.size + 1, k, none⟩ (.int .u32 ((wN (word4 y0 y1 y2 y3) : Nat) : Int))).drew = w2 at *
        clear H0 ck fk hNl x0 x1 x2 x3
        go_wp2_with fail
        go_roundw
        case rel => exact ⟨k + 1, by go_num, by omega, H2⟩
        case measure => simp [intOf]; omega
      obtain ⟨j2, hj2⟩ : ∃ j, k = j + 2 := ⟨k - 2, by omega⟩
      obtain ⟨j7, hj7⟩ : ∃ j, k = j + 7 := ⟨k - 7, by omega⟩
      obtain ⟨j15, hj15⟩ : ∃ j, k = j + 15 := ⟨k - 15, by omega⟩
      obtain ⟨j16, hj16⟩ : ∃ j, k = j + 16 := ⟨k - 16, by omega⟩
      have y2 := H0.cell 0 rfl j2 (shaArr_get (sched b k) j2 (by rw [HS.out]; omega))
      have y7 := H0.cell 0 rfl j7 (shaArr_get (sched b k) j7 (by rw [HS.out]; omega))
      have y15 := H0.cell 0 rfl j15 (shaArr_get (sched b k) j15 (by rw [HS.out]; omega))
      have y16 := H0.cell 0 rfl j16 (shaArr_get (sched b k) j16 (by rw [HS.out]; omega))
      have HN := Lib.hid' (show sched b (k + 1) = sched b k ++ [(sched b k).getD j16 0 + (sched b k).getD j7 0 + sg0 ((sched b k).getD j15 0) + sg1 ((sched b k).getD j2 0)] by
        simp only [sched, nextW, if_neg h16]; rw [show k - 16 = j16 by omega, show k - 7 = j7 by omega, show k - 15 = j15 by omega, show k - 2 = j2 by omega])
      have i2 : IntKind.i64.wrap ((k : Int) - 2) = (j2 : Int) := by rw [show (k : Int) - 2 = (j2 : Int) by omega]; exact IntWalk.i64_in _ (by omega)
      have i7 : IntKind.i64.wrap ((k : Int) - 7) = (j7 : Int) := by rw [show (k : Int) - 7 = (j7 : Int) by omega]; exact IntWalk.i64_in _ (by omega)
      have i15 : IntKind.i64.wrap ((k : Int) - 15) = (j15 : Int) := by rw [show (k : Int) - 15 = (j15 : Int) by omega]; exact IntWalk.i64_in _ (by omega)
      have i16 : IntKind.i64.wrap ((k : Int) - 16) = (j16 : Int) := by rw [show (k : Int) - 16 = (j16 : Int) by omega]; exact IntWalk.i64_in _ (by omega)
      unfold wV at y2 y7 y15 y16
      generalize (sched b k).getD j2 0 = p2 at *
      generalize (sched b k).getD j7 0 = p7 at *
      generalize (sched b k).getD j15 0 = p15 at *
      generalize (sched b k).getD j16 0 = p16 at *
      have l2 : j2 < 64 := by omega
      have l7 : j7 < 64 := by omega
      have l15 : j15 < 64 := by omega
      have l16 : j16 < 64 := by omega
      have HW := Lib.hid' hj2
      have nj2 : ¬ j2 = k := by omega
      have nj7 : ¬ j7 = k := by omega
      have nj15 : ¬ j15 = k := by omega
      have nj16 : ¬ j16 = k := by omega
      clear hj2 hj7 hj15 hj16
      go_upto_region 7 with fail
      refine wp_region_held_drew (S := (fun w' => w'.cell? ⟨w.heap.size + 1, j2, none⟩ = some (.int .u32 ((wN p2 : Nat) : Int)) ∧ w'.cell? ⟨w.heap.size + 1, j7, none⟩ = some (.int .u32 ((wN p7 : Nat) : Int)) ∧ w'.cell? ⟨w.heap.size + 1, j15, none⟩ = some (.int .u32 ((wN p15 : Nat) : Int)) ∧ w'.cell? ⟨w.heap.size + 1, j16, none⟩ = some (.int .u32 ((wN p16 : Nat) : Int)))) (by kernel_rfl) ⟨y2, y7, y15, y16⟩ (fun hH0 => ?_)
      refine wpAnyH_take (i := 0) (oi := _) (v := .int .i64 (k : Int)) rfl (by kernel_rfl) (by kernel_rfl) (by kernel_rfl) (fun _ _ _ h => h) (Or.inl ⟨by rfl, ?_⟩) hH0 ?_
      · intro w hSw; go_simp
      simp only [Act.put, List.getElem_toArray, List.getElem_cons_zero, List.getElem_cons_succ, List.setIfInBounds_toArray, List.set_cons_zero, List.set_cons_succ]
      refine wpAnyH_take (i := 1) (oi := _) (v := .int .i64 ((j15 : Int))) rfl (by kernel_rfl) (by kernel_rfl) (by kernel_rfl) (fun _ _ _ h => h) (Or.inl ⟨by rfl, ?_⟩) hH0 ?_
      · intro w hSw; first | (go_simp; done) | (go_simp; exact i15)
      simp only [Act.put, List.getElem_toArray, List.getElem_cons_zero, List.getElem_cons_succ, List.setIfInBounds_toArray, List.set_cons_zero, List.set_cons_succ]
      refine wpAnyH_take (i := 2) (oi := _) (v := .pointer (some ⟨w.heap.size + 1, j15, none⟩)) rfl (by kernel_rfl) (by kernel_rfl) (by kernel_rfl) (fun _ _ _ h => h) (Or.inl ⟨by rfl, ?_⟩) hH0 ?_
      · intro w hSw; first | (go_simp; done) | (go_simp; omega) | (go_simp; rw [if_pos (by omega)]; rfl)
      simp only [Act.put, List.getElem_toArray, List.getElem_cons_zero, List.getElem_cons_succ, List.setIfInBounds_toArray, List.set_cons_zero, List.set_cons_succ]
      refine wpAnyH_take (i := 3) (oi := _) (v := .int .u32 ((wN p15 : Nat) : Int)) rfl (by kernel_rfl) (by kernel_rfl) (by kernel_rfl) (fun _ _ _ h => h) (Or.inl ⟨by rfl, ?_⟩) hH0 ?_
      · intro w hSw; obtain ⟨q0, q1, q2, q3⟩ := hSw; go_simp
      simp only [Act.put, List.getElem_toArray, List.getElem_cons_zero, List.getElem_cons_succ, List.setIfInBounds_toArray, List.set_cons_zero, List.set_cons_succ]
      refine wpAnyH_take (i := 4) (oi := _) (v := .int .i64 (k : Int)) rfl (by kernel_rfl) (by kernel_rfl) (by kernel_rfl) (fun _ _ _ h => h) (Or.inl ⟨by rfl, ?_⟩) hH0 ?_
      · intro w hSw; go_simp
      simp only [Act.put, List.getElem_toArray, List.getElem_cons_zero, List.getElem_cons_succ, List.setIfInBounds_toArray, List.set_cons_zero, List.set_cons_succ]
      refine wpAnyH_take (i := 5) (oi := _) (v := .int .i64 ((j2 : Int))) rfl (by kernel_rfl) (by kernel_rfl) (by kernel_rfl) (fun _ _ _ h => h) (Or.inl ⟨by rfl, ?_⟩) hH0 ?_
      · intro w hSw; first | (go_simp; done) | (go_simp; exact i2)
      simp only [Act.put, List.getElem_toArray, List.getElem_cons_zero, List.getElem_cons_succ, List.setIfInBounds_toArray, List.set_cons_zero, List.set_cons_succ]
      refine wpAnyH_take (i := 6) (oi := _) (v := .pointer (some ⟨w.heap.size + 1, j2, none⟩)) rfl (by kernel_rfl) (by kernel_rfl) (by kernel_rfl) (fun _ _ _ h => h) (Or.inl ⟨by rfl, ?_⟩) hH0 ?_
      · intro w hSw; first | (go_simp; done) | (go_simp; omega) | (go_simp; rw [if_pos (by omega)]; rfl)
      simp only [Act.put, List.getElem_toArray, List.getElem_cons_zero, List.getElem_cons_succ, List.setIfInBounds_toArray, List.set_cons_zero, List.set_cons_succ]
      refine wpAnyH_take (i := 7) (oi := _) (v := .int .u32 ((wN p2 : Nat) : Int)) rfl (by kernel_rfl) (by kernel_rfl) (by kernel_rfl) (fun _ _ _ h => h) (Or.inl ⟨by rfl, ?_⟩) hH0 ?_
      · intro w hSw; obtain ⟨q0, q1, q2, q3⟩ := hSw; go_simp
      simp only [Act.put, List.getElem_toArray, List.getElem_cons_zero, List.getElem_cons_succ, List.setIfInBounds_toArray, List.set_cons_zero, List.set_cons_succ]
      refine wpAnyH_take (i := 8) (oi := _) (v := .int .u32 ((wN p15 : Nat) : Int)) rfl (by kernel_rfl) (by kernel_rfl) (by kernel_rfl) (fun _ _ _ h => h) (Or.inl ⟨by rfl, ?_⟩) hH0 ?_
      · intro w hSw; go_simp
      simp only [Act.put, List.getElem_toArray, List.getElem_cons_zero, List.getElem_cons_succ, List.setIfInBounds_toArray, List.set_cons_zero, List.set_cons_succ]
      refine wpAnyH_take (i := 9) (oi := _) (v := .int .u32 ((wN p2 : Nat) : Int)) rfl (by kernel_rfl) (by kernel_rfl) (by kernel_rfl) (fun _ _ _ h => h) (Or.inl ⟨by rfl, ?_⟩) hH0 ?_
      · intro w hSw; go_simp
      simp only [Act.put, List.getElem_toArray, List.getElem_cons_zero, List.getElem_cons_succ, List.setIfInBounds_toArray, List.set_cons_zero, List.set_cons_succ]
      refine wpAnyH_done (by kernel_rfl) ?_ _
      go_upto_region 8 with fail
      refine wp_region_held_drew (S := (fun w' => w'.cell? ⟨w.heap.size + 1, j2, none⟩ = some (.int .u32 ((wN p2 : Nat) : Int)) ∧ w'.cell? ⟨w.heap.size + 1, j7, none⟩ = some (.int .u32 ((wN p7 : Nat) : Int)) ∧ w'.cell? ⟨w.heap.size + 1, j15, none⟩ = some (.int .u32 ((wN p15 : Nat) : Int)) ∧ w'.cell? ⟨w.heap.size + 1, j16, none⟩ = some (.int .u32 ((wN p16 : Nat) : Int)))) (by kernel_rfl) ⟨y2, y7, y15, y16⟩ (fun hH0 => ?_)
      refine wpAnyH_take (i := 0) (oi := _) (v := .int .i64 (k : Int)) rfl (by kernel_rfl) (by kernel_rfl) (by kernel_rfl) (fun _ _ _ h => h) (Or.inl ⟨by rfl, ?_⟩) hH0 ?_
      · intro w hSw; go_simp
      simp only [Act.put, List.getElem_toArray, List.getElem_cons_zero, List.getElem_cons_succ, List.setIfInBounds_toArray, List.set_cons_zero, List.set_cons_succ]
      refine wpAnyH_take (i := 1) (oi := _) (v := .int .i64 (k : Int)) rfl (by kernel_rfl) (by kernel_rfl) (by kernel_rfl) (fun _ _ _ h => h) (Or.inl ⟨by rfl, ?_⟩) hH0 ?_
      · intro w hSw; go_simp
      simp only [Act.put, List.getElem_toArray, List.getElem_cons_zero, List.getElem_cons_succ, List.setIfInBounds_toArray, List.set_cons_zero, List.set_cons_succ]
      refine wpAnyH_take (i := 2) (oi := _) (v := .int .i64 ((j16 : Int))) rfl (by kernel_rfl) (by kernel_rfl) (by kernel_rfl) (fun _ _ _ h => h) (Or.inl ⟨by rfl, ?_⟩) hH0 ?_
      · intro w hSw; first | (go_simp; done) | (go_simp; exact i16)
      simp only [Act.put, List.getElem_toArray, List.getElem_cons_zero, List.getElem_cons_succ, List.setIfInBounds_toArray, List.set_cons_zero, List.set_cons_succ]
      refine wpAnyH_take (i := 3) (oi := _) (v := .pointer (some ⟨w.heap.size + 1, j16, none⟩)) rfl (by kernel_rfl) (by kernel_rfl) (by kernel_rfl) (fun _ _ _ h => h) (Or.inl ⟨by rfl, ?_⟩) hH0 ?_
      · intro w hSw; first | (go_simp; done) | (go_simp; omega) | (go_simp; rw [if_pos (by omega)]; rfl)
      simp only [Act.put, List.getElem_toArray, List.getElem_cons_zero, List.getElem_cons_succ, List.setIfInBounds_toArray, List.set_cons_zero, List.set_cons_succ]
      refine wpAnyH_take (i := 4) (oi := _) (v := .int .u32 ((wN p16 : Nat) : Int)) rfl (by kernel_rfl) (by kernel_rfl) (by kernel_rfl) (fun _ _ _ h => h) (Or.inl ⟨by rfl, ?_⟩) hH0 ?_
      · intro w hSw; obtain ⟨q0, q1, q2, q3⟩ := hSw; go_simp
      simp only [Act.put, List.getElem_toArray, List.getElem_cons_zero, List.getElem_cons_succ, List.setIfInBounds_toArray, List.set_cons_zero, List.set_cons_succ]
      refine wpAnyH_take (i := 5) (oi := _) (v := .int .i64 (k : Int)) rfl (by kernel_rfl) (by kernel_rfl) (by kernel_rfl) (fun _ _ _ h => h) (Or.inl ⟨by rfl, ?_⟩) hH0 ?_
      · intro w hSw; go_simp
      simp only [Act.put, List.getElem_toArray, List.getElem_cons_zero, List.getElem_cons_succ, List.setIfInBounds_toArray, List.set_cons_zero, List.set_cons_succ]
      refine wpAnyH_take (i := 6) (oi := _) (v := .int .i64 ((j7 : Int))) rfl (by kernel_rfl) (by kernel_rfl) (by kernel_rfl) (fun _ _ _ h => h) (Or.inl ⟨by rfl, ?_⟩) hH0 ?_
      · intro w hSw; first | (go_simp; done) | (go_simp; exact i7)
      simp only [Act.put, List.getElem_toArray, List.getElem_cons_zero, List.getElem_cons_succ, List.setIfInBounds_toArray, List.set_cons_zero, List.set_cons_succ]
      refine wpAnyH_take (i := 7) (oi := _) (v := .pointer (some ⟨w.heap.size + 1, j7, none⟩)) rfl (by kernel_rfl) (by kernel_rfl) (by kernel_rfl) (fun _ _ _ h => h) (Or.inl ⟨by rfl, ?_⟩) hH0 ?_
      · intro w hSw; first | (go_simp; done) | (go_simp; omega) | (go_simp; rw [if_pos (by omega)]; rfl)
      simp only [Act.put, List.getElem_toArray, List.getElem_cons_zero, List.getElem_cons_succ, List.setIfInBounds_toArray, List.set_cons_zero, List.set_cons_succ]
      refine wpAnyH_take (i := 8) (oi := _) (v := .int .u32 ((wN p7 : Nat) : Int)) rfl (by kernel_rfl) (by kernel_rfl) (by kernel_rfl) (fun _ _ _ h => h) (Or.inl ⟨by rfl, ?_⟩) hH0 ?_
      · intro w hSw; obtain ⟨q0, q1, q2, q3⟩ := hSw; go_simp
      simp only [Act.put, List.getElem_toArray, List.getElem_cons_zero, List.getElem_cons_succ, List.setIfInBounds_toArray, List.set_cons_zero, List.set_cons_succ]
      refine wpAnyH_take (i := 9) (oi := _) (v := .int .u32 ((wN (p16 + p7) : Nat) : Int)) rfl (by kernel_rfl) (by kernel_rfl) (by kernel_rfl) (fun _ _ _ h => h) (Or.inl ⟨by rfl, ?_⟩) hH0 ?_
      · intro w hSw; go_simp; first | exact w_add (p16) (p7) | exact w_add2 (p16) (p7)
      simp only [Act.put, List.getElem_toArray, List.getElem_cons_zero, List.getElem_cons_succ, List.setIfInBounds_toArray, List.set_cons_zero, List.set_cons_succ]
      refine wpAnyH_take (i := 10) (oi := _) (v := .int .u32 ((wN (p15) : Nat) : Int)) rfl (by kernel_rfl) (by kernel_rfl) (by kernel_rfl) (fun _ _ _ h => h) (Or.inl ⟨by rfl, ?_⟩) hH0 ?_
      · intro w hSw; go_simp
      simp only [Act.put, List.getElem_toArray, List.getElem_cons_zero, List.getElem_cons_succ, List.setIfInBounds_toArray, List.set_cons_zero, List.set_cons_succ]
      refine wpAnyH_take (i := 12) (oi := _) (v := .int .u32 ((wN (p15) : Nat) : Int)) rfl (by kernel_rfl) (by kernel_rfl) (by kernel_rfl) (fun _ _ _ h => h) (Or.inl ⟨by rfl, ?_⟩) hH0 ?_
      · intro w hSw; go_simp
      simp only [Act.put, List.getElem_toArray, List.getElem_cons_zero, List.getElem_cons_succ, List.setIfInBounds_toArray, List.set_cons_zero, List.set_cons_succ]
      refine wpAnyH_take (i := 15) (oi := _) (v := .int .u32 ((wN (p15) : Nat) : Int)) rfl (by kernel_rfl) (by kernel_rfl) (by kernel_rfl) (fun _ _ _ h => h) (Or.inl ⟨by rfl, ?_⟩) hH0 ?_
      · intro w hSw; go_simp
      simp only [Act.put, List.getElem_toArray, List.getElem_cons_zero, List.getElem_cons_succ, List.setIfInBounds_toArray, List.set_cons_zero, List.set_cons_succ]
      refine wpAnyH_take (i := 16) (oi := _) (v := .int .u32 ((wN (p15 >>> 3) : Nat) : Int)) rfl (by kernel_rfl) (by kernel_rfl) (by kernel_rfl) (fun _ _ _ h => h) (Or.inl ⟨by rfl, ?_⟩) hH0 ?_
      · intro w hSw; go_simp; exact w_shr3 p15
      simp only [Act.put, List.getElem_toArray, List.getElem_cons_zero, List.getElem_cons_succ, List.setIfInBounds_toArray, List.set_cons_zero, List.set_cons_succ]
      refine wpAnyH_take (i := 19) (oi := _) (v := .int .u32 ((wN (p2) : Nat) : Int)) rfl (by kernel_rfl) (by kernel_rfl) (by kernel_rfl) (fun _ _ _ h => h) (Or.inl ⟨by rfl, ?_⟩) hH0 ?_
      · intro w hSw; go_simp
      simp only [Act.put, List.getElem_toArray, List.getElem_cons_zero, List.getElem_cons_succ, List.setIfInBounds_toArray, List.set_cons_zero, List.set_cons_succ]
      refine wpAnyH_take (i := 21) (oi := _) (v := .int .u32 ((wN (p2) : Nat) : Int)) rfl (by kernel_rfl) (by kernel_rfl) (by kernel_rfl) (fun _ _ _ h => h) (Or.inl ⟨by rfl, ?_⟩) hH0 ?_
      · intro w hSw; go_simp
      simp only [Act.put, List.getElem_toArray, List.getElem_cons_zero, List.getElem_cons_succ, List.setIfInBounds_toArray, List.set_cons_zero, List.set_cons_succ]
      refine wpAnyH_take (i := 24) (oi := _) (v := .int .u32 ((wN (p2) : Nat) : Int)) rfl (by kernel_rfl) (by kernel_rfl) (by kernel_rfl) (fun _ _ _ h => h) (Or.inl ⟨by rfl, ?_⟩) hH0 ?_
      · intro w hSw; go_simp
      simp only [Act.put, List.getElem_toArray, List.getElem_cons_zero, List.getElem_cons_succ, List.setIfInBounds_toArray, List.set_cons_zero, List.set_cons_succ]
      refine wpAnyH_take (i := 25) (oi := _) (v := .int .u32 ((wN (p2 >>> 10) : Nat) : Int)) rfl (by kernel_rfl) (by kernel_rfl) (by kernel_rfl) (fun _ _ _ h => h) (Or.inl ⟨by rfl, ?_⟩) hH0 ?_
      · intro w hSw; go_simp; exact w_shr10 p2
      simp only [Act.put, List.getElem_toArray, List.getElem_cons_zero, List.getElem_cons_succ, List.setIfInBounds_toArray, List.set_cons_zero, List.set_cons_succ]
      refine wpAnyH_ready (rs := [11]) (by kernel_rfl) (by simp) (AllReadyH.cons (o := _) rfl (fun K hK => ?_) AllReadyH.nil)
      go_simp
      refine (right_any p15 7 (by decide) (by decide) _).mono ?_
      rintro en wz ⟨rfl, rfl⟩
      unfold wV
      refine hK.out _ _ ?_ (fun hH1 => ?_)
      · exact hH0
      clear hK K
      refine wpAnyH_ready (rs := [13]) (by kernel_rfl) (by simp) (AllReadyH.cons (o := _) rfl (fun K hK => ?_) AllReadyH.nil)
      go_simp
      refine (right_any p15 18 (by decide) (by decide) _).mono ?_
      rintro en wz ⟨rfl, rfl⟩
      unfold wV
      refine hK.out _ _ ?_ (fun hH2 => ?_)
      · exact hH1
      clear hK K
      refine wpAnyH_take (i := 14) (oi := _) (v := .int .u32 ((wN (rotr p15 7 ^^^ rotr p15 18) : Nat) : Int)) rfl (by kernel_rfl) (by kernel_rfl) (by kernel_rfl) (fun _ _ _ h => h) (Or.inl ⟨by rfl, ?_⟩) hH2 ?_
      · intro w hSw; go_simp; exact w_xor (rotr p15 7) (rotr p15 18)
      simp only [Act.put, List.getElem_toArray, List.getElem_cons_zero, List.getElem_cons_succ, List.setIfInBounds_toArray, List.set_cons_zero, List.set_cons_succ]
      refine wpAnyH_take (i := 17) (oi := _) (v := .int .u32 ((wN (sg0 p15) : Nat) : Int)) rfl (by kernel_rfl) (by kernel_rfl) (by kernel_rfl) (fun _ _ _ h => h) (Or.inl ⟨by rfl, ?_⟩) hH2 ?_
      · intro w hSw; go_simp; exact w_xor (rotr p15 7 ^^^ rotr p15 18) (p15 >>> 3)
      simp only [Act.put, List.getElem_toArray, List.getElem_cons_zero, List.getElem_cons_succ, List.setIfInBounds_toArray, List.set_cons_zero, List.set_cons_succ]
      refine wpAnyH_take (i := 18) (oi := _) (v := .int .u32 ((wN (p16 + p7 + sg0 p15) : Nat) : Int)) rfl (by kernel_rfl) (by kernel_rfl) (by kernel_rfl) (fun _ _ _ h => h) (Or.inl ⟨by rfl, ?_⟩) hH2 ?_
      · intro w hSw; go_simp; first | exact w_add (p16 + p7) (sg0 p15) | exact w_add2 (p16 + p7) (sg0 p15)
      simp only [Act.put, List.getElem_toArray, List.getElem_cons_zero, List.getElem_cons_succ, List.setIfInBounds_toArray, List.set_cons_zero, List.set_cons_succ]
      refine wpAnyH_ready (rs := [20]) (by kernel_rfl) (by simp) (AllReadyH.cons (o := _) rfl (fun K hK => ?_) AllReadyH.nil)
      go_simp
      refine (right_any p2 17 (by decide) (by decide) _).mono ?_
      rintro en wz ⟨rfl, rfl⟩
      unfold wV
      refine hK.out _ _ ?_ (fun hH3 => ?_)
      · exact hH2
      clear hK K
      refine wpAnyH_ready (rs := [22]) (by kernel_rfl) (by simp) (AllReadyH.cons (o := _) rfl (fun K hK => ?_) AllReadyH.nil)
      go_simp
      refine (right_any p2 19 (by decide) (by decide) _).mono ?_
      rintro en wz ⟨rfl, rfl⟩
      unfold wV
      refine hK.out _ _ ?_ (fun hH4 => ?_)
      · exact hH3
      clear hK K
      refine wpAnyH_take (i := 23) (oi := _) (v := .int .u32 ((wN (rotr p2 17 ^^^ rotr p2 19) : Nat) : Int)) rfl (by kernel_rfl) (by kernel_rfl) (by kernel_rfl) (fun _ _ _ h => h) (Or.inl ⟨by rfl, ?_⟩) hH4 ?_
      · intro w hSw; go_simp; exact w_xor (rotr p2 17) (rotr p2 19)
      simp only [Act.put, List.getElem_toArray, List.getElem_cons_zero, List.getElem_cons_succ, List.setIfInBounds_toArray, List.set_cons_zero, List.set_cons_succ]
      refine wpAnyH_take (i := 26) (oi := _) (v := .int .u32 ((wN (sg1 p2) : Nat) : Int)) rfl (by kernel_rfl) (by kernel_rfl) (by kernel_rfl) (fun _ _ _ h => h) (Or.inl ⟨by rfl, ?_⟩) hH4 ?_
      · intro w hSw; go_simp; exact w_xor (rotr p2 17 ^^^ rotr p2 19) (p2 >>> 10)
      simp only [Act.put, List.getElem_toArray, List.getElem_cons_zero, List.getElem_cons_succ, List.setIfInBounds_toArray, List.set_cons_zero, List.set_cons_succ]
      refine wpAnyH_take (i := 27) (oi := _) (v := .int .u32 ((wN (p16 + p7 + sg0 p15 + sg1 p2) : Nat) : Int)) rfl (by kernel_rfl) (by kernel_rfl) (by kernel_rfl) (fun _ _ _ h => h) (Or.inl ⟨by rfl, ?_⟩) hH4 ?_
      · intro w hSw; go_simp; first | exact w_add (p16 + p7 + sg0 p15) (sg1 p2) | exact w_add2 (p16 + p7 + sg0 p15) (sg1 p2)
      simp only [Act.put, List.getElem_toArray, List.getElem_cons_zero, List.getElem_cons_succ, List.setIfInBounds_toArray, List.set_cons_zero, List.set_cons_succ]
      refine wpAnyH_take (i := 28) (oi := _) (v := .pointer (some ⟨w.heap.size + 1, k, none⟩)) rfl (by kernel_rfl) (by kernel_rfl) (by kernel_rfl) (fun _ _ _ h => h) (Or.inl ⟨by rfl, ?_⟩) hH4 ?_
      · intro w hSw; first | (go_simp; done) | (go_simp; omega) | (go_simp; rw [if_pos (by omega)]; rfl)
      simp only [Act.put, List.getElem_toArray, List.getElem_cons_zero, List.getElem_cons_succ, List.setIfInBounds_toArray, List.set_cons_zero, List.set_cons_succ]
      refine wpAnyH_ready (rs := [29]) (by kernel_rfl) (by simp) (AllReadyH.cons (o := _) rfl (fun K hK => ?_) AllReadyH.nil)
      go_simp
      refine hK.out _ _ ?_ (fun hH5 => ?_)
      · exact ⟨by simp [go_sem, y2, nj2], by simp [go_sem, y7, nj7], by simp [go_sem, y15, nj15], by simp [go_sem, y16, nj16]⟩
      clear hK K
      refine wpAnyH_done (by kernel_rfl) ?_ _
      have H2 : Sep w NoF [.box (w.heap.size + 1) ((shaArr (sched b k)).set k (wV (p16 + p7 + sg0 p15 + sg1 p2))) 168, .box w.heap.size (shaArr []) 168] ((wr.setCell ⟨w.heap.size + 1, k, none⟩ (wV (p16 + p7 + sg0 p15 + sg1 p2))).drew.drew) := (H0.set 0 rfl k (wV (p16 + p7 + sg0 p15 + sg1 p2))).drew.drew
      rw [(HSET _).out, ← HN.out] at H2
      unfold wV at H2
      generalize (wr.setCell ⟨w.heap.size + 1, k, none⟩ (.int .u32 ((wN (p16 + p7 + sg0 p15 + sg1 p2) : Nat) : Int))).drew.drew = w2 at *
      clear H0 ck fk hNl y2 y7 y15 y16
      go_wp2_with fail
      go_roundw
      case rel => exact ⟨k + 1, by go_num, by omega, H2⟩
      case measure => simp [intOf]; omega
    · obtain rfl : k = 64 := by omega
      have HF := Lib.hid' (shaArr_full (sched b 64) HS.out)
      rw [HF.out] at H0
      have hl64 : ((sched b 64).map wV).length = 64 := by rw [List.length_map]; exact HS.out
      have H2 := H0.setRow 1 rfl ((sched b 64).map wV)
      have HB := Lib.hid' H2.toBelow
      have HX2 := Lib.hid' (H2.box 0 rfl)
      have h1 : ((sched b 64).map wV).all (·.oneCell') = true := by rw [List.all_map]; exact List.all_eq_true.2 (fun _ _ => rfl)
      have hz : (Tryz.prog.info? 168).map (·.size) = some ((sched b 64).map wV).length := by rw [hl64]; kernel_rfl
      have hz2 : (shaArr []).length = ((sched b 64).map wV).length := by rw [hl64]; rfl
      obtain ⟨X, hX⟩ : ∃ X, X = (sched b 64).map wV := ⟨_, rfl⟩
      rw [← hX] at H0 HB HX2 h1 hz hz2
      have HXX := Lib.hid' hX
      clear HF HS H2 hl64 hX
      go_upto_region 10 with fail
      go_wp2_with (first | (refine Sep.loadB H0 0 rfl rfl 168 (.tmp 3) rfl rfl _ Tryz.underlying168 rfl hz ?_) | (refine Sep.storeB H0 1 rfl rfl 168 (.tmp 2) (.tmp 85) rfl X rfl rfl hz hz2 h1 ?_))
      refine bodyPost_ret (box_result Tryz.results90 HX2.out _ rfl _ Tryz.underlying168 rfl hz) rfl ?_
      exact ⟨by rw [HXX.out], HB.out⟩
end Go.Proofs.YtinbcehlpfnlaaaGreatDoor
