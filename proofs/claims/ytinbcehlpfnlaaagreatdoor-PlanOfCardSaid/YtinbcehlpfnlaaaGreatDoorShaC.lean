/- Layer 3 (sha): a block's rounds. -/
import Derived.Test.YtinbcehlpfnlaaaGreatDoorShaB
namespace Go.Proofs.YtinbcehlpfnlaaaGreatDoor
open Go.RowKit
set_option linter.unusedSimpArgs false
set_option linter.unusedVariables false
set_option maxRecDepth 100000

/-- the program's own tables, in memory -/
structure Laid (w : World) : Prop where
  k : w.rangeAt 1 0 (shaK.map wV)
  f : w.rangeAt 0 0 shaH.vals
theorem Laid.below {w w' : World} (h : Laid w) {B : Nat} (hB : w.heap.size ≤ B) (hb : Below B w w') : Laid w' := by
  have hc : ∀ p v, w.cell? p = some v → w'.cell? p = some v := fun p v hv => by
    have := cell_lt hv
    rw [← hv]
    exact (hb.cell (Nat.lt_of_lt_of_le this hB))
  exact ⟨fun j v hj => hc _ _ (h.k j v hj), fun j v hj => hc _ _ (h.f j v hj)⟩
theorem Laid.at {w : World} (h : Laid w) {j : Nat} (hj : j < 64) : w.cell? ⟨1, j, none⟩ = some (.int .u32 ((wN (shaK.getD j 0) : Nat) : Int)) := by
  have := h.k j (wV (shaK.getD j 0)) (by simp [List.getD, show j < shaK.length from hj])
  rw [Nat.zero_add] at this
  exact this
/-- the first i sums laid over a list -/
def mix (A B : List W32) (i : Nat) : List W32 := (List.zipWith (· + ·) A B).take i ++ A.drop i
theorem mix_get (A B : List W32) {i : Nat} (h : i < A.length) (hl : A.length = B.length) : ((mix A B i).map wV)[i]? = some (wV (A.getD i 0)) := by
  unfold mix
  have h1 : ((List.zipWith (· + ·) A B).take i).length = i := by simp; omega
  rw [List.getElem?_map, List.getElem?_append_right (by omega), h1]
  simp [h]
theorem mix_set (A B : List W32) {i : Nat} (h : i < A.length) (hl : A.length = B.length) : ((mix A B i).map wV).set i (wV (A.getD i 0 + B.getD i 0)) = (mix A B (i + 1)).map wV := by
  have h1 : ((List.zipWith (· + ·) A B).take i).length = i := by simp; omega
  have h2 : i < (List.zipWith (· + ·) A B).length := by simp; omega
  unfold mix
  rw [← List.map_set]
  congr 1
  rw [List.set_append_right _ _ (by omega), h1, Nat.sub_self, List.take_succ_eq_append_getElem h2]
  have hd : (A.drop i).set 0 (A[i] + B[i]) = (A[i] + B[i]) :: A.drop (i + 1) := by rw [List.drop_eq_getElem_cons h]; rfl
  simp [h, show i < B.length by omega, hd]
theorem mix_zero (A B : List W32) : mix A B 0 = A := by simp [mix]
theorem mix_all (A B : List W32) (h : A.length = 8) (hl : A.length = B.length) : mix A B 8 = List.zipWith (· + ·) A B := by
  unfold mix
  rw [List.take_of_length_le (by simp; omega), List.drop_of_length_le (by omega), List.append_nil]
theorem vals_get (s : H8) {i : Nat} (h : i < 8) : s.vals[i]? = some (wV (s.list.getD i 0)) := by
  rw [show s.vals = s.list.map wV from rfl, List.getElem?_map]
  simp [show i < s.list.length from h]
theorem len8 (s : H8) : s.list.length = 8 := rfl
theorem vals_map (s : H8) : s.list.map wV = s.vals := rfl
theorem add_list (s u : H8) : List.zipWith (· + ·) s.list u.list = (s.add u).list := rfl
theorem rounds_succ (S : List W32) (k : Nat) (s : H8) : rounds S (k + 1) s = (rounds S k s).rnd (shaK.getD k 0) (S.getD k 0) := rfl
theorem index_arr (S : List W32) (h : S.length = 64) {k : Nat} (hk : k < 64) (w : World) : (Instr.index 168 (.agg (S.map wV).toArray) (.int .i64 (k : Int))).run Tryz.prog w = .ok (.int .u32 ((wN (S.getD k 0) : Nat) : Int)) w := by
  have hs : S[k]? = some (S.getD k 0) := by simp [show k < S.length by omega]
  have hk2 : (k : Int) < 64 := by omega
  generalize S.getD k 0 = y at *
  simp [Instr.index, asIntOf, go_sem, Tryz.underlying168, hk2, hk, hs, wV]
set_option maxHeartbeats 16000000 in
theorem sstep_any (s : H8) (b : List UInt8) (h64 : b.length = 64) (a : Option Addr) (c : Nat) (w : World) (h : SlV w (.slice a 64 c) 64 (byteVs b)) (hK : Laid w) :
    Calls Tryz.prog 85 #[.agg #[.int .u32 ((wN (s.a) : Nat) : Int), .int .u32 ((wN (s.b) : Nat) : Int), .int .u32 ((wN (s.c) : Nat) : Int), .int .u32 ((wN (s.d) : Nat) : Int), .int .u32 ((wN (s.e) : Nat) : Int), .int .u32 ((wN (s.f) : Nat) : Int), .int .u32 ((wN (s.g) : Nat) : Int), .int .u32 ((wN (s.h) : Nat) : Int)], .slice a 64 c] w fun e w' => e = .returned (.agg (stepS s b).vals.toArray) ∧ Below w.heap.size w w' := by
  have HSC := Lib.hid' (fun wq hq => schedule_any b h64 a c wq hq)
  have HSL := Lib.hid' (sched_len b 64)
  have HD := Lib.hid' h
  have HK := Lib.hid' hK
  have HST := Lib.hid' (show stepS s b = (rounds (sched b 64) 64 s).add s from rfl)
  generalize stepS s b = Z at *
  generalize sched b 64 = S at *
  clear h h64 hK
  go_enter Tryz.func85, Tryz.ntmps85
  go_wp2_with fail
  have H0 : Sep w NoF [] w := Sep.start _
  have H1 : Sep w NoF [.box (w.heap.size + 1 + 1) [.int .u32 ((wN (s.a) : Nat) : Int), .int .u32 ((wN (s.b) : Nat) : Int), .int .u32 ((wN (s.c) : Nat) : Int), .int .u32 ((wN (s.d) : Nat) : Int), .int .u32 ((wN (s.e) : Nat) : Int), .int .u32 ((wN (s.f) : Nat) : Int), .int .u32 ((wN (s.g) : Nat) : Int), .int .u32 ((wN (s.h) : Nat) : Int)] 143, .box (w.heap.size + 1) [.int .u32 0, .int .u32 0, .int .u32 0, .int .u32 0, .int .u32 0, .int .u32 0, .int .u32 0, .int .u32 0] 143, .box (w.heap.size) [.int .u32 ((wN (s.a) : Nat) : Int), .int .u32 ((wN (s.b) : Nat) : Int), .int .u32 ((wN (s.c) : Nat) : Int), .int .u32 ((wN (s.d) : Nat) : Int), .int .u32 ((wN (s.e) : Nat) : Int), .int .u32 ((wN (s.f) : Nat) : Int), .int .u32 ((wN (s.g) : Nat) : Int), .int .u32 ((wN (s.h) : Nat) : Int)] 143] ((((w.alloc (.cells #[.int .u32 ((wN (s.a) : Nat) : Int), .int .u32 ((wN (s.b) : Nat) : Int), .int .u32 ((wN (s.c) : Nat) : Int), .int .u32 ((wN (s.d) : Nat) : Int), .int .u32 ((wN (s.e) : Nat) : Int), .int .u32 ((wN (s.f) : Nat) : Int), .int .u32 ((wN (s.g) : Nat) : Int), .int .u32 ((wN (s.h) : Nat) : Int)] 143)).alloc (.cells #[.int .u32 0, .int .u32 0, .int .u32 0, .int .u32 0, .int .u32 0, .int .u32 0, .int .u32 0, .int .u32 0] 143)).alloc (.cells #[.int .u32 ((wN (s.a) : Nat) : Int), .int .u32 ((wN (s.b) : Nat) : Int), .int .u32 ((wN (s.c) : Nat) : Int), .int .u32 ((wN (s.d) : Nat) : Int), .int .u32 ((wN (s.e) : Nat) : Int), .int .u32 ((wN (s.f) : Nat) : Int), .int .u32 ((wN (s.g) : Nat) : Int), .int .u32 ((wN (s.h) : Nat) : Int)] 143))) := (((H0.allocAt (w.heap.size) [.int .u32 ((wN (s.a) : Nat) : Int), .int .u32 ((wN (s.b) : Nat) : Int), .int .u32 ((wN (s.c) : Nat) : Int), .int .u32 ((wN (s.d) : Nat) : Int), .int .u32 ((wN (s.e) : Nat) : Int), .int .u32 ((wN (s.f) : Nat) : Int), .int .u32 ((wN (s.g) : Nat) : Int), .int .u32 ((wN (s.h) : Nat) : Int)] 143 (by simp)).allocAt (w.heap.size + 1) [.int .u32 0, .int .u32 0, .int .u32 0, .int .u32 0, .int .u32 0, .int .u32 0, .int .u32 0, .int .u32 0] 143 (by simp)).allocAt (w.heap.size + 1 + 1) [.int .u32 ((wN (s.a) : Nat) : Int), .int .u32 ((wN (s.b) : Nat) : Int), .int .u32 ((wN (s.c) : Nat) : Int), .int .u32 ((wN (s.d) : Nat) : Int), .int .u32 ((wN (s.e) : Nat) : Int), .int .u32 ((wN (s.f) : Nat) : Int), .int .u32 ((wN (s.g) : Nat) : Int), .int .u32 ((wN (s.h) : Nat) : Int)] 143 (by simp))
  clear H0
  generalize (((w.alloc (.cells #[.int .u32 ((wN (s.a) : Nat) : Int), .int .u32 ((wN (s.b) : Nat) : Int), .int .u32 ((wN (s.c) : Nat) : Int), .int .u32 ((wN (s.d) : Nat) : Int), .int .u32 ((wN (s.e) : Nat) : Int), .int .u32 ((wN (s.f) : Nat) : Int), .int .u32 ((wN (s.g) : Nat) : Int), .int .u32 ((wN (s.h) : Nat) : Int)] 143)).alloc (.cells #[.int .u32 0, .int .u32 0, .int .u32 0, .int .u32 0, .int .u32 0, .int .u32 0, .int .u32 0, .int .u32 0] 143)).alloc (.cells #[.int .u32 ((wN (s.a) : Nat) : Int), .int .u32 ((wN (s.b) : Nat) : Int), .int .u32 ((wN (s.c) : Nat) : Int), .int .u32 ((wN (s.d) : Nat) : Int), .int .u32 ((wN (s.e) : Nat) : Int), .int .u32 ((wN (s.f) : Nat) : Int), .int .u32 ((wN (s.g) : Nat) : Int), .int .u32 ((wN (s.h) : Nat) : Int)] 143)) = w1 at *
  obtain ⟨nx, hnx⟩ : ∃ n, n = w.heap.size + 1 + 1 := ⟨_, rfl⟩
  rw [← hnx] at H1 ⊢
  have hnp : ¬ w.heap.size = nx := by omega
  clear hnx
  refine (HSC.out _ (H1.old0 HD.out)).mono ?_
  clear HSC
  rintro en w2 ⟨rfl, hb2⟩
  obtain ⟨SV, hSV⟩ : ∃ v, v = Value.agg (S.map wV).toArray := ⟨_, rfl⟩
  rw [← hSV]
  have HSV := Lib.hid' (show ∀ (k : Nat) (hk : k < 64) (wq : World), (Instr.index 168 SV (.int .i64 (k : Int))).run Tryz.prog wq = .ok (.int .u32 ((wN (S.getD k 0) : Nat) : Int)) wq from fun k hk wq => by rw [hSV]; exact index_arr S HSL.out hk wq)
  clear hSV
  have H2 : Sep w NoF [.box (nx) [.int .u32 ((wN (s.a) : Nat) : Int), .int .u32 ((wN (s.b) : Nat) : Int), .int .u32 ((wN (s.c) : Nat) : Int), .int .u32 ((wN (s.d) : Nat) : Int), .int .u32 ((wN (s.e) : Nat) : Int), .int .u32 ((wN (s.f) : Nat) : Int), .int .u32 ((wN (s.g) : Nat) : Int), .int .u32 ((wN (s.h) : Nat) : Int)] 143, .box (w.heap.size + 1) [.int .u32 0, .int .u32 0, .int .u32 0, .int .u32 0, .int .u32 0, .int .u32 0, .int .u32 0, .int .u32 0] 143, .box (w.heap.size) [.int .u32 ((wN (s.a) : Nat) : Int), .int .u32 ((wN (s.b) : Nat) : Int), .int .u32 ((wN (s.c) : Nat) : Int), .int .u32 ((wN (s.d) : Nat) : Int), .int .u32 ((wN (s.e) : Nat) : Int), .int .u32 ((wN (s.f) : Nat) : Int), .int .u32 ((wN (s.g) : Nat) : Int), .int .u32 ((wN (s.h) : Nat) : Int)] 143] (w2) := (H1.below hb2)
  clear H1 hb2
  go_wp2_with fail
  go_loopw [16] (fun v16 wr => ∃ k : Nat, v16 = .int .i64 k ∧ k ≤ 64 ∧ Sep w NoF [.box (nx) (rounds S k s).vals 143, .box (w.heap.size + 1) [.int .u32 0, .int .u32 0, .int .u32 0, .int .u32 0, .int .u32 0, .int .u32 0, .int .u32 0, .int .u32 0] 143, .box (w.heap.size) [.int .u32 ((wN (s.a) : Nat) : Int), .int .u32 ((wN (s.b) : Nat) : Int), .int .u32 ((wN (s.c) : Nat) : Int), .int .u32 ((wN (s.d) : Nat) : Int), .int .u32 ((wN (s.e) : Nat) : Int), .int .u32 ((wN (s.f) : Nat) : Int), .int .u32 ((wN (s.g) : Nat) : Int), .int .u32 ((wN (s.h) : Nat) : Int)] 143] wr) (fun v16 _ => 64 - (intOf v16).toNat)
  case atStart => exact ⟨0, rfl, Nat.zero_le _, H2⟩
  case round =>
    clear H2
    obtain ⟨k, rfl, hk, H0⟩ := hrel
    by_cases hlt : k < 64
    · have HNX := Lib.hid' (rounds_succ S k s)
      have hkc := (HK.out.below (Nat.le_refl _) H0.toBelow).at hlt
      have hix := HSV.out k hlt wr
      generalize rounds S k s = q at *
      generalize shaK.getD k 0 = kk at *
      generalize S.getD k 0 = ww at *
      obtain ⟨px, hpx⟩ : ∃ px, px = q.x kk ww := ⟨_, rfl⟩
      obtain ⟨py, hpy⟩ : ∃ py, py = q.y := ⟨_, rfl⟩
      have HPX := Lib.hid' hpx
      have HPY := Lib.hid' hpy
      clear hpx hpy
      replace H0 : Sep w NoF [.box (nx) [.int .u32 ((wN (q.a) : Nat) : Int), .int .u32 ((wN (q.b) : Nat) : Int), .int .u32 ((wN (q.c) : Nat) : Int), .int .u32 ((wN (q.d) : Nat) : Int), .int .u32 ((wN (q.e) : Nat) : Int), .int .u32 ((wN (q.f) : Nat) : Int), .int .u32 ((wN (q.g) : Nat) : Int), .int .u32 ((wN (q.h) : Nat) : Int)] 143, .box (w.heap.size + 1) [.int .u32 0, .int .u32 0, .int .u32 0, .int .u32 0, .int .u32 0, .int .u32 0, .int .u32 0, .int .u32 0] 143, .box (w.heap.size) [.int .u32 ((wN (s.a) : Nat) : Int), .int .u32 ((wN (s.b) : Nat) : Int), .int .u32 ((wN (s.c) : Nat) : Int), .int .u32 ((wN (s.d) : Nat) : Int), .int .u32 ((wN (s.e) : Nat) : Int), .int .u32 ((wN (s.f) : Nat) : Int), .int .u32 ((wN (s.g) : Nat) : Int), .int .u32 ((wN (s.h) : Nat) : Int)] 143] wr := H0
      have Xc0 := H0.cell 0 rfl 0 rfl
      have Xc1 := H0.cell 0 rfl 1 rfl
      have Xc2 := H0.cell 0 rfl 2 rfl
      have Xc3 := H0.cell 0 rfl 3 rfl
      have Xc4 := H0.cell 0 rfl 4 rfl
      have Xc5 := H0.cell 0 rfl 5 rfl
      have Xc6 := H0.cell 0 rfl 6 rfl
      have Xc7 := H0.cell 0 rfl 7 rfl
      have Xf0 := H0.free 0 rfl 0
      have Xf1 := H0.free 0 rfl 1
      have Xf2 := H0.free 0 rfl 2
      have Xf3 := H0.free 0 rfl 3
      have Xf4 := H0.free 0 rfl 4
      have Xf5 := H0.free 0 rfl 5
      have Xf6 := H0.free 0 rfl 6
      have Xf7 := H0.free 0 rfl 7
      have Xl := H0.lt 0 rfl
      go_upto_region 5 with fail
      refine wp_region_held_drew (S := (fun w' => w'.cell? ⟨nx, 0, none⟩ = some (.int .u32 ((wN (q.a) : Nat) : Int)) ∧ w'.cell? ⟨nx, 1, none⟩ = some (.int .u32 ((wN (q.b) : Nat) : Int)) ∧ w'.cell? ⟨nx, 2, none⟩ = some (.int .u32 ((wN (q.c) : Nat) : Int)) ∧ w'.cell? ⟨nx, 3, none⟩ = some (.int .u32 ((wN (q.d) : Nat) : Int)) ∧ w'.cell? ⟨nx, 4, none⟩ = some (.int .u32 ((wN (q.e) : Nat) : Int)) ∧ w'.cell? ⟨nx, 5, none⟩ = some (.int .u32 ((wN (q.f) : Nat) : Int)) ∧ w'.cell? ⟨nx, 6, none⟩ = some (.int .u32 ((wN (q.g) : Nat) : Int)) ∧ w'.cell? ⟨nx, 7, none⟩ = some (.int .u32 ((wN (q.h) : Nat) : Int)) ∧ w'.cell? ⟨1, k, none⟩ = some (.int .u32 ((wN (kk) : Nat) : Int)))) (by kernel_rfl) ⟨Xc0, Xc1, Xc2, Xc3, Xc4, Xc5, Xc6, Xc7, hkc⟩ (fun hH0 => ?_)
      refine wpAnyH_take (i := 0) (oi := _) (v := .pointer (some ⟨nx, 0, none⟩)) rfl (by kernel_rfl) (by kernel_rfl) (by kernel_rfl) (fun _ _ _ h => h) (Or.inl ⟨by rfl, ?_⟩) hH0 ?_
      · intro w hSw; first | (go_simp; done) | (go_simp; omega) | (go_simp; rw [if_pos (by omega)]; rfl)
      simp only [Act.put, List.getElem_toArray, List.getElem_cons_zero, List.getElem_cons_succ, List.setIfInBounds_toArray, List.set_cons_zero, List.set_cons_succ]
      refine wpAnyH_take (i := 1) (oi := _) (v := .int .u32 ((wN (q.a) : Nat) : Int)) rfl (by kernel_rfl) (by kernel_rfl) (by kernel_rfl) (fun _ _ _ h => h) (Or.inl ⟨by rfl, ?_⟩) hH0 ?_
      · intro w hSw; obtain ⟨q0, q1, q2, q3, q4, q5, q6, q7, q8⟩ := hSw; go_simp
      simp only [Act.put, List.getElem_toArray, List.getElem_cons_zero, List.getElem_cons_succ, List.setIfInBounds_toArray, List.set_cons_zero, List.set_cons_succ]
      refine wpAnyH_take (i := 2) (oi := _) (v := .pointer (some ⟨nx, 4, none⟩)) rfl (by kernel_rfl) (by kernel_rfl) (by kernel_rfl) (fun _ _ _ h => h) (Or.inl ⟨by rfl, ?_⟩) hH0 ?_
      · intro w hSw; first | (go_simp; done) | (go_simp; omega) | (go_simp; rw [if_pos (by omega)]; rfl)
      simp only [Act.put, List.getElem_toArray, List.getElem_cons_zero, List.getElem_cons_succ, List.setIfInBounds_toArray, List.set_cons_zero, List.set_cons_succ]
      refine wpAnyH_take (i := 3) (oi := _) (v := .int .u32 ((wN (q.e) : Nat) : Int)) rfl (by kernel_rfl) (by kernel_rfl) (by kernel_rfl) (fun _ _ _ h => h) (Or.inl ⟨by rfl, ?_⟩) hH0 ?_
      · intro w hSw; obtain ⟨q0, q1, q2, q3, q4, q5, q6, q7, q8⟩ := hSw; go_simp
      simp only [Act.put, List.getElem_toArray, List.getElem_cons_zero, List.getElem_cons_succ, List.setIfInBounds_toArray, List.set_cons_zero, List.set_cons_succ]
      refine wpAnyH_take (i := 4) (oi := _) (v := .int .u32 ((wN (q.a) : Nat) : Int)) rfl (by kernel_rfl) (by kernel_rfl) (by kernel_rfl) (fun _ _ _ h => h) (Or.inl ⟨by rfl, ?_⟩) hH0 ?_
      · intro w hSw; go_simp
      simp only [Act.put, List.getElem_toArray, List.getElem_cons_zero, List.getElem_cons_succ, List.setIfInBounds_toArray, List.set_cons_zero, List.set_cons_succ]
      refine wpAnyH_take (i := 5) (oi := _) (v := .int .u32 ((wN (q.e) : Nat) : Int)) rfl (by kernel_rfl) (by kernel_rfl) (by kernel_rfl) (fun _ _ _ h => h) (Or.inl ⟨by rfl, ?_⟩) hH0 ?_
      · intro w hSw; go_simp
      simp only [Act.put, List.getElem_toArray, List.getElem_cons_zero, List.getElem_cons_succ, List.setIfInBounds_toArray, List.set_cons_zero, List.set_cons_succ]
      refine wpAnyH_done (by kernel_rfl) ?_ _
      go_upto_region 6 with fail
      refine wp_region_held_drew (S := (fun w' => w'.cell? ⟨nx, 0, none⟩ = some (.int .u32 ((wN (q.a) : Nat) : Int)) ∧ w'.cell? ⟨nx, 1, none⟩ = some (.int .u32 ((wN (q.b) : Nat) : Int)) ∧ w'.cell? ⟨nx, 2, none⟩ = some (.int .u32 ((wN (q.c) : Nat) : Int)) ∧ w'.cell? ⟨nx, 3, none⟩ = some (.int .u32 ((wN (q.d) : Nat) : Int)) ∧ w'.cell? ⟨nx, 4, none⟩ = some (.int .u32 ((wN (q.e) : Nat) : Int)) ∧ w'.cell? ⟨nx, 5, none⟩ = some (.int .u32 ((wN (q.f) : Nat) : Int)) ∧ w'.cell? ⟨nx, 6, none⟩ = some (.int .u32 ((wN (q.g) : Nat) : Int)) ∧ w'.cell? ⟨nx, 7, none⟩ = some (.int .u32 ((wN (q.h) : Nat) : Int)) ∧ w'.cell? ⟨1, k, none⟩ = some (.int .u32 ((wN (kk) : Nat) : Int)))) (by kernel_rfl) ⟨Xc0, Xc1, Xc2, Xc3, Xc4, Xc5, Xc6, Xc7, hkc⟩ (fun hH0 => ?_)
      refine wpAnyH_take (i := 0) (oi := _) (v := .pointer (some ⟨nx, 7, none⟩)) rfl (by kernel_rfl) (by kernel_rfl) (by kernel_rfl) (fun _ _ _ h => h) (Or.inl ⟨by rfl, ?_⟩) hH0 ?_
      · intro w hSw; first | (go_simp; done) | (go_simp; omega) | (go_simp; rw [if_pos (by omega)]; rfl)
      simp only [Act.put, List.getElem_toArray, List.getElem_cons_zero, List.getElem_cons_succ, List.setIfInBounds_toArray, List.set_cons_zero, List.set_cons_succ]
      refine wpAnyH_take (i := 1) (oi := _) (v := .int .u32 ((wN (q.h) : Nat) : Int)) rfl (by kernel_rfl) (by kernel_rfl) (by kernel_rfl) (fun _ _ _ h => h) (Or.inl ⟨by rfl, ?_⟩) hH0 ?_
      · intro w hSw; obtain ⟨q0, q1, q2, q3, q4, q5, q6, q7, q8⟩ := hSw; go_simp
      simp only [Act.put, List.getElem_toArray, List.getElem_cons_zero, List.getElem_cons_succ, List.setIfInBounds_toArray, List.set_cons_zero, List.set_cons_succ]
      refine wpAnyH_take (i := 2) (oi := _) (v := .int .u32 ((wN (q.e) : Nat) : Int)) rfl (by kernel_rfl) (by kernel_rfl) (by kernel_rfl) (fun _ _ _ h => h) (Or.inl ⟨by rfl, ?_⟩) hH0 ?_
      · intro w hSw; go_simp
      simp only [Act.put, List.getElem_toArray, List.getElem_cons_zero, List.getElem_cons_succ, List.setIfInBounds_toArray, List.set_cons_zero, List.set_cons_succ]
      refine wpAnyH_take (i := 4) (oi := _) (v := .int .u32 ((wN (q.e) : Nat) : Int)) rfl (by kernel_rfl) (by kernel_rfl) (by kernel_rfl) (fun _ _ _ h => h) (Or.inl ⟨by rfl, ?_⟩) hH0 ?_
      · intro w hSw; go_simp
      simp only [Act.put, List.getElem_toArray, List.getElem_cons_zero, List.getElem_cons_succ, List.setIfInBounds_toArray, List.set_cons_zero, List.set_cons_succ]
      refine wpAnyH_take (i := 7) (oi := _) (v := .int .u32 ((wN (q.e) : Nat) : Int)) rfl (by kernel_rfl) (by kernel_rfl) (by kernel_rfl) (fun _ _ _ h => h) (Or.inl ⟨by rfl, ?_⟩) hH0 ?_
      · intro w hSw; go_simp
      simp only [Act.put, List.getElem_toArray, List.getElem_cons_zero, List.getElem_cons_succ, List.setIfInBounds_toArray, List.set_cons_zero, List.set_cons_succ]
      refine wpAnyH_take (i := 11) (oi := _) (v := .pointer (some ⟨nx, 6, none⟩)) rfl (by kernel_rfl) (by kernel_rfl) (by kernel_rfl) (fun _ _ _ h => h) (Or.inl ⟨by rfl, ?_⟩) hH0 ?_
      · intro w hSw; first | (go_simp; done) | (go_simp; omega) | (go_simp; rw [if_pos (by omega)]; rfl)
      simp only [Act.put, List.getElem_toArray, List.getElem_cons_zero, List.getElem_cons_succ, List.setIfInBounds_toArray, List.set_cons_zero, List.set_cons_succ]
      refine wpAnyH_take (i := 12) (oi := _) (v := .int .u32 ((wN (q.g) : Nat) : Int)) rfl (by kernel_rfl) (by kernel_rfl) (by kernel_rfl) (fun _ _ _ h => h) (Or.inl ⟨by rfl, ?_⟩) hH0 ?_
      · intro w hSw; obtain ⟨q0, q1, q2, q3, q4, q5, q6, q7, q8⟩ := hSw; go_simp
      simp only [Act.put, List.getElem_toArray, List.getElem_cons_zero, List.getElem_cons_succ, List.setIfInBounds_toArray, List.set_cons_zero, List.set_cons_succ]
      refine wpAnyH_take (i := 13) (oi := _) (v := .int .u32 ((wN (q.e) : Nat) : Int)) rfl (by kernel_rfl) (by kernel_rfl) (by kernel_rfl) (fun _ _ _ h => h) (Or.inl ⟨by rfl, ?_⟩) hH0 ?_
      · intro w hSw; go_simp
      simp only [Act.put, List.getElem_toArray, List.getElem_cons_zero, List.getElem_cons_succ, List.setIfInBounds_toArray, List.set_cons_zero, List.set_cons_succ]
      refine wpAnyH_take (i := 14) (oi := _) (v := .pointer (some ⟨nx, 5, none⟩)) rfl (by kernel_rfl) (by kernel_rfl) (by kernel_rfl) (fun _ _ _ h => h) (Or.inl ⟨by rfl, ?_⟩) hH0 ?_
      · intro w hSw; first | (go_simp; done) | (go_simp; omega) | (go_simp; rw [if_pos (by omega)]; rfl)
      simp only [Act.put, List.getElem_toArray, List.getElem_cons_zero, List.getElem_cons_succ, List.setIfInBounds_toArray, List.set_cons_zero, List.set_cons_succ]
      refine wpAnyH_take (i := 15) (oi := _) (v := .int .u32 ((wN (q.f) : Nat) : Int)) rfl (by kernel_rfl) (by kernel_rfl) (by kernel_rfl) (fun _ _ _ h => h) (Or.inl ⟨by rfl, ?_⟩) hH0 ?_
      · intro w hSw; obtain ⟨q0, q1, q2, q3, q4, q5, q6, q7, q8⟩ := hSw; go_simp
      simp only [Act.put, List.getElem_toArray, List.getElem_cons_zero, List.getElem_cons_succ, List.setIfInBounds_toArray, List.set_cons_zero, List.set_cons_succ]
      refine wpAnyH_take (i := 16) (oi := _) (v := .pointer (some ⟨nx, 6, none⟩)) rfl (by kernel_rfl) (by kernel_rfl) (by kernel_rfl) (fun _ _ _ h => h) (Or.inl ⟨by rfl, ?_⟩) hH0 ?_
      · intro w hSw; first | (go_simp; done) | (go_simp; omega) | (go_simp; rw [if_pos (by omega)]; rfl)
      simp only [Act.put, List.getElem_toArray, List.getElem_cons_zero, List.getElem_cons_succ, List.setIfInBounds_toArray, List.set_cons_zero, List.set_cons_succ]
      refine wpAnyH_take (i := 17) (oi := _) (v := .int .u32 ((wN (q.g) : Nat) : Int)) rfl (by kernel_rfl) (by kernel_rfl) (by kernel_rfl) (fun _ _ _ h => h) (Or.inl ⟨by rfl, ?_⟩) hH0 ?_
      · intro w hSw; obtain ⟨q0, q1, q2, q3, q4, q5, q6, q7, q8⟩ := hSw; go_simp
      simp only [Act.put, List.getElem_toArray, List.getElem_cons_zero, List.getElem_cons_succ, List.setIfInBounds_toArray, List.set_cons_zero, List.set_cons_succ]
      refine wpAnyH_take (i := 18) (oi := _) (v := .int .u32 ((wN (q.f ^^^ q.g) : Nat) : Int)) rfl (by kernel_rfl) (by kernel_rfl) (by kernel_rfl) (fun _ _ _ h => h) (Or.inl ⟨by rfl, ?_⟩) hH0 ?_
      · intro w hSw; go_simp; exact w_xor (q.f) (q.g)
      simp only [Act.put, List.getElem_toArray, List.getElem_cons_zero, List.getElem_cons_succ, List.setIfInBounds_toArray, List.set_cons_zero, List.set_cons_succ]
      refine wpAnyH_take (i := 19) (oi := _) (v := .int .u32 ((wN (q.e &&& (q.f ^^^ q.g)) : Nat) : Int)) rfl (by kernel_rfl) (by kernel_rfl) (by kernel_rfl) (fun _ _ _ h => h) (Or.inl ⟨by rfl, ?_⟩) hH0 ?_
      · intro w hSw; go_simp; exact w_and (q.e) (q.f ^^^ q.g)
      simp only [Act.put, List.getElem_toArray, List.getElem_cons_zero, List.getElem_cons_succ, List.setIfInBounds_toArray, List.set_cons_zero, List.set_cons_succ]
      refine wpAnyH_take (i := 20) (oi := _) (v := .int .u32 ((wN (q.g ^^^ (q.e &&& (q.f ^^^ q.g))) : Nat) : Int)) rfl (by kernel_rfl) (by kernel_rfl) (by kernel_rfl) (fun _ _ _ h => h) (Or.inl ⟨by rfl, ?_⟩) hH0 ?_
      · intro w hSw; go_simp; exact w_xor (q.g) (q.e &&& (q.f ^^^ q.g))
      simp only [Act.put, List.getElem_toArray, List.getElem_cons_zero, List.getElem_cons_succ, List.setIfInBounds_toArray, List.set_cons_zero, List.set_cons_succ]
      refine wpAnyH_take (i := 22) (oi := _) (v := .int .i64 (k : Int)) rfl (by kernel_rfl) (by kernel_rfl) (by kernel_rfl) (fun _ _ _ h => h) (Or.inl ⟨by rfl, ?_⟩) hH0 ?_
      · intro w hSw; go_simp
      simp only [Act.put, List.getElem_toArray, List.getElem_cons_zero, List.getElem_cons_succ, List.setIfInBounds_toArray, List.set_cons_zero, List.set_cons_succ]
      refine wpAnyH_take (i := 23) (oi := _) (v := .pointer (some ⟨1, k, none⟩)) rfl (by kernel_rfl) (by kernel_rfl) (by kernel_rfl) (fun _ _ _ h => h) (Or.inl ⟨by rfl, ?_⟩) hH0 ?_
      · intro w hSw; first | (go_simp; done) | (go_simp; omega) | (go_simp; rw [if_pos (by omega)]; rfl)
      simp only [Act.put, List.getElem_toArray, List.getElem_cons_zero, List.getElem_cons_succ, List.setIfInBounds_toArray, List.set_cons_zero, List.set_cons_succ]
      refine wpAnyH_take (i := 24) (oi := _) (v := .int .u32 ((wN (kk) : Nat) : Int)) rfl (by kernel_rfl) (by kernel_rfl) (by kernel_rfl) (fun _ _ _ h => h) (Or.inl ⟨by rfl, ?_⟩) hH0 ?_
      · intro w hSw; obtain ⟨q0, q1, q2, q3, q4, q5, q6, q7, q8⟩ := hSw; go_simp
      simp only [Act.put, List.getElem_toArray, List.getElem_cons_zero, List.getElem_cons_succ, List.setIfInBounds_toArray, List.set_cons_zero, List.set_cons_succ]
      refine wpAnyH_take (i := 26) (oi := _) (v := .int .u32 ((wN (ww) : Nat) : Int)) rfl (by kernel_rfl) (by kernel_rfl) (by kernel_rfl) (fun _ _ _ h => h) (Or.inl ⟨by rfl, ?_⟩) hH0 ?_
      · intro w hSw; go_simp
      simp only [Act.put, List.getElem_toArray, List.getElem_cons_zero, List.getElem_cons_succ, List.setIfInBounds_toArray, List.set_cons_zero, List.set_cons_succ]
      refine wpAnyH_ready (rs := [3]) (by kernel_rfl) (by simp) (AllReadyH.cons (o := _) rfl (fun K hK => ?_) AllReadyH.nil)
      go_simp
      refine (right_any (q.e) 6 (by decide) (by decide) _).mono ?_
      rintro en wz ⟨rfl, rfl⟩
      unfold wV
      refine hK.out _ _ ?_ (fun hH1 => ?_)
      · exact hH0
      clear hK K
      refine wpAnyH_ready (rs := [5]) (by kernel_rfl) (by simp) (AllReadyH.cons (o := _) rfl (fun K hK => ?_) AllReadyH.nil)
      go_simp
      refine (right_any (q.e) 11 (by decide) (by decide) _).mono ?_
      rintro en wz ⟨rfl, rfl⟩
      unfold wV
      refine hK.out _ _ ?_ (fun hH2 => ?_)
      · exact hH1
      clear hK K
      refine wpAnyH_take (i := 6) (oi := _) (v := .int .u32 ((wN (rotr q.e 6 ^^^ rotr q.e 11) : Nat) : Int)) rfl (by kernel_rfl) (by kernel_rfl) (by kernel_rfl) (fun _ _ _ h => h) (Or.inl ⟨by rfl, ?_⟩) hH2 ?_
      · intro w hSw; go_simp; exact w_xor (rotr q.e 6) (rotr q.e 11)
      simp only [Act.put, List.getElem_toArray, List.getElem_cons_zero, List.getElem_cons_succ, List.setIfInBounds_toArray, List.set_cons_zero, List.set_cons_succ]
      refine wpAnyH_ready (rs := [8]) (by kernel_rfl) (by simp) (AllReadyH.cons (o := _) rfl (fun K hK => ?_) AllReadyH.nil)
      go_simp
      refine (right_any (q.e) 25 (by decide) (by decide) _).mono ?_
      rintro en wz ⟨rfl, rfl⟩
      unfold wV
      refine hK.out _ _ ?_ (fun hH3 => ?_)
      · exact hH2
      clear hK K
      refine wpAnyH_take (i := 9) (oi := _) (v := .int .u32 ((wN (rotr q.e 6 ^^^ rotr q.e 11 ^^^ rotr q.e 25) : Nat) : Int)) rfl (by kernel_rfl) (by kernel_rfl) (by kernel_rfl) (fun _ _ _ h => h) (Or.inl ⟨by rfl, ?_⟩) hH3 ?_
      · intro w hSw; go_simp; exact w_xor (rotr q.e 6 ^^^ rotr q.e 11) (rotr q.e 25)
      simp only [Act.put, List.getElem_toArray, List.getElem_cons_zero, List.getElem_cons_succ, List.setIfInBounds_toArray, List.set_cons_zero, List.set_cons_succ]
      refine wpAnyH_take (i := 10) (oi := _) (v := .int .u32 ((wN (q.h + (rotr q.e 6 ^^^ rotr q.e 11 ^^^ rotr q.e 25)) : Nat) : Int)) rfl (by kernel_rfl) (by kernel_rfl) (by kernel_rfl) (fun _ _ _ h => h) (Or.inl ⟨by rfl, ?_⟩) hH3 ?_
      · intro w hSw; go_simp; first | exact w_add (q.h) (rotr q.e 6 ^^^ rotr q.e 11 ^^^ rotr q.e 25) | exact w_add2 (q.h) (rotr q.e 6 ^^^ rotr q.e 11 ^^^ rotr q.e 25)
      simp only [Act.put, List.getElem_toArray, List.getElem_cons_zero, List.getElem_cons_succ, List.setIfInBounds_toArray, List.set_cons_zero, List.set_cons_succ]
      refine wpAnyH_take (i := 21) (oi := _) (v := .int .u32 ((wN (q.h + (rotr q.e 6 ^^^ rotr q.e 11 ^^^ rotr q.e 25) + (q.g ^^^ (q.e &&& (q.f ^^^ q.g)))) : Nat) : Int)) rfl (by kernel_rfl) (by kernel_rfl) (by kernel_rfl) (fun _ _ _ h => h) (Or.inl ⟨by rfl, ?_⟩) hH3 ?_
      · intro w hSw; go_simp; first | exact w_add (q.h + (rotr q.e 6 ^^^ rotr q.e 11 ^^^ rotr q.e 25)) (q.g ^^^ (q.e &&& (q.f ^^^ q.g))) | exact w_add2 (q.h + (rotr q.e 6 ^^^ rotr q.e 11 ^^^ rotr q.e 25)) (q.g ^^^ (q.e &&& (q.f ^^^ q.g)))
      simp only [Act.put, List.getElem_toArray, List.getElem_cons_zero, List.getElem_cons_succ, List.setIfInBounds_toArray, List.set_cons_zero, List.set_cons_succ]
      refine wpAnyH_take (i := 25) (oi := _) (v := .int .u32 ((wN (q.h + (rotr q.e 6 ^^^ rotr q.e 11 ^^^ rotr q.e 25) + (q.g ^^^ (q.e &&& (q.f ^^^ q.g))) + kk) : Nat) : Int)) rfl (by kernel_rfl) (by kernel_rfl) (by kernel_rfl) (fun _ _ _ h => h) (Or.inl ⟨by rfl, ?_⟩) hH3 ?_
      · intro w hSw; go_simp; first | exact w_add (q.h + (rotr q.e 6 ^^^ rotr q.e 11 ^^^ rotr q.e 25) + (q.g ^^^ (q.e &&& (q.f ^^^ q.g)))) (kk) | exact w_add2 (q.h + (rotr q.e 6 ^^^ rotr q.e 11 ^^^ rotr q.e 25) + (q.g ^^^ (q.e &&& (q.f ^^^ q.g)))) (kk)
      simp only [Act.put, List.getElem_toArray, List.getElem_cons_zero, List.getElem_cons_succ, List.setIfInBounds_toArray, List.set_cons_zero, List.set_cons_succ]
      refine wpAnyH_take (i := 27) (oi := _) (v := .int .u32 ((wN (px) : Nat) : Int)) rfl (by kernel_rfl) (by kernel_rfl) (by kernel_rfl) (fun _ _ _ h => h) (Or.inl ⟨by rfl, ?_⟩) hH3 ?_
      · intro w hSw; have hq := HPX.out; unfold H8.x at hq; rw [hq]; go_simp; first | exact w_add (q.h + (rotr q.e 6 ^^^ rotr q.e 11 ^^^ rotr q.e 25) + (q.g ^^^ (q.e &&& (q.f ^^^ q.g))) + kk) (ww) | exact w_add2 (q.h + (rotr q.e 6 ^^^ rotr q.e 11 ^^^ rotr q.e 25) + (q.g ^^^ (q.e &&& (q.f ^^^ q.g))) + kk) (ww)
      simp only [Act.put, List.getElem_toArray, List.getElem_cons_zero, List.getElem_cons_succ, List.setIfInBounds_toArray, List.set_cons_zero, List.set_cons_succ]
      refine wpAnyH_take (i := 28) (oi := _) (v := .int .u32 ((wN (px) : Nat) : Int)) rfl (by kernel_rfl) (by kernel_rfl) (by kernel_rfl) (fun _ _ _ h => h) (Or.inl ⟨by rfl, ?_⟩) hH3 ?_
      · intro w hSw; go_simp
      simp only [Act.put, List.getElem_toArray, List.getElem_cons_zero, List.getElem_cons_succ, List.setIfInBounds_toArray, List.set_cons_zero, List.set_cons_succ]
      refine wpAnyH_done (by kernel_rfl) ?_ _
      go_upto_region 7 with fail
      refine wp_region_held_drew (S := (fun w' => w'.cell? ⟨nx, 0, none⟩ = some (.int .u32 ((wN (q.a) : Nat) : Int)) ∧ w'.cell? ⟨nx, 1, none⟩ = some (.int .u32 ((wN (q.b) : Nat) : Int)) ∧ w'.cell? ⟨nx, 2, none⟩ = some (.int .u32 ((wN (q.c) : Nat) : Int)) ∧ w'.cell? ⟨nx, 3, none⟩ = some (.int .u32 ((wN (q.d) : Nat) : Int)) ∧ w'.cell? ⟨nx, 4, none⟩ = some (.int .u32 ((wN (q.e) : Nat) : Int)) ∧ w'.cell? ⟨nx, 5, none⟩ = some (.int .u32 ((wN (q.f) : Nat) : Int)) ∧ w'.cell? ⟨nx, 6, none⟩ = some (.int .u32 ((wN (q.g) : Nat) : Int)) ∧ w'.cell? ⟨nx, 7, none⟩ = some (.int .u32 ((wN (q.h) : Nat) : Int)) ∧ w'.cell? ⟨1, k, none⟩ = some (.int .u32 ((wN (kk) : Nat) : Int)))) (by kernel_rfl) ⟨Xc0, Xc1, Xc2, Xc3, Xc4, Xc5, Xc6, Xc7, hkc⟩ (fun hH0 => ?_)
      refine wpAnyH_take (i := 0) (oi := _) (v := .int .u32 ((wN (q.a) : Nat) : Int)) rfl (by kernel_rfl) (by kernel_rfl) (by kernel_rfl) (fun _ _ _ h => h) (Or.inl ⟨by rfl, ?_⟩) hH0 ?_
      · intro w hSw; go_simp
      simp only [Act.put, List.getElem_toArray, List.getElem_cons_zero, List.getElem_cons_succ, List.setIfInBounds_toArray, List.set_cons_zero, List.set_cons_succ]
      refine wpAnyH_take (i := 2) (oi := _) (v := .int .u32 ((wN (q.a) : Nat) : Int)) rfl (by kernel_rfl) (by kernel_rfl) (by kernel_rfl) (fun _ _ _ h => h) (Or.inl ⟨by rfl, ?_⟩) hH0 ?_
      · intro w hSw; go_simp
      simp only [Act.put, List.getElem_toArray, List.getElem_cons_zero, List.getElem_cons_succ, List.setIfInBounds_toArray, List.set_cons_zero, List.set_cons_succ]
      refine wpAnyH_take (i := 5) (oi := _) (v := .int .u32 ((wN (q.a) : Nat) : Int)) rfl (by kernel_rfl) (by kernel_rfl) (by kernel_rfl) (fun _ _ _ h => h) (Or.inl ⟨by rfl, ?_⟩) hH0 ?_
      · intro w hSw; go_simp
      simp only [Act.put, List.getElem_toArray, List.getElem_cons_zero, List.getElem_cons_succ, List.setIfInBounds_toArray, List.set_cons_zero, List.set_cons_succ]
      refine wpAnyH_take (i := 8) (oi := _) (v := .int .u32 ((wN (q.a) : Nat) : Int)) rfl (by kernel_rfl) (by kernel_rfl) (by kernel_rfl) (fun _ _ _ h => h) (Or.inl ⟨by rfl, ?_⟩) hH0 ?_
      · intro w hSw; go_simp
      simp only [Act.put, List.getElem_toArray, List.getElem_cons_zero, List.getElem_cons_succ, List.setIfInBounds_toArray, List.set_cons_zero, List.set_cons_succ]
      refine wpAnyH_take (i := 9) (oi := _) (v := .pointer (some ⟨nx, 1, none⟩)) rfl (by kernel_rfl) (by kernel_rfl) (by kernel_rfl) (fun _ _ _ h => h) (Or.inl ⟨by rfl, ?_⟩) hH0 ?_
      · intro w hSw; first | (go_simp; done) | (go_simp; omega) | (go_simp; rw [if_pos (by omega)]; rfl)
      simp only [Act.put, List.getElem_toArray, List.getElem_cons_zero, List.getElem_cons_succ, List.setIfInBounds_toArray, List.set_cons_zero, List.set_cons_succ]
      refine wpAnyH_take (i := 10) (oi := _) (v := .int .u32 ((wN (q.b) : Nat) : Int)) rfl (by kernel_rfl) (by kernel_rfl) (by kernel_rfl) (fun _ _ _ h => h) (Or.inl ⟨by rfl, ?_⟩) hH0 ?_
      · intro w hSw; obtain ⟨q0, q1, q2, q3, q4, q5, q6, q7, q8⟩ := hSw; go_simp
      simp only [Act.put, List.getElem_toArray, List.getElem_cons_zero, List.getElem_cons_succ, List.setIfInBounds_toArray, List.set_cons_zero, List.set_cons_succ]
      refine wpAnyH_take (i := 11) (oi := _) (v := .int .u32 ((wN (q.a &&& q.b) : Nat) : Int)) rfl (by kernel_rfl) (by kernel_rfl) (by kernel_rfl) (fun _ _ _ h => h) (Or.inl ⟨by rfl, ?_⟩) hH0 ?_
      · intro w hSw; go_simp; exact w_and (q.a) (q.b)
      simp only [Act.put, List.getElem_toArray, List.getElem_cons_zero, List.getElem_cons_succ, List.setIfInBounds_toArray, List.set_cons_zero, List.set_cons_succ]
      refine wpAnyH_take (i := 12) (oi := _) (v := .pointer (some ⟨nx, 2, none⟩)) rfl (by kernel_rfl) (by kernel_rfl) (by kernel_rfl) (fun _ _ _ h => h) (Or.inl ⟨by rfl, ?_⟩) hH0 ?_
      · intro w hSw; first | (go_simp; done) | (go_simp; omega) | (go_simp; rw [if_pos (by omega)]; rfl)
      simp only [Act.put, List.getElem_toArray, List.getElem_cons_zero, List.getElem_cons_succ, List.setIfInBounds_toArray, List.set_cons_zero, List.set_cons_succ]
      refine wpAnyH_take (i := 13) (oi := _) (v := .int .u32 ((wN (q.c) : Nat) : Int)) rfl (by kernel_rfl) (by kernel_rfl) (by kernel_rfl) (fun _ _ _ h => h) (Or.inl ⟨by rfl, ?_⟩) hH0 ?_
      · intro w hSw; obtain ⟨q0, q1, q2, q3, q4, q5, q6, q7, q8⟩ := hSw; go_simp
      simp only [Act.put, List.getElem_toArray, List.getElem_cons_zero, List.getElem_cons_succ, List.setIfInBounds_toArray, List.set_cons_zero, List.set_cons_succ]
      refine wpAnyH_take (i := 14) (oi := _) (v := .int .u32 ((wN (q.a) : Nat) : Int)) rfl (by kernel_rfl) (by kernel_rfl) (by kernel_rfl) (fun _ _ _ h => h) (Or.inl ⟨by rfl, ?_⟩) hH0 ?_
      · intro w hSw; go_simp
      simp only [Act.put, List.getElem_toArray, List.getElem_cons_zero, List.getElem_cons_succ, List.setIfInBounds_toArray, List.set_cons_zero, List.set_cons_succ]
      refine wpAnyH_take (i := 15) (oi := _) (v := .pointer (some ⟨nx, 1, none⟩)) rfl (by kernel_rfl) (by kernel_rfl) (by kernel_rfl) (fun _ _ _ h => h) (Or.inl ⟨by rfl, ?_⟩) hH0 ?_
      · intro w hSw; first | (go_simp; done) | (go_simp; omega) | (go_simp; rw [if_pos (by omega)]; rfl)
      simp only [Act.put, List.getElem_toArray, List.getElem_cons_zero, List.getElem_cons_succ, List.setIfInBounds_toArray, List.set_cons_zero, List.set_cons_succ]
      refine wpAnyH_take (i := 16) (oi := _) (v := .int .u32 ((wN (q.b) : Nat) : Int)) rfl (by kernel_rfl) (by kernel_rfl) (by kernel_rfl) (fun _ _ _ h => h) (Or.inl ⟨by rfl, ?_⟩) hH0 ?_
      · intro w hSw; obtain ⟨q0, q1, q2, q3, q4, q5, q6, q7, q8⟩ := hSw; go_simp
      simp only [Act.put, List.getElem_toArray, List.getElem_cons_zero, List.getElem_cons_succ, List.setIfInBounds_toArray, List.set_cons_zero, List.set_cons_succ]
      refine wpAnyH_take (i := 17) (oi := _) (v := .int .u32 ((wN (q.a ||| q.b) : Nat) : Int)) rfl (by kernel_rfl) (by kernel_rfl) (by kernel_rfl) (fun _ _ _ h => h) (Or.inl ⟨by rfl, ?_⟩) hH0 ?_
      · intro w hSw; go_simp; exact w_or (q.a) (q.b)
      simp only [Act.put, List.getElem_toArray, List.getElem_cons_zero, List.getElem_cons_succ, List.setIfInBounds_toArray, List.set_cons_zero, List.set_cons_succ]
      refine wpAnyH_take (i := 18) (oi := _) (v := .int .u32 ((wN (q.c &&& (q.a ||| q.b)) : Nat) : Int)) rfl (by kernel_rfl) (by kernel_rfl) (by kernel_rfl) (fun _ _ _ h => h) (Or.inl ⟨by rfl, ?_⟩) hH0 ?_
      · intro w hSw; go_simp; exact w_and (q.c) (q.a ||| q.b)
      simp only [Act.put, List.getElem_toArray, List.getElem_cons_zero, List.getElem_cons_succ, List.setIfInBounds_toArray, List.set_cons_zero, List.set_cons_succ]
      refine wpAnyH_take (i := 19) (oi := _) (v := .int .u32 ((wN ((q.a &&& q.b) ||| (q.c &&& (q.a ||| q.b))) : Nat) : Int)) rfl (by kernel_rfl) (by kernel_rfl) (by kernel_rfl) (fun _ _ _ h => h) (Or.inl ⟨by rfl, ?_⟩) hH0 ?_
      · intro w hSw; go_simp; exact w_or (q.a &&& q.b) (q.c &&& (q.a ||| q.b))
      simp only [Act.put, List.getElem_toArray, List.getElem_cons_zero, List.getElem_cons_succ, List.setIfInBounds_toArray, List.set_cons_zero, List.set_cons_succ]
      refine wpAnyH_ready (rs := [1]) (by kernel_rfl) (by simp) (AllReadyH.cons (o := _) rfl (fun K hK => ?_) AllReadyH.nil)
      go_simp
      refine (right_any (q.a) 2 (by decide) (by decide) _).mono ?_
      rintro en wz ⟨rfl, rfl⟩
      unfold wV
      refine hK.out _ _ ?_ (fun hH1 => ?_)
      · exact hH0
      clear hK K
      refine wpAnyH_ready (rs := [3]) (by kernel_rfl) (by simp) (AllReadyH.cons (o := _) rfl (fun K hK => ?_) AllReadyH.nil)
      go_simp
      refine (right_any (q.a) 13 (by decide) (by decide) _).mono ?_
      rintro en wz ⟨rfl, rfl⟩
      unfold wV
      refine hK.out _ _ ?_ (fun hH2 => ?_)
      · exact hH1
      clear hK K
      refine wpAnyH_take (i := 4) (oi := _) (v := .int .u32 ((wN (rotr q.a 2 ^^^ rotr q.a 13) : Nat) : Int)) rfl (by kernel_rfl) (by kernel_rfl) (by kernel_rfl) (fun _ _ _ h => h) (Or.inl ⟨by rfl, ?_⟩) hH2 ?_
      · intro w hSw; go_simp; exact w_xor (rotr q.a 2) (rotr q.a 13)
      simp only [Act.put, List.getElem_toArray, List.getElem_cons_zero, List.getElem_cons_succ, List.setIfInBounds_toArray, List.set_cons_zero, List.set_cons_succ]
      refine wpAnyH_ready (rs := [6]) (by kernel_rfl) (by simp) (AllReadyH.cons (o := _) rfl (fun K hK => ?_) AllReadyH.nil)
      go_simp
      refine (right_any (q.a) 22 (by decide) (by decide) _).mono ?_
      rintro en wz ⟨rfl, rfl⟩
      unfold wV
      refine hK.out _ _ ?_ (fun hH3 => ?_)
      · exact hH2
      clear hK K
      refine wpAnyH_take (i := 7) (oi := _) (v := .int .u32 ((wN (rotr q.a 2 ^^^ rotr q.a 13 ^^^ rotr q.a 22) : Nat) : Int)) rfl (by kernel_rfl) (by kernel_rfl) (by kernel_rfl) (fun _ _ _ h => h) (Or.inl ⟨by rfl, ?_⟩) hH3 ?_
      · intro w hSw; go_simp; exact w_xor (rotr q.a 2 ^^^ rotr q.a 13) (rotr q.a 22)
      simp only [Act.put, List.getElem_toArray, List.getElem_cons_zero, List.getElem_cons_succ, List.setIfInBounds_toArray, List.set_cons_zero, List.set_cons_succ]
      refine wpAnyH_take (i := 20) (oi := _) (v := .int .u32 ((wN (py) : Nat) : Int)) rfl (by kernel_rfl) (by kernel_rfl) (by kernel_rfl) (fun _ _ _ h => h) (Or.inl ⟨by rfl, ?_⟩) hH3 ?_
      · intro w hSw; have hq := HPY.out; unfold H8.y at hq; rw [hq]; go_simp; first | exact w_add (rotr q.a 2 ^^^ rotr q.a 13 ^^^ rotr q.a 22) ((q.a &&& q.b) ||| (q.c &&& (q.a ||| q.b))) | exact w_add2 (rotr q.a 2 ^^^ rotr q.a 13 ^^^ rotr q.a 22) ((q.a &&& q.b) ||| (q.c &&& (q.a ||| q.b)))
      simp only [Act.put, List.getElem_toArray, List.getElem_cons_zero, List.getElem_cons_succ, List.setIfInBounds_toArray, List.set_cons_zero, List.set_cons_succ]
      refine wpAnyH_take (i := 21) (oi := _) (v := .int .u32 ((wN (py) : Nat) : Int)) rfl (by kernel_rfl) (by kernel_rfl) (by kernel_rfl) (fun _ _ _ h => h) (Or.inl ⟨by rfl, ?_⟩) hH3 ?_
      · intro w hSw; go_simp
      simp only [Act.put, List.getElem_toArray, List.getElem_cons_zero, List.getElem_cons_succ, List.setIfInBounds_toArray, List.set_cons_zero, List.set_cons_succ]
      refine wpAnyH_done (by kernel_rfl) ?_ _
      go_upto_region 8 with fail
      have e1 := w_add px py
      have e2 := w_add q.d px
      have e3 := w_add2 px py
      have e4 := w_add2 q.d px
      have HNV := Lib.hid' (show (rounds S (k + 1) s).vals = [.int .u32 ((wN (px + py) : Nat) : Int), .int .u32 ((wN (q.a) : Nat) : Int), .int .u32 ((wN (q.b) : Nat) : Int), .int .u32 ((wN (q.c) : Nat) : Int), .int .u32 ((wN (q.d + px) : Nat) : Int), .int .u32 ((wN (q.e) : Nat) : Int), .int .u32 ((wN (q.f) : Nat) : Int), .int .u32 ((wN (q.g) : Nat) : Int)] by rw [HNX.out]; unfold H8.rnd; rw [← HPX.out, ← HPY.out]; rfl)
      have H3 := H0.drew.drew.drew
      clear H0 hix hkc Xf0 Xf1 Xf2 Xf3 Xf4 Xf5 Xf6 Xf7
      go_upto_region 9 with (refine Sep.storeB H3 0 rfl rfl 143 (.tmp 5) (.tmp 90) rfl [.int .u32 ((wN (px + py) : Nat) : Int), .int .u32 ((wN (q.a) : Nat) : Int), .int .u32 ((wN (q.b) : Nat) : Int), .int .u32 ((wN (q.c) : Nat) : Int), .int .u32 ((wN (q.d + px) : Nat) : Int), .int .u32 ((wN (q.e) : Nat) : Int), .int .u32 ((wN (q.f) : Nat) : Int), .int .u32 ((wN (q.g) : Nat) : Int)] rfl rfl (by kernel_rfl) rfl rfl ?_)
      have H1 := H3.setRow 0 rfl [.int .u32 ((wN (px + py) : Nat) : Int), .int .u32 ((wN (q.a) : Nat) : Int), .int .u32 ((wN (q.b) : Nat) : Int), .int .u32 ((wN (q.c) : Nat) : Int), .int .u32 ((wN (q.d + px) : Nat) : Int), .int .u32 ((wN (q.e) : Nat) : Int), .int .u32 ((wN (q.f) : Nat) : Int), .int .u32 ((wN (q.g) : Nat) : Int)]
      generalize (wr.drew.drew.drew).setRow (nx) [.int .u32 ((wN (px + py) : Nat) : Int), .int .u32 ((wN (q.a) : Nat) : Int), .int .u32 ((wN (q.b) : Nat) : Int), .int .u32 ((wN (q.c) : Nat) : Int), .int .u32 ((wN (q.d + px) : Nat) : Int), .int .u32 ((wN (q.e) : Nat) : Int), .int .u32 ((wN (q.f) : Nat) : Int), .int .u32 ((wN (q.g) : Nat) : Int)].toArray = w5 at *
      have H2 : Sep w NoF [.box (nx) (rounds S (k + 1) s).vals 143, .box (w.heap.size + 1) [.int .u32 0, .int .u32 0, .int .u32 0, .int .u32 0, .int .u32 0, .int .u32 0, .int .u32 0, .int .u32 0] 143, .box (w.heap.size) [.int .u32 ((wN (s.a) : Nat) : Int), .int .u32 ((wN (s.b) : Nat) : Int), .int .u32 ((wN (s.c) : Nat) : Int), .int .u32 ((wN (s.d) : Nat) : Int), .int .u32 ((wN (s.e) : Nat) : Int), .int .u32 ((wN (s.f) : Nat) : Int), .int .u32 ((wN (s.g) : Nat) : Int), .int .u32 ((wN (s.h) : Nat) : Int)] 143] w5 := by rw [HNV.out]; exact H1
      clear H1 H3
      go_wp2_with fail
      go_roundw
      case rel => exact ⟨k + 1, by go_num, by omega, H2⟩
      case measure => simp [intOf]; omega
    · as_aux_lemma =>
      obtain rfl : k = 64 := by omega
      rw [show (((64 : Nat) : Int)) = (64 : Int) from rfl]
      have HZ := Lib.hid' (show Z = (rounds S 64 s).add s from HST.out)
      generalize rounds S 64 s = q at *
      have HM0 := Lib.hid' (show (mix q.list s.list 0).map wV = q.vals by rw [mix_zero]; rfl)
      replace H0 : Sep w NoF [.box (nx) ((mix q.list s.list 0).map wV) 143, .box (w.heap.size + 1) [.int .u32 0, .int .u32 0, .int .u32 0, .int .u32 0, .int .u32 0, .int .u32 0, .int .u32 0, .int .u32 0] 143, .box (w.heap.size) [.int .u32 ((wN (s.a) : Nat) : Int), .int .u32 ((wN (s.b) : Nat) : Int), .int .u32 ((wN (s.c) : Nat) : Int), .int .u32 ((wN (s.d) : Nat) : Int), .int .u32 ((wN (s.e) : Nat) : Int), .int .u32 ((wN (s.f) : Nat) : Int), .int .u32 ((wN (s.g) : Nat) : Int), .int .u32 ((wN (s.h) : Nat) : Int)] 143] wr := by rw [HM0.out]; exact H0
      clear HST HK HSL HSV
      go_wp2_with fail
      go_loopw [92] (fun v92 wr => ∃ i : Nat, v92 = .int .i64 i ∧ i ≤ 8 ∧ Sep w NoF [.box (nx) ((mix q.list s.list i).map wV) 143, .box (w.heap.size + 1) [.int .u32 0, .int .u32 0, .int .u32 0, .int .u32 0, .int .u32 0, .int .u32 0, .int .u32 0, .int .u32 0] 143, .box (w.heap.size) [.int .u32 ((wN (s.a) : Nat) : Int), .int .u32 ((wN (s.b) : Nat) : Int), .int .u32 ((wN (s.c) : Nat) : Int), .int .u32 ((wN (s.d) : Nat) : Int), .int .u32 ((wN (s.e) : Nat) : Int), .int .u32 ((wN (s.f) : Nat) : Int), .int .u32 ((wN (s.g) : Nat) : Int), .int .u32 ((wN (s.h) : Nat) : Int)] 143] wr) (fun v92 _ => 8 - (intOf v92).toNat)
      case atStart => exact ⟨0, rfl, Nat.zero_le _, H0⟩
      case round =>
        clear H0
        obtain ⟨i, rfl, hi, H0⟩ := hrel
        by_cases hlt : i < 8
        · have hl1 : i < q.list.length := by rw [len8]; exact hlt
          have hl2 : q.list.length = s.list.length := (len8 q).trans (len8 s).symm
          have hmg := mix_get q.list s.list hl1 hl2
          have xi : wr.cell? ⟨nx, i, none⟩ = some (wV (q.list.getD i 0)) := H0.cell 0 rfl i hmg
          have xf := H0.free 0 rfl i
          have xl := H0.lt 0 rfl
          have hvg := vals_get s hlt
          have pi : wr.cell? ⟨w.heap.size, i, none⟩ = some (wV (s.list.getD i 0)) := H0.cell 2 rfl i hvg
          have HSET := Lib.hid' (mix_set q.list s.list hl1 hl2)
          clear hmg hvg hl1 hl2
          unfold wV at xi pi
          generalize q.list.getD i 0 = u at *
          generalize s.list.getD i 0 = v at *
          go_upto_region 13 with fail
          refine wp_region_held_drew (S := (fun w' => w'.cell? ⟨w.heap.size, i, none⟩ = some (.int .u32 ((wN (v) : Nat) : Int)))) (by kernel_rfl) pi (fun hH0 => ?_)
          refine wpAnyH_take (i := 0) (oi := _) (v := .int .i64 (i : Int)) rfl (by kernel_rfl) (by kernel_rfl) (by kernel_rfl) (fun _ _ _ h => h) (Or.inl ⟨by rfl, ?_⟩) hH0 ?_
          · intro w hSw; go_simp
          simp only [Act.put, List.getElem_toArray, List.getElem_cons_zero, List.getElem_cons_succ, List.setIfInBounds_toArray, List.set_cons_zero, List.set_cons_succ]
          refine wpAnyH_take (i := 1) (oi := _) (v := .pointer (some ⟨nx, i, none⟩)) rfl (by kernel_rfl) (by kernel_rfl) (by kernel_rfl) (fun _ _ _ h => h) (Or.inl ⟨by rfl, ?_⟩) hH0 ?_
          · intro w hSw; first | (go_simp; done) | (go_simp; omega) | (go_simp; rw [if_pos (by omega)]; rfl)
          simp only [Act.put, List.getElem_toArray, List.getElem_cons_zero, List.getElem_cons_succ, List.setIfInBounds_toArray, List.set_cons_zero, List.set_cons_succ]
          refine wpAnyH_take (i := 3) (oi := _) (v := .int .i64 (i : Int)) rfl (by kernel_rfl) (by kernel_rfl) (by kernel_rfl) (fun _ _ _ h => h) (Or.inl ⟨by rfl, ?_⟩) hH0 ?_
          · intro w hSw; go_simp
          simp only [Act.put, List.getElem_toArray, List.getElem_cons_zero, List.getElem_cons_succ, List.setIfInBounds_toArray, List.set_cons_zero, List.set_cons_succ]
          refine wpAnyH_take (i := 4) (oi := _) (v := .pointer (some ⟨w.heap.size, i, none⟩)) rfl (by kernel_rfl) (by kernel_rfl) (by kernel_rfl) (fun _ _ _ h => h) (Or.inl ⟨by rfl, ?_⟩) hH0 ?_
          · intro w hSw; first | (go_simp; done) | (go_simp; omega) | (go_simp; rw [if_pos (by omega)]; rfl)
          simp only [Act.put, List.getElem_toArray, List.getElem_cons_zero, List.getElem_cons_succ, List.setIfInBounds_toArray, List.set_cons_zero, List.set_cons_succ]
          refine wpAnyH_take (i := 5) (oi := _) (v := .int .u32 ((wN (v) : Nat) : Int)) rfl (by kernel_rfl) (by kernel_rfl) (by kernel_rfl) (fun _ _ _ h => h) (Or.inl ⟨by rfl, ?_⟩) hH0 ?_
          · intro w hSw; have q1 := hSw; go_simp
          simp only [Act.put, List.getElem_toArray, List.getElem_cons_zero, List.getElem_cons_succ, List.setIfInBounds_toArray, List.set_cons_zero, List.set_cons_succ]
          refine wpAnyH_ready (rs := [2]) (by kernel_rfl) (by simp) (AllReadyH.cons (o := _) rfl (fun K hK => ?_) AllReadyH.nil)
          go_simp
          refine hK.out _ _ ?_ (fun hH1 => ?_)
          · exact hH0
          clear hK K
          refine wpAnyH_take (i := 6) (oi := _) (v := .int .u32 ((wN (u + v) : Nat) : Int)) rfl (by kernel_rfl) (by kernel_rfl) (by kernel_rfl) (fun _ _ _ h => h) (Or.inl ⟨by rfl, ?_⟩) hH1 ?_
          · intro w hSw; go_simp; first | exact w_add (u) (v) | exact w_add2 (u) (v)
          simp only [Act.put, List.getElem_toArray, List.getElem_cons_zero, List.getElem_cons_succ, List.setIfInBounds_toArray, List.set_cons_zero, List.set_cons_succ]
          refine wpAnyH_take (i := 7) (oi := _) (v := .pointer (some ⟨nx, i, none⟩)) rfl (by kernel_rfl) (by kernel_rfl) (by kernel_rfl) (fun _ _ _ h => h) (Or.inl ⟨by rfl, ?_⟩) hH1 ?_
          · intro w hSw; first | (go_simp; done) | (go_simp; omega) | (go_simp; rw [if_pos (by omega)]; rfl)
          simp only [Act.put, List.getElem_toArray, List.getElem_cons_zero, List.getElem_cons_succ, List.setIfInBounds_toArray, List.set_cons_zero, List.set_cons_succ]
          refine wpAnyH_ready (rs := [8]) (by kernel_rfl) (by simp) (AllReadyH.cons (o := _) rfl (fun K hK => ?_) AllReadyH.nil)
          go_simp
          refine hK.out _ _ ?_ (fun hH2 => ?_)
          · simp [go_sem, pi, hnp]
          clear hK K
          refine wpAnyH_done (by kernel_rfl) ?_ _
          have H2 := (H0.set 0 rfl i (wV (u + v))).drew
          rw [HSET.out] at H2
          unfold wV at H2
          replace H2 : Sep w NoF [.box (nx) ((mix q.list s.list (i + 1)).map wV) 143, .box (w.heap.size + 1) [.int .u32 0, .int .u32 0, .int .u32 0, .int .u32 0, .int .u32 0, .int .u32 0, .int .u32 0, .int .u32 0] 143, .box (w.heap.size) [.int .u32 ((wN (s.a) : Nat) : Int), .int .u32 ((wN (s.b) : Nat) : Int), .int .u32 ((wN (s.c) : Nat) : Int), .int .u32 ((wN (s.d) : Nat) : Int), .int .u32 ((wN (s.e) : Nat) : Int), .int .u32 ((wN (s.f) : Nat) : Int), .int .u32 ((wN (s.g) : Nat) : Int), .int .u32 ((wN (s.h) : Nat) : Int)] 143] ((wr.setCell ⟨nx, i, none⟩ (.int .u32 ((wN (u + v) : Nat) : Int))).drew) := H2
          generalize ((wr.setCell ⟨nx, i, none⟩ (.int .u32 ((wN (u + v) : Nat) : Int))).drew) = w6 at *
          clear H0 xi xf xl pi HSET
          go_wp2_with fail
          go_roundw
          case rel => exact ⟨i + 1, by go_num, by omega, H2⟩
          case measure => simp [intOf]; omega
        · obtain rfl : i = 8 := by omega
          have HF := Lib.hid' (show (mix q.list s.list 8).map wV = Z.vals by rw [mix_all q.list s.list (len8 q) ((len8 q).trans (len8 s).symm), add_list, HZ.out]; rfl)
          rw [HF.out] at H0
          have H2 := H0.setRow 1 rfl Z.vals
          have HB := Lib.hid' H2.toBelow
          have HX2 := Lib.hid' (H2.box 0 rfl)
          clear H2 HF
          go_upto_region 15 with fail
          go_wp2_with (first | (refine Sep.loadB H0 0 rfl rfl 143 (.tmp 5) rfl rfl _ Tryz.underlying143 rfl (by kernel_rfl) ?_) | (refine Sep.storeB H0 1 rfl rfl 143 (.tmp 4) (.tmp 104) rfl Z.vals rfl rfl (by kernel_rfl) rfl rfl ?_))
          refine bodyPost_ret (box_result Tryz.results85 HX2.out _ rfl _ Tryz.underlying143 rfl (by kernel_rfl)) rfl ?_
          exact ⟨rfl, HB.out⟩
end Go.Proofs.YtinbcehlpfnlaaaGreatDoor
