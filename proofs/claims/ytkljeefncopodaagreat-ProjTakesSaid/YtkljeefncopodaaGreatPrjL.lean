/- Layer 11 (proj): the law's fixed fact, Long; ProjHomes. -/
import Derived.Test.YtkljeefncopodaaGreatPrjN
namespace Go.Proofs.YtkljeefncopodaaGreat
open Go.RowKit
set_option linter.unusedSimpArgs false
set_option linter.unusedVariables false
set_option maxRecDepth 100000

def long11 (X : List Ch) : Bool := X.any (fun x => decide (12 < x.1.length)) || decide (12 < X.length)
set_option maxHeartbeats 1000000 in
theorem long11_any (e : Int) (a : Option Addr) (c : Nat) (X : List Ch) (w : World) (h : Chs w a c X) :
    Calls Tryz.prog 8 #[pjV e a c X] w fun en w' => en = .returned (.bool (long11 X)) ∧ Below w.heap.size w w' := by
  have HS := Lib.hid' h
  have hlen := h.len
  clear h
  unfold pjV
  go_enter Tryz.func8, Tryz.ntmps8
  go_wp2_with fail
  have HB0 := Lib.hid' (show Below w.heap.size w (w.alloc (.cells #[.int .i64 e, .slice a X.length c] 25)) by go_grown)
  have x1 : (w.alloc (.cells #[.int .i64 e, .slice a X.length c] 25)).cell? ⟨w.heap.size, 1, none⟩ = some (.slice a X.length c) := by simp [go_sem]
  generalize (w.alloc (.cells #[.int .i64 e, .slice a X.length c] 25)) = w1 at *
  go_loop [8] (fun v8 => ∃ k : Nat, v8 = .int .i64 k ∧ k ≤ X.length ∧ Hid (∀ y ∈ X.take k, decide (12 < y.1.length) = false)) (fun v8 => X.length - (intOf v8).toNat)
  case atStart => exact ⟨0, rfl, Nat.zero_le _, Lib.hid' (by simp)⟩
  case round =>
    obtain ⟨k, rfl, hk, HNO⟩ := hrel
    by_cases hlt : k < X.length
    · obtain ⟨b, off, rfl, hb, hc, hz⟩ := (HS.out.below (Nat.le_refl _) HB0.out).at hlt
      have hzl := hz.len
      have HM := Lib.hid' (List.getElem_mem hlt)
      have HT := Lib.hid' (fun h2 => take_no (f := fun x : Ch => decide (12 < x.1.length)) hlt HNO.out h2)
      clear hz
      generalize X[k] = y at *
      by_cases hq : 12 < y.1.length
      · have HF := Lib.hid' (show long11 X = true by
          unfold long11; rw [Bool.or_eq_true]; exact .inl (List.any_eq_true.2 ⟨y, HM.out, by simpa using hq⟩))
        go_wp2_with fail
        go_ret
        exact ⟨ret_eq (by rw [HF.out]; rfl), HB0.out⟩
      · have HF := Lib.hid' (HT.out (by simpa using hq))
        go_wp2_with fail
        go_round
        case rel => exact ⟨k + 1, by go_num, by omega, HF⟩
        case measure => simp [intOf]; omega
    · have HNA := Lib.hid' (show X.any (fun x => decide (12 < x.1.length)) = false by
        have := HNO.out; rw [List.take_of_length_le (by omega)] at this
        rw [List.any_eq_false]; intro y hy; rw [this y hy]; decide)
      go_wp2_with fail
      go_ret
      exact ⟨ret_eq (by unfold long11; rw [HNA.out]; show Value.bool (decide ((12 : Int) < (X.length : Int))) = _; congr 1; rw [Bool.eq_iff_iff]; simp; omega), HB0.out⟩
theorem long11_flat {X : List Ch} (h : long11 X = false) : (flatC X).length ≤ 144 ∧ X.length ≤ 12 ∧ ∀ x ∈ X, x.1.length ≤ 12 := by
  unfold long11 at h
  rw [Bool.or_eq_false_iff] at h
  obtain ⟨h1, h2⟩ := h
  have h3 : X.length ≤ 12 := by simpa using h2
  have h4 : ∀ x ∈ X, x.1.length ≤ 12 := by intro x hx; have := List.any_eq_false.1 h1 x hx; simpa using this
  refine ⟨?_, h3, h4⟩
  have : ∀ Y : List Ch, (∀ x ∈ Y, x.1.length ≤ 12) → (flatC Y).length ≤ 12 * Y.length := by
    intro Y hY
    unfold flatC
    induction Y with
    | nil => simp
    | cons x Y ih =>
      have a1 := hY x List.mem_cons_self
      have a2 := ih (fun y hy => hY y (List.mem_cons_of_mem _ hy))
      simp only [List.map_cons, List.flatten_cons, List.length_append, List.length_cons]; omega
  have := this X h4
  omega

theorem blk_old {w : World} {k : Nat} {x : Obj} (o : Obj) (h : w.heap[k]? = some x) : (w.alloc o).heap[k]? = some x := (Below.heap_alloc w o k (Array.getElem?_eq_some_iff.1 h).1).trans h
theorem slv_two {w : World} {b e : Nat} {x y : Value} (h : w.heap[b]? = some (.cells #[x, y] e (0, 0))) : SlV w (.slice (some ⟨b, 0, none⟩) 2 2) 2 [x, y] := by
  refine ⟨_, _, rfl, Nat.le_refl _, by decide, by simp, fun j u hu => ⟨_, rfl, ?_⟩⟩
  have e1 : (Addr.add ⟨b, 0, none⟩ j) = ⟨b, j, none⟩ := by unfold Addr.add; split <;> simp_all
  rw [e1, cell_of_row _ _ _ _ _ _ h]; simpa using hu
theorem slv_one {w : World} {b e : Nat} {x : Value} (h : w.heap[b]? = some (.cells #[x] e (0, 0))) : SlV w (.slice (some ⟨b, 0, none⟩) 1 1) 1 [x] := by
  refine ⟨_, _, rfl, Nat.le_refl _, by decide, by simp, fun j u hu => ⟨_, rfl, ?_⟩⟩
  have e1 : (Addr.add ⟨b, 0, none⟩ j) = ⟨b, j, none⟩ := by unfold Addr.add; split <;> simp_all
  rw [e1, cell_of_row _ _ _ _ _ _ h]; simpa using hu
theorem two_of {K : List Ch} {x y : List Int} (h : K.map (·.1) = [x, y]) : ∃ k0 k1 : Ch, K = [k0, k1] ∧ k0.1 = x ∧ k1.1 = y := by
  match K, h with
  | [k0, k1], h =>
    simp only [List.map_cons, List.map_nil, List.cons.injEq, and_true] at h
    exact ⟨k0, k1, rfl, h.1, h.2⟩
theorem alive_next : Pj.next ⟨0, [[0, 1], [2, 3]]⟩ [1] [4] = (0, ⟨1, [[0, 4], [2, 3]]⟩) := by
  unfold Pj.next
  have hc : Pj.check ⟨0, [[0, 1], [2, 3]]⟩ = 0 := by
    refine Pj.Ok.check ⟨by decide, by decide, by decide, by decide, by decide, by decide, by decide⟩
  rw [hc]
  rfl
set_option maxHeartbeats 4000000 in
theorem alive11_any (w : World) : Calls Tryz.prog 7 #[] w fun en w' => en = .returned (.bool true) ∧ Below w.heap.size w w' := by
  go_enter Tryz.func7, Tryz.ntmps7
  go_wp2_with fail
  obtain ⟨N, hN⟩ : ∃ N, N = w.heap.size := ⟨_, rfl⟩
  obtain ⟨w5, hw5⟩ : ∃ w5, w5 = (((((w.alloc (.cells #[.int .i64 0, .int .i64 1] 3)).alloc (.cells #[.int .i64 2, .int .i64 3] 3)).alloc (.cells #[.slice (some ⟨w.heap.size, 0, none⟩) 2 2, .slice (some ⟨w.heap.size + 1, 0, none⟩) 2 2] 81)).alloc (.cells #[.int .i64 1] 3)).alloc (.cells #[.int .i64 4] 3)) := ⟨_, rfl⟩
  have HB5 := Lib.hid' (show Below w.heap.size w w5 by rw [hw5]; go_grown)
  have hz5 : w5.heap.size = w.heap.size + 5 := by rw [hw5]; simp
  have A0 := alloc_new w (.cells #[.int .i64 0, .int .i64 1] 3)
  have A1 := alloc_new (w.alloc (.cells #[.int .i64 0, .int .i64 1] 3)) (.cells #[.int .i64 2, .int .i64 3] 3)
  have A2 := alloc_new ((w.alloc (.cells #[.int .i64 0, .int .i64 1] 3)).alloc (.cells #[.int .i64 2, .int .i64 3] 3)) (.cells #[.slice (some ⟨w.heap.size, 0, none⟩) 2 2, .slice (some ⟨w.heap.size + 1, 0, none⟩) 2 2] 81)
  have A3 := alloc_new (((w.alloc (.cells #[.int .i64 0, .int .i64 1] 3)).alloc (.cells #[.int .i64 2, .int .i64 3] 3)).alloc (.cells #[.slice (some ⟨w.heap.size, 0, none⟩) 2 2, .slice (some ⟨w.heap.size + 1, 0, none⟩) 2 2] 81)) (.cells #[.int .i64 1] 3)
  have A4 := alloc_new ((((w.alloc (.cells #[.int .i64 0, .int .i64 1] 3)).alloc (.cells #[.int .i64 2, .int .i64 3] 3)).alloc (.cells #[.slice (some ⟨w.heap.size, 0, none⟩) 2 2, .slice (some ⟨w.heap.size + 1, 0, none⟩) 2 2] 81)).alloc (.cells #[.int .i64 1] 3)) (.cells #[.int .i64 4] 3)
  simp only [World.size_alloc] at A1 A2 A3 A4
  have b0 : w5.heap[w.heap.size]? = some (.cells #[.int .i64 0, .int .i64 1] 3 (0, 0)) := by rw [hw5]; exact blk_old _ (blk_old _ (blk_old _ (blk_old _ (A0))))
  have b1 : w5.heap[w.heap.size + 1]? = some (.cells #[.int .i64 2, .int .i64 3] 3 (0, 0)) := by rw [hw5]; exact blk_old _ (blk_old _ (blk_old _ (A1)))
  have b2 : w5.heap[w.heap.size + 1 + 1]? = some (.cells #[.slice (some ⟨w.heap.size, 0, none⟩) 2 2, .slice (some ⟨w.heap.size + 1, 0, none⟩) 2 2] 81 (0, 0)) := by rw [hw5]; exact blk_old _ (blk_old _ (A2))
  have b3 : w5.heap[w.heap.size + 1 + 1 + 1]? = some (.cells #[.int .i64 1] 3 (0, 0)) := by rw [hw5]; exact blk_old _ (A3)
  have b4 : w5.heap[w.heap.size + 1 + 1 + 1 + 1]? = some (.cells #[.int .i64 4] 3 (0, 0)) := by rw [hw5]; exact A4
  rw [← hw5]
  have HCH := Lib.hid' (show Chs w5 (some ⟨w.heap.size + 1 + 1, 0, none⟩) 2 [([0, 1], some ⟨w.heap.size, 0, none⟩, 2), ([2, 3], some ⟨w.heap.size + 1, 0, none⟩, 2)] from
    ⟨slv_two b2, fun x hx => by
      simp only [List.mem_cons, List.not_mem_nil, or_false] at hx
      rcases hx with rfl | rfl
      · exact slv_two b0
      · exact slv_two b1⟩)
  have HD := Lib.hid' (show Zs w5 (.slice (some ⟨w.heap.size + 1 + 1 + 1, 0, none⟩) [1].length 1) [(1 : Int)] from slv_one b3)
  have HSS := Lib.hid' (show Zs w5 (.slice (some ⟨w.heap.size + 1 + 1 + 1 + 1, 0, none⟩) [4].length 1) [(4 : Int)] from slv_one b4)
  have hnx := pnext_any 0 (some ⟨w.heap.size + 1 + 1, 0, none⟩) 2 [([0, 1], some ⟨w.heap.size, 0, none⟩, 2), ([2, 3], some ⟨w.heap.size + 1, 0, none⟩, 2)] [1] [4] _ _ 1 1 w5 HCH.out (by simp [flatC]) HD.out HSS.out
  rw [show (docJ 0 [([0, 1], some ⟨w.heap.size, 0, none⟩, 2), ([2, 3], some ⟨w.heap.size + 1, 0, none⟩, 2)]).next [1] [4] = (0, ⟨1, [[0, 4], [2, 3]]⟩) from alive_next] at hnx
  clear hw5 b0 b1 b2 b3 b4 A0 A1 A2 A3 A4
  refine hnx.mono ?_
  rintro en w6 ⟨e, a, c, K, rfl, hd, hj, hb6⟩
  clear hnx
  unfold docJ at hd
  simp only [Pj.mk.injEq] at hd
  obtain ⟨rfl, hK⟩ := hd
  obtain ⟨k0, k1, rfl, hk0, hk1⟩ := two_of hK
  obtain ⟨l0, a0, c0⟩ := k0
  obtain ⟨l1, a1, c1⟩ := k1
  simp only at hk0 hk1
  subst hk0 hk1
  have HJ := Lib.hid' hj
  have HB6 := Lib.hid' (HB5.out.trans (hb6.mono (by omega)))
  obtain ⟨g, rfl, hg0, hg1, cg, fg⟩ := hj.at (i := 0) (by simp)
  obtain ⟨b, off, hab, hb, hc⟩ := (show Zs w6 (.slice a0 2 c0) [0, 4] from SlV.of_own (hj.each _ List.mem_cons_self)).at (k := 1) (by simp)
  subst hab
  simp only [List.getElem_cons_zero, List.getElem_cons_succ, List.length_cons, List.length_nil, Nat.zero_add, Nat.reduceAdd] at cg hc
  have hz6 : w.heap.size < w6.heap.size := by have := hb6.size; omega
  clear hK hj hb6 hg0
  unfold pjV
  rw [errV_0]
  go_wp2_with fail
  have A0 := alloc_new w6 (.cells #[.int .i64 1, .slice (some ⟨g, 0, none⟩) 2 c] 25)
  have A1 := alloc_new (w6.alloc (.cells #[.int .i64 1, .slice (some ⟨g, 0, none⟩) 2 c] 25)) (.cells #[.int .i64 0, .int .i64 4] 3)
  have A2 := alloc_new ((w6.alloc (.cells #[.int .i64 1, .slice (some ⟨g, 0, none⟩) 2 c] 25)).alloc (.cells #[.int .i64 0, .int .i64 4] 3)) (.cells #[.int .i64 2, .int .i64 3] 3)
  have A3 := alloc_new (((w6.alloc (.cells #[.int .i64 1, .slice (some ⟨g, 0, none⟩) 2 c] 25)).alloc (.cells #[.int .i64 0, .int .i64 4] 3)).alloc (.cells #[.int .i64 2, .int .i64 3] 3)) (.cells #[.slice (some ⟨w6.heap.size + 1, 0, none⟩) 2 2, .slice (some ⟨w6.heap.size + 1 + 1, 0, none⟩) 2 2] 81)
  simp only [World.size_alloc] at A1 A2 A3
  obtain ⟨w7, hw7⟩ : ∃ w7, w7 = ((((w6.alloc (.cells #[.int .i64 1, .slice (some ⟨g, 0, none⟩) 2 c] 25)).alloc (.cells #[.int .i64 0, .int .i64 4] 3)).alloc (.cells #[.int .i64 2, .int .i64 3] 3)).alloc (.cells #[.slice (some ⟨w6.heap.size + 1, 0, none⟩) 2 2, .slice (some ⟨w6.heap.size + 1 + 1, 0, none⟩) 2 2] 81)) := ⟨_, rfl⟩
  have b0 : w7.heap[w6.heap.size]? = some (.cells #[.int .i64 1, .slice (some ⟨g, 0, none⟩) 2 c] 25 (0, 0)) := by rw [hw7]; exact blk_old _ (blk_old _ (blk_old _ (A0)))
  have b1 : w7.heap[w6.heap.size + 1]? = some (.cells #[.int .i64 0, .int .i64 4] 3 (0, 0)) := by rw [hw7]; exact blk_old _ (blk_old _ (A1))
  have b2 : w7.heap[w6.heap.size + 1 + 1]? = some (.cells #[.int .i64 2, .int .i64 3] 3 (0, 0)) := by rw [hw7]; exact blk_old _ (A2)
  have b3 : w7.heap[w6.heap.size + 1 + 1 + 1]? = some (.cells #[.slice (some ⟨w6.heap.size + 1, 0, none⟩) 2 2, .slice (some ⟨w6.heap.size + 1 + 1, 0, none⟩) 2 2] 81 (0, 0)) := by rw [hw7]; exact A3
  have hb7 : Below w6.heap.size w6 w7 := by rw [hw7]; go_grown
  have hz7 : w7.heap.size = w6.heap.size + 4 := by rw [hw7]; simp
  rw [← hw7]
  clear hw7 A0 A1 A2 A3
  have HB7 := Lib.hid' (HB6.out.trans (hb7.mono (by omega)))
  have HJ7 := Lib.hid' (HJ.out.below (Nat.le_refl _) hb7)
  have cg7 := (hb7.cell (p := ⟨g, 0, none⟩) hg1).trans cg
  have hc7 := (hb7.cell (p := ⟨b, off + 1, none⟩) hb).trans hc
  have hs := psame_any 1 1 (some ⟨g, 0, none⟩) (some ⟨w6.heap.size + 1 + 1 + 1, 0, none⟩) c 2 [([0, 4], some ⟨b, off, none⟩, c0), ([2, 3], a1, c1)] [([0, 4], some ⟨w6.heap.size + 1, 0, none⟩, 2), ([2, 3], some ⟨w6.heap.size + 1 + 1, 0, none⟩, 2)] w7 HJ7.out.chs
    ⟨slv_two b3, fun x hx => by
      simp only [List.mem_cons, List.not_mem_nil, or_false] at hx
      rcases hx with rfl | rfl
      · exact slv_two b1
      · exact slv_two b2⟩
  rw [show sameJ (docJ 1 [([0, 4], some ⟨b, off, none⟩, c0), ([2, 3], a1, c1)]) (docJ 1 [([0, 4], some ⟨w6.heap.size + 1, 0, none⟩, 2), ([2, 3], some ⟨w6.heap.size + 1 + 1, 0, none⟩, 2)]) = true from rfl] at hs
  refine hs.mono ?_
  rintro en w8 ⟨rfl, hb8⟩
  have HB8 := Lib.hid' (HB7.out.trans (hb8.mono (by omega)))
  have cg8 := (hb8.cell (p := ⟨g, 0, none⟩) (by show g < w7.heap.size; omega)).trans cg7
  have hc8 := (hb8.cell (p := ⟨b, off + 1, none⟩) (by show b < w7.heap.size; omega)).trans hc7
  have x1 := (hb8.cell (p := ⟨w6.heap.size, 1, none⟩) (by show w6.heap.size < w7.heap.size; omega)).trans (show w7.cell? ⟨w6.heap.size, 1, none⟩ = some (.slice (some ⟨g, 0, none⟩) 2 c) by rw [cell_of_row _ _ _ _ _ _ b0]; rfl)
  clear hs hb7 hb8 b0 b1 b2 b3 cg cg7 hc hc7 hz7
  go_wp2
  go_ret
  exact ⟨rfl, HB8.out⟩

theorem home_zero {p : Pj} {a : Int} {x : Int} {n : Nat} (h : p.home a = (x, n)) (hn : n ≠ 0) : x = 0 := by
  unfold Pj.home at h
  split at h
  · simp only [Prod.mk.injEq] at h; exact h.1.symm
  · split at h
    · simp only [Prod.mk.injEq] at h; exact h.1.symm
    · simp only [Prod.mk.injEq] at h; exact absurd h.2.symm hn
theorem home_ok {p : Pj} {a : Int} {x : Int} (h : p.home a = (x, 0)) : 0 < p.cs.length ∧ 0 ≤ a ∧ x = a.tmod p.cs.length := by
  unfold Pj.home at h
  split at h
  · rename_i h1; simp only [Prod.mk.injEq] at h; exact absurd h.2 h1
  · rename_i h1
    have := (Pj.ok_of (p := p) (by simpa using h1)).n0
    split at h
    · simp only [Prod.mk.injEq] at h; exact absurd h.2 (by decide)
    · rename_i h2; simp only [Prod.mk.injEq] at h; exact ⟨this, by omega, h.1.symm⟩
end Go.Proofs.YtkljeefncopodaaGreat
