/- Package slices at []int, [][]int: what each function answers. -/
import Derived.Test.YtkljeefncopodaaGreatCell
import Derived.Test.YtkljeefncopodaaGreatBase
import Derived.Test.YtkljeefncopodaaGreatPrjM
import Derived.Lib.SliceRun
import Derived.Shelf.GgClosure.Gives
namespace Go.Proofs.YtkljeefncopodaaGreat
open Go.RowKit
set_option linter.unusedSimpArgs false
set_option linter.unusedVariables false
set_option maxRecDepth 20000

theorem etInts : ElemT Tryz.prog 81 3 1 8 := ElemT.mk' (z := .int .i64 0) Tryz.underlying81 (by kernel_rfl) rfl (by decide) (by decide)
theorem etRows : ElemT Tryz.prog 23 81 1 24 := ElemT.mk' (z := .slice none 0 0) Tryz.underlying23 (by kernel_rfl) rfl (by decide) (by decide)
def zVs (l : List Int) : List Value := l.map (Value.int .i64)
theorem zVs_length (l : List Int) : (zVs l).length = l.length := by simp [zVs]
theorem zVs_append (a b : List Int) : zVs (a ++ b) = zVs a ++ zVs b := by simp [zVs]
theorem zVs_one (l : List Int) : ∀ u ∈ zVs l, u.oneCell' = true := by intro u hu; obtain ⟨b, _, rfl⟩ := List.mem_map.1 hu; rfl
/-- the numbers of a slice value -/
def Zs (w : World) (v : Value) (l : List Int) : Prop := SlV w v l.length (zVs l)
theorem Zs.len {w : World} {a : Option Addr} {c : Nat} {l : List Int} (h : Zs w (.slice a l.length c) l) : l.length ≤ 9223372036854775807 := by
  obtain ⟨_, _, he, h1, h2, _⟩ := h; cases he; unfold maxLen at h2; omega
theorem Zs.at {w : World} {a : Option Addr} {n c : Nat} {l : List Int} (h : Zs w (.slice a n c) l) {k : Nat} (hk : k < l.length) :
    ∃ b off, a = some ⟨b, off, none⟩ ∧ b < w.heap.size ∧ w.cell? ⟨b, off + k, none⟩ = some (.int .i64 l[k]) := by
  have h' : SlV w (.slice a n c) n (l.flatMap (fun x => [Value.int .i64 x])) := by
    obtain ⟨a', c', he, r⟩ := h
    cases he
    refine ⟨a, c, rfl, ?_⟩
    have : l.flatMap (fun x => [Value.int .i64 x]) = zVs l := by
      clear r hk; induction l with
      | nil => rfl
      | cons x l ih => rw [List.flatMap_cons, ih]; rfl
    rw [this]; exact r
  obtain ⟨b, off, e, hb, hc⟩ := SlV.row (f := fun x => [Value.int .i64 x]) (s := 1) (fun _ => rfl) (by decide) h' hk
  refine ⟨b, off, e, hb, ?_⟩
  have := hc 0 _ rfl
  simpa using this
/-- a list's slice: the numbers, the address, the capacity -/
abbrev Ch := List Int × Option Addr × Nat
def chV (x : Ch) : Value := .slice x.2.1 x.1.length x.2.2
/-- a slice of slices -/
structure Chs (w : World) (a : Option Addr) (c : Nat) (X : List Ch) : Prop where
  rows : SlV w (.slice a X.length c) X.length (X.map chV)
  each : ∀ x ∈ X, Zs w (chV x) x.1
theorem Chs.len {w : World} {a : Option Addr} {c : Nat} {X : List Ch} (h : Chs w a c X) : X.length ≤ 9223372036854775807 := by
  obtain ⟨_, _, he, h1, h2, _⟩ := h.rows; cases he; unfold maxLen at h2; omega
theorem Chs.below {w w' : World} {a : Option Addr} {c : Nat} {X : List Ch} (h : Chs w a c X) {B : Nat} (hB : w.heap.size ≤ B) (hb : Below B w w') : Chs w' a c X :=
  ⟨SlV.below h.rows hB hb, fun x hx => SlV.below (h.each x hx) hB hb⟩
theorem Chs.at {w : World} {a : Option Addr} {c : Nat} {X : List Ch} (h : Chs w a c X) {k : Nat} (hk : k < X.length) :
    ∃ b off, a = some ⟨b, off, none⟩ ∧ b < w.heap.size ∧ w.cell? ⟨b, off + k, none⟩ = some (.slice X[k].2.1 X[k].1.length X[k].2.2) ∧ Zs w (.slice X[k].2.1 X[k].1.length X[k].2.2) X[k].1 := by
  have h' : SlV w (.slice a X.length c) X.length (X.flatMap (fun x => [chV x])) := by
    have : X.flatMap (fun x => [chV x]) = X.map chV := by
      clear h hk; induction X with
      | nil => rfl
      | cons x l ih => rw [List.flatMap_cons, ih]; rfl
    rw [this]; exact h.rows
  obtain ⟨b, off, e, hb, hc⟩ := SlV.row (f := fun x => [chV x]) (s := 1) (fun _ => rfl) (by decide) h' hk
  refine ⟨b, off, e, hb, ?_, h.each _ (List.getElem_mem hk)⟩
  have := hc 0 _ rfl
  simpa [chV] using this

def idxB {α : Type} (f : α → Bool) (l : List α) : Int := match l.findIdx? f with | some i => (i : Int) | none => -1
theorem idxB_hit {α : Type} {f : α → Bool} {l : List α} {k : Nat} (hk : k < l.length) (h1 : ∀ y ∈ l.take k, f y = false) (h2 : f l[k] = true) : idxB f l = k := by
  have : l.findIdx? f = some k := by
    rw [List.findIdx?_eq_some_iff_getElem]
    refine ⟨hk, h2, fun j hj => ?_⟩
    have := h1 l[j] (by rw [List.mem_take_iff_getElem]; exact ⟨j, by omega, rfl⟩)
    simp [this]
  unfold idxB; rw [this]
theorem idxB_none {α : Type} {f : α → Bool} {l : List α} (h1 : ∀ y ∈ l, f y = false) : idxB f l = -1 := by
  have : l.findIdx? f = none := by rw [List.findIdx?_eq_none_iff]; exact h1
  unfold idxB; rw [this]
theorem idxB_any {α : Type} (f : α → Bool) (l : List α) : decide (0 ≤ idxB f l) = l.any f := by
  unfold idxB
  cases h : l.findIdx? f with
  | none =>
    rw [List.findIdx?_eq_none_iff] at h
    have : l.any f = false := by rw [List.any_eq_false]; intro x hx; rw [h x hx]; decide
    rw [this]; rfl
  | some i =>
    rw [List.findIdx?_eq_some_iff_getElem] at h
    obtain ⟨h1, h2, _⟩ := h
    have : l.any f = true := List.any_eq_true.2 ⟨_, List.getElem_mem h1, h2⟩
    rw [this]; simp
theorem idxB_ge {α : Type} (f : α → Bool) (l : List α) : -1 ≤ idxB f l ∧ idxB f l ≤ l.length := by
  unfold idxB
  cases h : l.findIdx? f with
  | none => simp
  | some i => rw [List.findIdx?_eq_some_iff_getElem] at h; obtain ⟨h1, _⟩ := h; simp; omega
theorem take_no {α : Type} {f : α → Bool} {l : List α} {k : Nat} (hk : k < l.length) (h1 : ∀ y ∈ l.take k, f y = false) (h2 : f l[k] = false) : ∀ y ∈ l.take (k + 1), f y = false := by
  intro y hy
  rw [List.take_succ_eq_append_getElem hk] at hy
  rcases List.mem_append.1 hy with hy | hy
  · exact h1 y hy
  · simp at hy; subst hy; exact h2

set_option maxHeartbeats 400000 in
theorem indexZ_any (x : Int) (l : List Int) (a : Option Addr) (c : Nat) (w : World) (h : Zs w (.slice a l.length c) l) :
    Calls Tryz.prog 143 #[.slice a l.length c, .int .i64 x] w fun e w' => e = .returned (.int .i64 (idxB (fun y => x == y) l)) ∧ w = w' := by
  have HS := Lib.hid' h
  have hlen := h.len
  clear h
  go_enter Tryz.func143, Tryz.ntmps143
  go_wp2_with fail
  go_loop [8] (fun v8 => ∃ k : Nat, v8 = .int .i64 k ∧ k ≤ l.length ∧ Hid (∀ y ∈ l.take k, (x == y) = false)) (fun v8 => l.length - (intOf v8).toNat)
  case atStart => exact ⟨0, rfl, Nat.zero_le _, Lib.hid' (by simp)⟩
  case round =>
    obtain ⟨k, rfl, hk, HNO⟩ := hrel
    by_cases hlt : k < l.length
    · obtain ⟨b, off, rfl, hb, hc⟩ := HS.out.at hlt
      have HH := Lib.hid' (fun h2 => idxB_hit (f := fun y => x == y) hlt HNO.out h2)
      have HT := Lib.hid' (fun h2 => take_no (f := fun y => x == y) hlt HNO.out h2)
      generalize l[k] = y at *
      cases hq : (x == y) with
      | true =>
        have HF := Lib.hid' (HH.out hq)
        go_wp2_with fail
        go_ret
        exact ⟨ret_eq (by rw [HF.out]; rfl), rfl⟩
      | false =>
        have HF := Lib.hid' (HT.out hq)
        go_wp2_with fail
        go_round
        case rel => exact ⟨k + 1, by go_num, by omega, HF⟩
        case measure => simp [intOf]; omega
    · have HF := Lib.hid' (idxB_none (f := fun y => x == y) (by have := HNO.out; rwa [List.take_of_length_le (by omega)] at this))
      go_wp2_with fail
      go_ret
      exact ⟨ret_eq (by rw [HF.out]; rfl), rfl⟩
theorem containsZ_any (x : Int) (l : List Int) (a : Option Addr) (c : Nat) (w : World) (h : Zs w (.slice a l.length c) l) :
    Calls Tryz.prog 90 #[.slice a l.length c, .int .i64 x] w fun e w' => e = .returned (.bool (l.any (fun y => x == y))) ∧ w = w' := by
  have HC := Lib.hid' (indexZ_any x l a c w h)
  have HA := Lib.hid' (idxB_any (fun y => x == y) l)
  clear h
  go_enter Tryz.func90, Tryz.ntmps90
  go_wp2_with fail
  refine HC.out.mono ?_
  rintro e w' ⟨rfl, rfl⟩
  generalize idxB (fun y => x == y) l = i at *
  go_wp2
  go_ret
  exact ⟨ret_eq (by rw [← HA.out]; rfl), rfl⟩

/-- a function value that tells of numbers -/
def PredZ (f : Nat) (cap : Array Value) (p : Int → Bool) (w : World) : Prop :=
  ∀ w' x, Below w.heap.size w w' → Calls Tryz.prog f (#[.int .i64 x] ++ cap) w' fun e w'' => e = .returned (.bool (p x)) ∧ Below w'.heap.size w' w''
set_option maxHeartbeats 400000 in
theorem indexFZ_any (f : Nat) (cap : Array Value) (p : Int → Bool) (l : List Int) (a : Option Addr) (c : Nat) (w : World) (h : Zs w (.slice a l.length c) l) (hcf : ∀ args w, (callFunc f args).run Tryz.prog w = .ok (.enter f args) w) (hp : Hid (PredZ f cap p w)) :
    Calls Tryz.prog 145 #[.slice a l.length c, .func (.func f) #[] cap] w fun e w' => e = .returned (.int .i64 (idxB p l)) ∧ Below w.heap.size w w' := by
  have HS := Lib.hid' h
  have hlen := h.len
  clear h
  go_enter Tryz.func145, Tryz.ntmps145
  go_wp2_with fail
  go_loopw [8] (fun v8 wr => ∃ k : Nat, v8 = .int .i64 k ∧ k ≤ l.length ∧ Hid (∀ y ∈ l.take k, p y = false) ∧ Hid (Below w.heap.size w wr)) (fun v8 _ => l.length - (intOf v8).toNat)
  case atStart => exact ⟨0, rfl, Nat.zero_le _, Lib.hid' (by simp), Lib.hid' (Below.refl _ _)⟩
  case round =>
    obtain ⟨k, rfl, hk, HNO, HB⟩ := hrel
    by_cases hlt : k < l.length
    · obtain ⟨b, off, rfl, hb, hc'⟩ := HS.out.at hlt
      have hc : wr.cell? ⟨b, off + k, none⟩ = some (.int .i64 l[k]) := (HB.out.cell (p := ⟨b, off + k, none⟩) hb).trans hc'
      have HH := Lib.hid' (fun h2 => idxB_hit (f := p) hlt HNO.out h2)
      have HT := Lib.hid' (fun h2 => take_no (f := p) hlt HNO.out h2)
      clear hc'
      generalize l[k] = y at *
      go_wp2_with fail
      refine (hp.out wr y HB.out).mono ?_
      rintro e w2 ⟨rfl, hb2⟩
      have HB2 := Lib.hid' (HB.out.trans (hb2.mono HB.out.size))
      clear hb2
      cases hq : p y with
      | true =>
        have HF := Lib.hid' (HH.out hq)
        go_wp2_with fail
        go_ret
        exact ⟨ret_eq (by rw [HF.out]; rfl), HB2.out⟩
      | false =>
        have HF := Lib.hid' (HT.out hq)
        go_wp2_with fail
        go_roundw
        case rel => exact ⟨k + 1, by go_num, by omega, HF, HB2⟩
        case measure => simp [intOf]; omega
    · have HF := Lib.hid' (idxB_none (f := p) (by have := HNO.out; rwa [List.take_of_length_le (by omega)] at this))
      go_wp2_with fail
      go_ret
      exact ⟨ret_eq (by rw [HF.out]; rfl), HB.out⟩
theorem containsFZ_any (f : Nat) (cap : Array Value) (p : Int → Bool) (l : List Int) (a : Option Addr) (c : Nat) (w : World) (h : Zs w (.slice a l.length c) l) (hcf : ∀ args w, (callFunc f args).run Tryz.prog w = .ok (.enter f args) w) (hp : Hid (PredZ f cap p w)) :
    Calls Tryz.prog 94 #[.slice a l.length c, .func (.func f) #[] cap] w fun e w' => e = .returned (.bool (l.any p)) ∧ Below w.heap.size w w' := by
  have HC := Lib.hid' (indexFZ_any f cap p l a c w h hcf hp)
  have HA := Lib.hid' (idxB_any p l)
  clear h hcf hp
  go_enter Tryz.func94, Tryz.ntmps94
  go_wp2_with fail
  refine HC.out.mono ?_
  rintro e w' ⟨rfl, hb⟩
  have HB := Lib.hid' hb
  clear hb
  generalize idxB p l = i at *
  go_wp2
  go_ret
  exact ⟨ret_eq (by rw [← HA.out]; rfl), HB.out⟩
/-- a function value that tells of lists by their length -/
def PredN (f : Nat) (p : Nat → Bool) : Prop := ∀ a n c w', n ≤ 9223372036854775807 → Calls Tryz.prog f #[.slice a n c] w' fun e w'' => e = .returned (.bool (p n)) ∧ w' = w''
set_option maxHeartbeats 400000 in
theorem indexFR_any (f : Nat) (p : Nat → Bool) (X : List Ch) (a : Option Addr) (c : Nat) (w : World) (h : Chs w a c X) (hcf : ∀ args w, (callFunc f args).run Tryz.prog w = .ok (.enter f args) w) (hp : Hid (PredN f p)) :
    Calls Tryz.prog 147 #[.slice a X.length c, .func (.func f) #[] #[]] w fun e w' => e = .returned (.int .i64 (idxB (fun x => p x.1.length) X)) ∧ w = w' := by
  have HS := Lib.hid' h
  have hlen := h.len
  clear h
  go_enter Tryz.func147, Tryz.ntmps147
  go_wp2_with fail
  go_loop [8] (fun v8 => ∃ k : Nat, v8 = .int .i64 k ∧ k ≤ X.length ∧ Hid (∀ y ∈ X.take k, p y.1.length = false)) (fun v8 => X.length - (intOf v8).toNat)
  case atStart => exact ⟨0, rfl, Nat.zero_le _, Lib.hid' (by simp)⟩
  case round =>
    obtain ⟨k, rfl, hk, HNO⟩ := hrel
    by_cases hlt : k < X.length
    · obtain ⟨b, off, rfl, hb, hc, hz⟩ := HS.out.at hlt
      have hzl := hz.len
      have HH := Lib.hid' (fun h2 => idxB_hit (f := fun x : Ch => p x.1.length) hlt HNO.out h2)
      have HT := Lib.hid' (fun h2 => take_no (f := fun x : Ch => p x.1.length) hlt HNO.out h2)
      clear hz
      generalize X[k] = y at *
      go_wp2_with fail
      refine (hp.out _ _ _ w hzl).mono ?_
      rintro e w2 ⟨rfl, rfl⟩
      cases hq : p y.1.length with
      | true =>
        have HF := Lib.hid' (HH.out hq)
        go_wp2_with fail
        go_ret
        exact ⟨ret_eq (by rw [HF.out]; rfl), rfl⟩
      | false =>
        have HF := Lib.hid' (HT.out hq)
        go_wp2_with fail
        go_round
        case rel => exact ⟨k + 1, by go_num, by omega, HF⟩
        case measure => simp [intOf]; omega
    · have HF := Lib.hid' (idxB_none (f := fun x : Ch => p x.1.length) (by have := HNO.out; rwa [List.take_of_length_le (by omega)] at this))
      go_wp2_with fail
      go_ret
      exact ⟨ret_eq (by rw [HF.out]; rfl), rfl⟩
theorem containsFR_any (f : Nat) (p : Nat → Bool) (X : List Ch) (a : Option Addr) (c : Nat) (w : World) (h : Chs w a c X) (hcf : ∀ args w, (callFunc f args).run Tryz.prog w = .ok (.enter f args) w) (hp : Hid (PredN f p)) :
    Calls Tryz.prog 96 #[.slice a X.length c, .func (.func f) #[] #[]] w fun e w' => e = .returned (.bool (X.any (fun x => p x.1.length))) ∧ w = w' := by
  have HC := Lib.hid' (indexFR_any f p X a c w h hcf hp)
  have HA := Lib.hid' (idxB_any (fun x : Ch => p x.1.length) X)
  clear h hcf hp
  go_enter Tryz.func96, Tryz.ntmps96
  go_wp2_with fail
  refine HC.out.mono ?_
  rintro e w' ⟨rfl, rfl⟩
  generalize idxB (fun x : Ch => p x.1.length) X = i at *
  go_wp2
  go_ret
  exact ⟨ret_eq (by rw [← HA.out]; rfl), rfl⟩

theorem eq_take {α : Type} [DecidableEq α] {l m : List α} (hl : l.length = m.length) {k : Nat} (h : l.take k = m.take k) (hk : ¬ k < l.length) : l = m := by
  rwa [List.take_of_length_le (by omega), List.take_of_length_le (by omega)] at h
theorem take_next {α : Type} {l m : List α} {k : Nat} (h : l.take k = m.take k) (h1 : k < l.length) (h2 : k < m.length) (he : l[k] = m[k]) : l.take (k + 1) = m.take (k + 1) := by
  rw [List.take_succ_eq_append_getElem h1, List.take_succ_eq_append_getElem h2, h, he]
set_option maxHeartbeats 400000 in
theorem equalZ_any (l m : List Int) (a b : Option Addr) (c d : Nat) (w : World) (h : Zs w (.slice a l.length c) l) (h' : Zs w (.slice b m.length d) m) :
    Calls Tryz.prog 50 #[.slice a l.length c, .slice b m.length d] w fun e w' => e = .returned (.bool (l == m)) ∧ Below w.heap.size w w' := by
  have HS := Lib.hid' h
  have HM := Lib.hid' h'
  have hlen := h.len
  have hlen' := h'.len
  clear h h'
  by_cases hl : l.length = m.length
  rotate_left
  · have HF := Lib.hid' (show (l == m) = false by rw [beq_eq_false_iff_ne]; intro e; exact hl (by rw [e]))
    have hd : ((l.length : Int) != (m.length : Int)) = true := by rw [bne_iff_ne]; omega
    clear hl
    go_enter Tryz.func50, Tryz.ntmps50
    go_wp2_with fail
    go_ret
    exact ⟨ret_eq (by rw [HF.out]; rfl), Below.refl _ _⟩
  have HL := Lib.hid' hl
  have hd : ((l.length : Int) != (m.length : Int)) = false := by rw [bne_eq_false_iff_eq]; omega
  clear hl
  go_enter Tryz.func50, Tryz.ntmps50
  go_wp2_with fail
  clear hd
  go_loopw [13] (fun v8 wr => ∃ k : Nat, v8 = .int .i64 k ∧ k ≤ l.length ∧ Hid (l.take k = m.take k) ∧ Hid (Below w.heap.size w wr)) (fun v8 _ => l.length - (intOf v8).toNat)
  case atStart => exact ⟨0, rfl, Nat.zero_le _, Lib.hid' (by simp), Lib.hid' (Below.refl _ _)⟩
  case round =>
    obtain ⟨k, rfl, hk, HNO, HB⟩ := hrel
    by_cases hlt : k < l.length
    · have hlt' : k < m.length := by have := HL.out; omega
      obtain ⟨b1, off1, rfl, hb1, hc1'⟩ := HS.out.at hlt
      obtain ⟨b2, off2, rfl, hb2, hc2'⟩ := HM.out.at hlt'
      have hc1 := (HB.out.cell (p := ⟨b1, off1 + k, none⟩) hb1).trans hc1'
      have hc2 := (HB.out.cell (p := ⟨b2, off2 + k, none⟩) hb2).trans hc2'
      have HT := Lib.hid' (fun he => take_next HNO.out hlt hlt' he)
      have HN := Lib.hid' (show l[k] ≠ m[k] → (l == m) = false by
        intro h; rw [beq_eq_false_iff_ne]; intro e; subst e; exact h rfl)
      clear hc1' hc2'
      generalize l[k] = x at *
      generalize m[k] = y at *
      go_wp2_with fail
      cases hq : (x != y) with
      | true =>
        have HF := Lib.hid' (HN.out (by rwa [bne_iff_ne] at hq))
        go_quiet (fail)
        go_wp2_with fail
        go_ret
        exact ⟨ret_eq (by rw [HF.out]; rfl), below_drewN' HB.out _⟩
      | false =>
        have HF := Lib.hid' (HT.out (by rwa [bne_eq_false_iff_eq] at hq))
        go_quiet (fail)
        go_wp2_with fail
        go_roundw
        case rel => exact ⟨k + 1, by go_num, by omega, HF, Lib.hid' (below_drewN' HB.out _)⟩
        case measure => simp [intOf]; omega
    · have HF := Lib.hid' (show (l == m) = true by rw [beq_iff_eq]; exact eq_take HL.out HNO.out hlt)
      go_wp2_with fail
      go_ret
      exact ⟨ret_eq (by rw [HF.out]; rfl), HB.out⟩
theorem cf_equalZ (args : Array Value) (w : World) : (callFunc 50 args).run Tryz.prog w = .ok (.enter 50 args) w := by kernel_rfl
set_option maxHeartbeats 400000 in
theorem equalR_any (X Y : List Ch) (a b : Option Addr) (c d : Nat) (w : World) (h : Chs w a c X) (h' : Chs w b d Y) :
    Calls Tryz.prog 49 #[.slice a X.length c, .slice b Y.length d, .func (.func 50) #[] #[]] w fun e w' => e = .returned (.bool (X.map (·.1) == Y.map (·.1))) ∧ Below w.heap.size w w' := by
  have HS := Lib.hid' h
  have HM := Lib.hid' h'
  have hlen := h.len
  have hlen' := h'.len
  have hcf := cf_equalZ
  clear h h'
  by_cases hl : X.length = Y.length
  rotate_left
  · have HF := Lib.hid' (show (X.map (·.1) == Y.map (·.1)) = false by rw [beq_eq_false_iff_ne]; intro e; exact hl (by simpa using congrArg List.length e))
    have hd : ((X.length : Int) != (Y.length : Int)) = true := by rw [bne_iff_ne]; omega
    clear hl
    go_enter Tryz.func49, Tryz.ntmps49
    go_wp2_with fail
    go_ret
    exact ⟨ret_eq (by rw [HF.out]; rfl), Below.refl _ _⟩
  have HL := Lib.hid' hl
  have hd : ((X.length : Int) != (Y.length : Int)) = false := by rw [bne_eq_false_iff_eq]; omega
  clear hl
  go_enter Tryz.func49, Tryz.ntmps49
  go_wp2_with fail
  clear hd
  go_loopw [17] (fun v8 wr => ∃ k : Nat, v8 = .int .i64 k ∧ k ≤ X.length ∧ Hid ((X.map (·.1)).take k = (Y.map (·.1)).take k) ∧ Hid (Below w.heap.size w wr)) (fun v8 _ => X.length - (intOf v8).toNat)
  case atStart => exact ⟨0, rfl, Nat.zero_le _, Lib.hid' (by simp), Lib.hid' (Below.refl _ _)⟩
  case round =>
    obtain ⟨k, rfl, hk, HNO, HB⟩ := hrel
    by_cases hlt : k < X.length
    · have hlt' : k < Y.length := by have := HL.out; omega
      obtain ⟨b1, off1, rfl, hb1, hc1, hz1⟩ := (HS.out.below (Nat.le_refl _) HB.out).at hlt
      obtain ⟨b2, off2, rfl, hb2, hc2, hz2⟩ := (HM.out.below (Nat.le_refl _) HB.out).at hlt'
      have HZ1 := Lib.hid' hz1
      have HZ2 := Lib.hid' hz2
      have HT := Lib.hid' (show X[k].1 = Y[k].1 → _ from fun he => take_next HNO.out (by simpa using hlt) (by simpa using hlt') (by simpa using he))
      have HN := Lib.hid' (show X[k].1 ≠ Y[k].1 → (X.map (·.1) == Y.map (·.1)) = false by
        intro h; rw [beq_eq_false_iff_ne]; intro e
        apply h
        have h3 : (X.map (·.1))[k]? = (Y.map (·.1))[k]? := by rw [e]
        simpa [hlt, hlt'] using h3)
      clear hz1 hz2
      generalize X[k] = x at *
      generalize Y[k] = y at *
      go_wp2_with fail
      refine (equalZ_any x.1 y.1 _ _ _ _ wr HZ1.out HZ2.out).mono ?_
      rintro e w2 ⟨rfl, hb2⟩
      have HB2 := Lib.hid' (HB.out.trans (hb2.mono HB.out.size))
      clear hb2
      cases hq : (x.1 == y.1) with
      | false =>
        have HF := Lib.hid' (HN.out (by rwa [beq_eq_false_iff_ne] at hq))
        go_wp2_with fail
        go_ret
        exact ⟨ret_eq (by rw [HF.out]; rfl), HB2.out⟩
      | true =>
        have HF := Lib.hid' (HT.out (by rwa [beq_iff_eq] at hq))
        go_wp2_with fail
        go_roundw
        case rel => exact ⟨k + 1, by go_num, by omega, HF, HB2⟩
        case measure => simp [intOf]; omega
    · have HF := Lib.hid' (show (X.map (·.1) == Y.map (·.1)) = true by rw [beq_iff_eq]; exact eq_take (by simpa using HL.out) HNO.out (by simpa using hlt))
      go_wp2_with fail
      go_ret
      exact ⟨ret_eq (by rw [HF.out]; rfl), HB.out⟩

set_option maxHeartbeats 400000 in
theorem cloneZ_any (v : Value) (l : List Int) (w : World) (h : Zs w v l) (hl : l.length ≤ 4398046511104) :
    Calls Tryz.prog 144 #[v] w (OwnR w.heap.size 3 1 l.length (zVs l) w) := by
  have hh := h
  obtain ⟨a, cap, rfl, h1, h2, h0, h3⟩ := h
  have hq := fun w n c => Lib.run_eql_slice_nil (P := Tryz.prog) w 81 3 a n c 0 0 Tryz.underlying81
  cases a with
  | none =>
    obtain rfl : cap = 0 := h0 rfl
    have hl0 : l = [] := List.eq_nil_of_length_eq_zero (by omega)
    subst hl0
    clear h3 h1 h2 h0 hh
    go_enter Tryz.func144, Tryz.ntmps144
    go_wp2
    go_ret
    exact ⟨_, _, rfl, World.ownsRow_nil _ _ _ _, Below.refl _ _⟩
  | some p =>
    clear h3 h0
    have HH : Hid (Zs w (.slice (some p) l.length cap) l) := Lib.hid' hh
    clear hh
    go_enter Tryz.func144, Tryz.ntmps144
    go_wp2_with (at_builtin; refine append_sl etInts rfl (.tmp 5) (.tmp 6) rfl w.heap.size 0 [] _ rfl ?own l.length (zVs l) _ rfl ?src ?len (zVs_one l) ?cy ?base ?_)
    case own => exact own_empty _ _ _
    case src => exact SlV.below HH.out (Nat.le_refl _) ((Below.refl _ _).alloc (Nat.le_refl _) _)
    case len => simp [zVs]
    case cy => omega
    case base => simp
    intro a' c' w1 ho hf
    go_wp2
    go_ret
    refine ⟨a', c', by simp, by simpa using ho, ?_⟩
    exact ((Below.refl w.heap.size w).alloc (Nat.le_refl _) _).trans (hf.below (by simp) (fun k hk => by simp [Act.eval, Value.ownBlock] at hk; omega))
end Go.Proofs.YtkljeefncopodaaGreat
