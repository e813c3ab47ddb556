/- Package slices at []int: those that make or write rows: Grow, Concat, Sort, Compact, DeleteFunc. -/
import Derived.Test.YtkljeefncopodaaGreatSlZ
import Derived.Test.YtkljeefncopodaaGreatSlzL
import Derived.Sort.OwnSortedInts
namespace Go.Proofs.YtkljeefncopodaaGreat
open Go.RowKit Go.Sort
set_option linter.unusedSimpArgs false
set_option linter.unusedVariables false
set_option maxRecDepth 20000

theorem grown_fr {w w' : World} {row : Option Nat} (h : w.grownBy w' row) : Fr (fun k => row = some k) w w' := ⟨h.os, h.tape, h.output, h.size, fun k hk hn => h.block k hk (fun e => hn e.symm)⟩
/-- a row of the call's own is nil, or lies at a block's head -/
theorem own_cases {w : World} {B e size n : Nat} {a : Option Addr} {c : Nat} {xs : List Value} (h : w.ownsRow B e size (.slice a n c) n xs) : (a = none ∧ n = 0 ∧ c = 0 ∧ xs = []) ∨ ∃ g cur, a = some ⟨g, 0, none⟩ ∧ B ≤ g ∧ g < w.heap.size ∧ w.heap[g]? = some (.cells cur e (0, 0)) ∧ n ≤ c ∧ c ≤ maxLen ∧ cur.size = c * size ∧ cur.toList.take (n * size) = xs := by
  obtain ⟨hl, h⟩ := h
  rcases h with ⟨h1, h2⟩ | ⟨g, cap, cur, hv, h1, h2, h3, h4, h5, h6⟩
  · simp only [Value.slice.injEq] at h1
    obtain ⟨rfl, rfl, rfl⟩ := h1
    exact .inl ⟨rfl, rfl, rfl, by simpa using hl⟩
  · simp only [Value.slice.injEq] at hv
    obtain ⟨rfl, _, rfl⟩ := hv
    exact .inr ⟨g, cur, rfl, h1, (Array.getElem?_eq_some_iff.1 h2).1, h2, h3, h4, h5, h6⟩
theorem own_block {w : World} {g n c : Nat} : (Value.slice (some ⟨g, 0, none⟩) n c).ownBlock = some g := rfl

theorem alloc_new (w : World) (o : Obj) : (w.alloc o).heap[w.heap.size]? = some o := by show (w.heap.push _)[w.heap.size]? = _; simp
set_option maxHeartbeats 1000000 in
theorem growZ_any (n : Nat) (hn : n ≤ 1099511627776) (w : World) : Calls Tryz.prog 151 #[.slice none 0 0, .int .i64 n] w (OwnR w.heap.size 3 1 0 [] w) := by
  by_cases h0 : n = 0
  · subst h0
    have h := Any8.slices_Grow_room Tryz.growZ none 0 0 0 w (Nat.le_refl _) (by decide) (by decide) (Nat.le_refl _)
    change Calls Tryz.prog 151 _ _ _ at h
    refine h.mono ?_
    rintro e w' ⟨rfl, rfl⟩
    exact ⟨none, 0, rfl, own_nil _ _ _ _, Below.refl _ _⟩
  · obtain ⟨i, z, a1, a2, a3, a4, a5⟩ := etInts.info
    have h := Any8.slices_Grow_grow Tryz.growZ i z a1 a2 (by rw [a3]; decide) none 0 0 n [] w (Nat.le_refl _) (by omega) (by rw [a4]; omega) (by omega) (by simp) (fun _ => rfl) (fun a h => by cases h)
    change Calls Tryz.prog 151 _ _ _ at h
    refine h.mono ?_
    rintro e w' ⟨rfl, rfl⟩
    refine ⟨_, _, rfl, ⟨by simp, .inr ⟨w.heap.size, _, _, rfl, Nat.le_refl _, alloc_new w.drew _, Nat.zero_le _, grownCap_le_maxLen _ _ _ _ (by unfold maxLen; omega), ?_, by simp⟩⟩, ?_⟩
    · have hg := grownCap_ge w (0 + n) 0 3
      change _ = grownCap w (0 + n) 0 3 * 1
      have e3 : (Tryz.growZ_ren.t 25) = 3 := rfl
      rw [e3]
      simp only [Array.size_append, size_zeroCells, a5]
      simp only [List.size_toArray, List.length_nil]
      omega
    · exact (Below.drew (Below.refl _ _)).alloc (by simp) _

/-- all numbers, list behind list -/
def flatC (X : List Ch) : List Int := (X.map (·.1)).flatten
theorem flat_take {X : List Ch} {k : Nat} (hk : k < X.length) : flatC (X.take (k + 1)) = flatC (X.take k) ++ X[k].1 := by
  unfold flatC; rw [List.take_succ_eq_append_getElem hk]; simp only [List.map_append, List.flatten_append, List.map_cons, List.map_nil, List.flatten_cons, List.flatten_nil, List.append_nil]
theorem flat_take_le (X : List Ch) (k : Nat) : (flatC (X.take k)).length ≤ (flatC X).length := by
  have e : X.map (·.1) = (X.take k).map (·.1) ++ (X.drop k).map (·.1) := by rw [← List.map_append, List.take_append_drop]
  unfold flatC
  rw [e, List.flatten_append, List.length_append]; omega
set_option maxHeartbeats 2000000 in
theorem concatZ_any (X : List Ch) (a : Option Addr) (c : Nat) (w : World) (h : Chs w a c X) (ht : (flatC X).length ≤ 1099511627776) :
    Calls Tryz.prog 105 #[.slice a X.length c] w (OwnR w.heap.size 3 1 (flatC X).length (zVs (flatC X)) w) := by
  have HS := Lib.hid' h
  have hlen := h.len
  clear h
  go_enter Tryz.func105, Tryz.ntmps105
  go_wp2_with fail
  go_loop [3, 11] (fun v3 v11 => ∃ k : Nat, v11 = .int .i64 k ∧ k ≤ X.length ∧ v3 = .int .i64 ((flatC (X.take k)).length)) (fun _ v11 => X.length - (intOf v11).toNat)
  case atStart => exact ⟨0, rfl, Nat.zero_le _, rfl⟩
  case round =>
    obtain ⟨k, rfl, hk, rfl⟩ := hrel
    by_cases hlt : k < X.length
    · obtain ⟨b, off, rfl, hb, hc, hz⟩ := HS.out.at hlt
      have hle := flat_take_le X (k + 1)
      have hle2 : (flatC (X.take (k + 1))).length = (flatC (X.take k)).length + X[k].1.length := by rw [flat_take hlt, List.length_append]
      have HF := Lib.hid' hle2
      have hs : (flatC (X.take k)).length + X[k].1.length ≤ 1099511627776 := by omega
      clear hz hle hle2
      generalize X[k] = y at *
      generalize (flatC (X.take k)).length = s at *
      have hneg : ¬ ((s : Int) + (y.1.length : Int) < 0) := by omega
      go_wp2_with fail
      go_round
      case rel => exact ⟨k + 1, by go_num, by omega, by rw [HF.out]; go_num⟩
      case measure => simp [intOf]; omega
    · obtain rfl : k = X.length := by omega
      have HT := Lib.hid' (List.take_length (l := X))
      rw [HT.out]
      clear hlt
      go_wp2_with fail
      refine (growZ_any _ ht w).mono ?_
      rintro e w1 ⟨a1, c1, rfl, ho, hb⟩
      have HO := Lib.hid' ho
      have HB := Lib.hid' hb
      clear ho hb
      go_wp2_with fail
      go_loopw [6, 27] (fun v6 v27 wr => ∃ (k : Nat) (a' : Option Addr) (c' : Nat), v27 = .int .i64 k ∧ k ≤ X.length ∧ v6 = .slice a' (flatC (X.take k)).length c' ∧ Hid (wr.ownsRow w.heap.size 3 1 (.slice a' (flatC (X.take k)).length c') (flatC (X.take k)).length (zVs (flatC (X.take k)))) ∧ Hid (Below w.heap.size w wr)) (fun _ v27 _ => X.length - (intOf v27).toNat)
      case atStart => exact ⟨0, a1, c1, rfl, Nat.zero_le _, rfl, HO, HB⟩
      case round =>
        obtain ⟨k, a', c', rfl, hk, rfl, HOk, HBk⟩ := hrel
        by_cases hlt : k < X.length
        · obtain ⟨b, off, rfl, hb, hc, hz⟩ := (HS.out.below (Nat.le_refl _) HBk.out).at hlt
          have HF := Lib.hid' (flat_take hlt)
          have HZ := Lib.hid' hz
          have hle := flat_take_le X (k + 1)
          have hle2 : (flatC (X.take (k + 1))).length = (flatC (X.take k)).length + X[k].1.length := by rw [flat_take hlt, List.length_append]
          have hs : (flatC (X.take k)).length + X[k].1.length ≤ 1099511627776 := by omega
          have hbz := HBk.out.size
          clear hz hle hle2
          generalize X[k] = y at *
          generalize flatC (X.take k) = S at *
          go_wp2_with (at_builtin; refine append_sl etInts rfl (.tmp 31) (.tmp 32) rfl w.heap.size S.length (zVs S) _ rfl HOk.out y.1.length (zVs y.1) _ rfl HZ.out (by simp [zVs]) (zVs_one _) (by omega) hbz ?_)
          intro a2 c2 w2 ho2 hf2
          have HO2 := Lib.hid' ho2
          have HB2 := Lib.hid' (hf2.row HOk.out (Nat.le_refl _) hbz HBk.out)
          clear ho2 hf2
          go_wp2_with fail
          go_roundw
          case rel =>
            refine ⟨k + 1, a2, c2, by go_num, by omega, by rw [HF.out, List.length_append], ?_, HB2⟩
            rw [HF.out, List.length_append, zVs_append]
            exact HO2
          case measure => simp [intOf]; omega
        · obtain rfl : k = X.length := by omega
          rw [HT.out] at HOk
          rw [HT.out]
          clear hlt
          go_wp2_with fail
          go_ret
          exact ⟨a', c', rfl, HOk.out, HBk.out⟩

/-- a row's content is changed in place -/
def RowR (B : Nat) (a : Option Addr) (n c : Nat) (l : List Int) (w : World) (w' : World) : Prop := w'.ownsRow B 3 1 (.slice a n c) n (zVs l) ∧ Fr (fun k => (Value.slice a n c).ownBlock = some k) w w'
theorem sortZ_any {B : Nat} (l : List Int) (a : Option Addr) (c : Nat) (w : World) (h : w.ownsRow B 3 1 (.slice a l.length c) l.length (zVs l)) (hl : l.length ≤ 1099511627776) :
    Calls Tryz.prog 148 #[.slice a l.length c] w fun e w' => e = .returned (.tuple #[]) ∧ RowR B a l.length c (sortI l) w w' := by
  rcases own_cases h with ⟨rfl, h1, rfl, _⟩ | ⟨g, cur, rfl, hB, hg, hh, h1, h2, h3, h4⟩
  · obtain rfl : l = [] := List.eq_nil_of_length_eq_zero h1
    have hk := AnyM.slices_Sort_int_none Tryz.sortZ none 0 w
    change Calls Tryz.prog 148 _ _ _ at hk
    refine hk.mono ?_
    rintro e w' ⟨rfl, rfl⟩
    exact ⟨rfl, by rw [show sortI [] = [] from by simp [sortI]]; exact own_nil _ _ _ _, Fr.refl _ _⟩
  · have hk := AnyM.slices_Sort_int Tryz.sortZ g 0 c l w (holds_of_blockI hh (by simpa [zVs] using h4)) hg (by omega)
    change Calls Tryz.prog 148 _ _ _ at hk
    refine hk.mono ?_
    rintro e w' ⟨rfl, q, os, rfl⟩
    refine ⟨rfl, ?_, grown_fr (grownBy_sortedI _)⟩
    exact ownsRow_sortedI (n := q) (ts := sortI l) (List.length_mergeSort _) hB hh h1 h2 h3

/- plain: what Compact leaves of a list in order -/
theorem dedS_snoc : ∀ (l : List Int) (y z : Int), dedS (l ++ [y, z]) = if y = z then dedS (l ++ [y]) else dedS (l ++ [y]) ++ [z]
  | [], y, z => by
    simp only [List.nil_append, dedS]
    split
    · rename_i h; rw [h]
    · rfl
  | [x], y, z => by
    have ih := dedS_snoc [] y z
    simp only [List.nil_append, List.singleton_append] at *
    simp only [dedS] at *
    by_cases h : x = y <;> by_cases h2 : y = z <;> simp [h, h2]
  | x :: x2 :: l, y, z => by
    have ih := dedS_snoc (x2 :: l) y z
    simp only [List.cons_append] at *
    rw [dedS, dedS]
    by_cases h : x = x2
    · simp only [h, if_true]; exact ih
    · simp only [if_neg h]; rw [ih]
      by_cases h2 : y = z <;> simp [h2]
theorem compact_take (l : List Int) : ∀ m, m ≤ l.length → Lib.compactUpTo l.toArray m = dedS (l.take m)
  | 0, _ => rfl
  | 1, h => by
    have e : l.take 1 = [l[0]] := by rw [List.take_succ_eq_append_getElem (i := 0) (by omega)]; rfl
    rw [Lib.compactUpTo_succ, e]
    simp [Lib.keeps, Lib.compactUpTo, dedS]
    rw [List.getElem?_eq_getElem (by omega)]; rfl
  | m + 2, h => by
    have ih := compact_take l (m + 1) (by omega)
    rw [Lib.compactUpTo_succ, ih]
    have e1 : l.take (m + 1) = l.take m ++ [l[m]] := List.take_succ_eq_append_getElem (by omega)
    have e2 : l.take (m + 2) = l.take m ++ [l[m], l[m + 1]] := by rw [List.take_succ_eq_append_getElem (i := m + 1) (by omega), e1, List.append_assoc]; rfl
    have g1 : l.toArray[m + 1]! = l[m + 1] := by rw [getElem!_pos _ _ (by simp; omega)]; simp
    have g0 : l.toArray[m + 1 - 1]! = l[m] := by rw [getElem!_pos _ _ (by simp; omega)]; simp
    rw [e2, dedS_snoc, ← e1]
    unfold Lib.keeps
    rw [g1, g0]
    by_cases hq : l[m] = l[m + 1]
    · simp [hq]
    · have : ¬ l[m + 1] = l[m] := fun h => hq h.symm
      simp [hq, this]
theorem compact_ded (l : List Int) : Lib.compact l = dedS l := by
  have := compact_take l l.length (Nat.le_refl _)
  rw [List.take_length] at this
  exact this
/-- a row is cut, its rest zeros -/
def CutR (B : Nat) (a : Option Addr) (c : Nat) (l : List Int) (F : Nat → Prop) (w : World) (en : Ending) (w' : World) : Prop := en = .returned (.slice a l.length c) ∧ w'.ownsRow B 3 1 (.slice a l.length c) l.length (zVs l) ∧ Fr F w w'
theorem own_cut {w : World} {B g c n q : Nat} {cur : Array Value} {os : Array Obj} {r : List Int} (z : List Int) (hz : r.length + z.length = n) (hB : B ≤ g) (hh : w.heap[g]? = some (.cells cur 3 (0, 0))) (h1 : n ≤ c) (h2 : c ≤ maxLen) (h3 : cur.size = c * 1) :
    (grow (putRow (Value.int .i64) (Sort.ahead w q) g 0 (r ++ z).toArray) os).ownsRow B 3 1 (.slice (some ⟨g, 0, none⟩) r.length c) r.length (zVs r) := by
  have := ownsRow_sortedI (n := q) (os := os) (ss := r ++ z) (ts := r ++ z) (w := w) (base := B) (e := 3) rfl hB hh (by rw [List.length_append]; omega) h2 h3
  rcases own_cases this with ⟨h, _⟩ | ⟨g', cur', he, k1, k2, k3, k4, k5, k6, k7⟩
  · cases h
  · simp only [Option.some.injEq, Addr.mk.injEq, and_true] at he
    subst he
    refine ⟨by simp [zVs], .inr ⟨g, c, cur', rfl, hB, k3, by omega, h2, k6, ?_⟩⟩
    have e : cur'.toList.take (r.length * 1) = (cur'.toList.take ((r ++ z).length * 1)).take r.length := by
      rw [List.take_take, Nat.mul_one, Nat.mul_one]; congr 1; rw [List.length_append]; omega
    rw [e, k7, List.map_append, List.take_append_of_le_length (by simp), List.take_of_length_le (by simp)]; rfl
theorem grow_none (w : World) : grow w #[] = w := by unfold grow; simp
theorem compactZ_any {B : Nat} (l : List Int) (a : Option Addr) (c : Nat) (w : World) (h : w.ownsRow B 3 1 (.slice a l.length c) l.length (zVs l)) (hl : l.length ≤ 1099511627776) :
    Calls Tryz.prog 149 #[.slice a l.length c] w (CutR B a c (dedS l) (fun k => (Value.slice a 0 c).ownBlock = some k) w) := by
  rcases own_cases h with ⟨rfl, h1, rfl, _⟩ | ⟨g, cur, rfl, hB, hg, hh, h1, h2, h3, h4⟩
  · obtain rfl : l = [] := List.eq_nil_of_length_eq_zero h1
    have hk := AnyG.slices_Compact_int_empty Tryz.compZ none 0 w
    change Calls Tryz.prog 149 _ _ _ at hk
    refine hk.mono ?_
    rintro e w' ⟨rfl, rfl⟩
    exact ⟨rfl, own_nil _ _ _ _, Fr.refl _ _⟩
  · have hk := AnyG.slices_Compact_int Tryz.compZ g 0 c l w (holds_of_blockI hh (by simpa [zVs] using h4)) (by omega) h1
    change Calls Tryz.prog 149 _ _ _ at hk
    refine hk.mono ?_
    rintro e w' ⟨rfl, q, rfl⟩
    rw [compact_ded]
    have hle := dedS_len l
    refine ⟨rfl, ?_, ?_⟩
    · have := own_cut (B := B) (os := #[]) (q := q) (r := dedS l) (List.replicate (l.length - (dedS l).length) 0) (n := l.length) (by simp; omega) hB hh h1 h2 h3
      rwa [grow_none] at this
    · have := grown_fr (grownBy_sortedI (w := w) (g := g) (n := q) (os := #[]) (dedS l ++ List.replicate (l.length - (dedS l).length) 0).toArray)
      rwa [grow_none] at this

/-- a function value that tells of numbers and makes nothing -/
def PredG (f : Nat) (cap : Array Value) (p : Int → Bool) (F : Nat → Prop) (w : World) : Prop :=
  ∀ w' x, Fr F w w' → Calls Tryz.prog f (#[.int .i64 x] ++ cap) w' fun e w'' => e = .returned (.bool (p x)) ∧ ∃ q, w'' = w'.drewN q
theorem PredG.z {f : Nat} {cap : Array Value} {p : Int → Bool} {F : Nat → Prop} {w : World} (h : PredG f cap p F w) : PredZ f cap p w := fun w' x hb =>
  (h w' x (Fr.of_below hb)).mono fun e w'' ⟨he, q, hq⟩ => ⟨he, hq ▸ below_drewN' (Below.refl _ _) q⟩
set_option maxHeartbeats 1000000 in
theorem deleteZ_any {B : Nat} (f : Nat) (cap : Array Value) (p : Int → Bool) (l : List Int) (a : Option Addr) (c : Nat) (w : World) (h : w.ownsRow B 3 1 (.slice a l.length c) l.length (zVs l)) (hl : l.length ≤ 1099511627776) (hcf : ∀ args w, (callFunc f args).run Tryz.prog w = .ok (.enter f args) w) (hp : PredG f cap p (fun k => (Value.slice a 0 c).ownBlock = some k) w) :
    Calls Tryz.prog 93 #[.slice a l.length c, .func (.func f) #[] cap] w (CutR B a c (l.filter (fun x => !p x)) (fun k => (Value.slice a 0 c).ownBlock = some k) w) := by
  rcases own_cases h with ⟨rfl, h1, rfl, _⟩ | ⟨g, cur, rfl, hB, hg, hh, h1, h2, h3, h4⟩
  · obtain rfl : l = [] := List.eq_nil_of_length_eq_zero h1
    have HI := Lib.hid' (indexFZ_any f cap p [] none 0 w (SlV.of_own h) hcf (Lib.hid' hp.z))
    clear h hcf hp h1
    go_enter Tryz.func93, Tryz.ntmps93
    go_wp2_with fail
    refine HI.out.mono ?_
    rintro e w' ⟨rfl, hb⟩
    have HB := Lib.hid' hb
    clear hb
    rw [show idxB p [] = -1 from rfl]
    go_wp2_with fail
    go_ret
    exact ⟨rfl, own_nil _ _ _ _, Fr.of_below HB.out⟩
  · have hk := AnyE.slices_DeleteFunc Tryz.delZ (Value.int .i64) (fun _ => rfl) p f cap hcf 0 Tryz.zeroValue3 g 0 c l.toArray w (fun W x hb => hp W x (Fr.of_below hb)) (fun n os dk x hd => hp _ x ?_) (holds_of_blockI hh (by simpa [zVs] using h4)) (by simp; omega) (by simpa using h1)
    · rw [List.size_toArray] at hk
      change Calls Tryz.prog 93 _ _ _ at hk
      refine hk.mono ?_
      rintro e w' ⟨rfl, q, rfl⟩
      have hle := List.length_filter_le (fun x => !p x) l
      refine ⟨rfl, ?_, ?_⟩
      · have := own_cut (B := B) (os := #[]) (q := q) (r := l.filter (fun x => !p x)) (List.replicate (l.length - (l.filter (fun x => !p x)).length) 0) (n := l.length) (by simp; omega) hB hh h1 h2 h3
        rwa [grow_none] at this
      · have := grown_fr (grownBy_sortedI (w := w) (g := g) (n := q) (os := #[]) (l.filter (fun x => !p x) ++ List.replicate (l.length - (l.filter (fun x => !p x)).length) 0).toArray)
        rwa [grow_none] at this
    · exact grown_fr (grownBy_sortedI dk)
end Go.Proofs.YtkljeefncopodaaGreat
