/- Layer 11 (proj): projections of the call's own; Copy. -/
import Derived.Test.YtkljeefncopodaaGreatPrjA
import Derived.Laws.OwnMore
import Derived.Test.YtkljeefncopodaaGreatStep
namespace Go.Proofs.YtkljeefncopodaaGreat
open Go.RowKit
set_option linter.unusedSimpArgs false
set_option linter.unusedVariables false
set_option maxRecDepth 20000

def ApartCh (x y : Ch) : Prop := ∀ b, (chV x).ownBlock = some b → ¬ (chV y).ownBlock = some b
/-- a slice of slices of the call's own, each list in a block of its own -/
structure OwnJ (w : World) (B : Nat) (a : Option Addr) (c : Nat) (K : List Ch) : Prop where
  row : w.ownsRow B 81 1 (.slice a K.length c) K.length (K.map chV)
  each : ∀ x ∈ K, w.ownsRow B 3 1 (chV x) x.1.length (zVs x.1)
  apart : K.Pairwise ApartCh
theorem OwnJ.chs {w : World} {B : Nat} {a : Option Addr} {c : Nat} {K : List Ch} (h : OwnJ w B a c K) : Chs w a c K := ⟨SlV.of_own h.row, fun x hx => SlV.of_own (h.each x hx)⟩
theorem OwnJ.below {w w' : World} {B : Nat} {a : Option Addr} {c : Nat} {K : List Ch} (h : OwnJ w B a c K) {C : Nat} (hC : w.heap.size ≤ C) (hb : Below C w w') : OwnJ w' B a c K :=
  ⟨own_below h.row hC hb, fun x hx => own_below (h.each x hx) hC hb, h.apart⟩
theorem OwnJ.fr {F : Nat → Prop} {w w' : World} {B : Nat} {a : Option Addr} {c : Nat} {K : List Ch} (h : OwnJ w B a c K) (hf : Fr F w w') (hF : ∀ k, F k → k < B) : OwnJ w' B a c K := by
  have hD : ∀ {e n : Nat} {v : Value} {xs : List Value}, w.ownsRow B e 1 v n xs → SlIn (fun k => ¬ F k) v := fun ho => own_slin ho (fun b hb hf' => by have := (own_blk ho hb).1; have := hF _ hf'; omega)
  exact ⟨own_fr h.row hf (hD h.row), fun x hx => own_fr (h.each x hx) hf (hD (h.each x hx)), h.apart⟩
theorem OwnJ.base {w : World} {B B' : Nat} {a : Option Addr} {c : Nat} {K : List Ch} (h : OwnJ w B a c K) (hB : B' ≤ B) : OwnJ w B' a c K :=
  ⟨own_base h.row hB, fun x hx => own_base (h.each x hx) hB, h.apart⟩
theorem OwnJ.nil (w : World) (B : Nat) : OwnJ w B none 0 [] := ⟨own_nil _ _ _ _, by simp, .nil⟩
theorem own_slice {w : World} {B e size n : Nat} {v : Value} {xs : List Value} (h : w.ownsRow B e size v n xs) : (∃ a c, v = .slice a n c) := own_shape h
/-- one list more -/
theorem OwnJ.push {w w1 w2 : World} {B : Nat} {a a2 : Option Addr} {c c2 : Nat} {K : List Ch} (h : OwnJ w B a c K) (hB : B ≤ w.heap.size) (y : Ch) (hb1 : Below w.heap.size w w1) (hy : w1.ownsRow w.heap.size 3 1 (chV y) y.1.length (zVs y.1))
    (hf : Fr (fun k => (Value.slice a K.length c).ownBlock = some k) w1 w2) (ho : w2.ownsRow B 81 1 (.slice a2 (K.length + 1) c2) (K.length + 1) (K.map chV ++ [chV y])) : OwnJ w2 B a2 c2 (K ++ [y]) := by
  have h1 := h.below (Nat.le_refl _) hb1
  have hne : 3 ≠ 81 := by decide
  have ap : ∀ {B' : Nat} {z : Ch}, w1.ownsRow B' 3 1 (chV z) z.1.length (zVs z.1) → w2.ownsRow B' 3 1 (chV z) z.1.length (zVs z.1) := fun hz => own_fr hz hf (own_apart hz h1.row hne)
  refine ⟨by rw [List.map_append, List.length_append]; exact ho, fun x hx => ?_, ?_⟩
  · rcases List.mem_append.1 hx with hx | hx
    · exact ap (h1.each x hx)
    · simp only [List.mem_singleton] at hx; subst hx; exact own_base (ap hy) hB
  · refine List.pairwise_append.2 ⟨h.apart, List.pairwise_singleton _ _, fun x hx z hz => ?_⟩
    simp only [List.mem_singleton] at hz; subst hz
    intro b e1 e2
    have := (own_blk (h.each x hx) e1).2
    have := (own_blk hy e2).1
    omega
/-- one list is another one -/
theorem OwnJ.set {w w1 : World} {B : Nat} {a : Option Addr} {c : Nat} {K : List Ch} (h : OwnJ w B a c K) {i : Nat} (hi : i < K.length) (y : Ch) {g : Nat} (hg : a = some ⟨g, 0, none⟩) (hf : Fr (fun k => (chV K[i]).ownBlock = some k) w w1)
    (hy : w1.ownsRow B 3 1 (chV y) y.1.length (zVs y.1)) (hb : ∀ b, (chV y).ownBlock = some b → (chV K[i]).ownBlock = some b ∨ w.heap.size ≤ b) : OwnJ (w1.setCell ⟨g, i, none⟩ (chV y)) B a c (K.set i y) := by
  subst hg
  have hne : 81 ≠ 3 := by decide
  have hr1 : w1.ownsRow B 81 1 (.slice (some ⟨g, 0, none⟩) K.length c) K.length (K.map chV) := own_fr h.row hf (own_apart h.row (h.each _ (List.getElem_mem hi)) hne)
  have hs := hr1.stored i (chV y)
  have hx : ∀ {z : Ch}, w1.ownsRow B 3 1 (chV z) z.1.length (zVs z.1) → (w1.setCell ⟨g, i, none⟩ (chV y)).ownsRow B 3 1 (chV z) z.1.length (zVs z.1) := fun {z} hz =>
    own_fr hz (fr_set _ _ _ _) ((own_apart hz hr1 (by decide)).mono (fun k hk e => hk (by rw [e]; rfl)))
  have hold : ∀ j (hj : j < K.length), j ≠ i → w1.ownsRow B 3 1 (chV K[j]) K[j].1.length (zVs K[j].1) := by
    intro j hj hji
    refine own_fr (h.each _ (List.getElem_mem hj)) hf (own_slin (h.each _ (List.getElem_mem hj)) (fun b e1 e2 => ?_))
    rcases Nat.lt_or_ge i j with hlt | hge
    · exact List.pairwise_iff_getElem.1 h.apart i j hi hj hlt b e2 e1
    · exact List.pairwise_iff_getElem.1 h.apart j i hj hi (by omega) b e1 e2
  refine ⟨?_, fun z hz => ?_, ?_⟩
  · rw [List.length_set, List.map_set]; exact hs.1
  · obtain ⟨j, hj, rfl⟩ := List.getElem_of_mem hz
    have hj' : j < K.length := by simpa using hj
    rw [List.getElem_set]
    split
    · exact hx hy
    · rename_i hij; exact hx (hold j hj' (fun e => hij e.symm))
  · refine List.pairwise_iff_getElem.2 fun j k hj hk hjk => ?_
    have hj' : j < K.length := by simpa using hj
    have hk' : k < K.length := by simpa using hk
    rw [List.getElem_set, List.getElem_set]
    have key : ∀ (m : Nat) (hm : m < K.length), m ≠ i → ∀ b, (chV K[m]).ownBlock = some b → ¬ (chV y).ownBlock = some b := by
      intro m hm hmi b e1 e2
      rcases hb b e2 with e3 | e3
      · rcases Nat.lt_or_ge i m with hlt | hge
        · exact List.pairwise_iff_getElem.1 h.apart i m hi hm hlt b e3 e1
        · exact List.pairwise_iff_getElem.1 h.apart m i hm hi (by omega) b e1 e3
      · have := (own_blk (h.each _ (List.getElem_mem hm)) e1).2; omega
    split
    · rename_i h1; subst h1
      split
      · rename_i h2; omega
      · intro b e1 e2; exact key k hk' (by omega) b e2 e1
    · rename_i h1
      split
      · rename_i h2; subst h2; exact key j hj' (by omega)
      · exact List.pairwise_iff_getElem.1 h.apart j k hj' hk' hjk
theorem OwnJ.at {w : World} {B : Nat} {a : Option Addr} {c : Nat} {K : List Ch} (h : OwnJ w B a c K) {i : Nat} (hi : i < K.length) : ∃ g, a = some ⟨g, 0, none⟩ ∧ B ≤ g ∧ g < w.heap.size ∧ w.cell? ⟨g, i, none⟩ = some (.slice K[i].2.1 K[i].1.length K[i].2.2) ∧ w.frozen? ⟨g, i, none⟩ = false := by
  rcases own_cases h.row with ⟨_, h1, _⟩ | ⟨g, cur, rfl, h1, h2, _⟩
  · omega
  · refine ⟨g, rfl, h1, h2, ?_, h.row.frozenAt i⟩
    rw [h.row.cellAt i (by omega)]
    rw [List.getElem?_map, List.getElem?_eq_getElem hi]; rfl
theorem OwnJ.blk {w : World} {B : Nat} {a : Option Addr} {c : Nat} {K : List Ch} (h : OwnJ w B a c K) {k : Nat} (hk : (Value.slice a K.length c).ownBlock = some k) : B ≤ k ∧ k < w.heap.size := own_blk h.row hk

theorem OwnJ.put {wr w7 : World} {B M g k t c : Nat} {R : List Value} {Ks : List Ch} (HJ : OwnJ wr B (some ⟨g, 0, none⟩) c Ks) (hB : B ≤ wr.heap.size) (hk : k < Ks.length) {x : Ch} (hx : Ks[k] = x) (y : Ch) (HX : BoxW M R t wr) (h1 : t ≠ 3) (h2 : t ≠ 81)
    (hf : Fr (fun q => (chV x).ownBlock = some q) wr w7) (ho : w7.ownsRow B 3 1 (chV y) y.1.length (zVs y.1)) (hb : ∀ b, (chV y).ownBlock = some b → (chV x).ownBlock = some b ∨ wr.heap.size ≤ b) :
    (w7.cell? ⟨g, k, none⟩ = some (chV x) ∧ w7.frozen? ⟨g, k, none⟩ = false ∧ BoxW M R t w7 ∧ M ≠ g) ∧ OwnJ (w7.setCell ⟨g, k, none⟩ (chV y)) B (some ⟨g, 0, none⟩) c (Ks.set k y) ∧ BoxW M R t (w7.setCell ⟨g, k, none⟩ (chV y)) ∧ ∀ w3, Below B w3 wr → Below B w3 (w7.setCell ⟨g, k, none⟩ (chV y)) := by
  subst hx
  have hne : 81 ≠ 3 := by decide
  have hro := HJ.each _ (List.getElem_mem hk)
  have hr1 : w7.ownsRow B 81 1 (.slice (some ⟨g, 0, none⟩) Ks.length c) Ks.length (Ks.map chV) := own_fr HJ.row hf (own_apart HJ.row hro hne)
  have hg : B ≤ g ∧ g < wr.heap.size := HJ.blk rfl
  have hMg : M ≠ g := fun h => own_not_box HJ.row HX h2 (by rw [h]; rfl)
  have hM := own_not_box hro HX h1
  refine ⟨⟨?_, hr1.frozenAt k, HX.fr hf hM, hMg⟩, HJ.set hk y rfl hf ho hb, (HX.fr hf hM).fr (fr_set _ _ _ _) hMg, fun w3 h3 => ?_⟩
  · rw [hr1.cellAt k (by omega), List.getElem?_map, List.getElem?_eq_getElem hk]; rfl
  · exact (h3.trans (hf.below hB (fun q hq => (own_blk hro hq).1))).setCell (by simp; exact hg.1) _

theorem ret_cell2 (a b : Value) : ∀ u ∈ [a, b], u = a ∨ u = b := by simp
theorem chs_take {X : List Ch} {k : Nat} (hk : k < X.length) : (X.take (k + 1)).map (·.1) = (X.take k).map (·.1) ++ [X[k].1] := by
  rw [List.take_succ_eq_append_getElem hk, List.map_append]; rfl
/-- one apart -/
def CopyJR (X : List Ch) (e : Int) (w : World) (en : Ending) (w' : World) : Prop :=
  ∃ a c K, en = .returned (pjV e a c K) ∧ OwnJ w' w.heap.size a c K ∧ K.map (·.1) = X.map (·.1) ∧ Below w.heap.size w w'
set_option maxHeartbeats 2000000 in
theorem pcopy_any (e : Int) (a : Option Addr) (c : Nat) (X : List Ch) (w : World) (h : Chs w a c X) (hn : X.length ≤ 1048576) (hl : ∀ x ∈ X, x.1.length ≤ 1048576) :
    Calls Tryz.prog 92 #[pjV e a c X] w (CopyJR X e w) := by
  have HS := Lib.hid' h
  have HL := Lib.hid' hl
  have hlen := h.len
  clear h hl
  unfold pjV
  go_enter Tryz.func92, Tryz.ntmps92
  go_wp2_with fail
  obtain ⟨w3, hw3⟩ : ∃ w3, w3 = (((w.alloc (.cells #[.int .i64 e, .slice a X.length c] 25)).alloc (.cells #[.int .i64 0, .slice none 0 0] 25)).alloc (.cells #[.int .i64 e, .slice none 0 0] 25)) := ⟨_, rfl⟩
  have hz : w3.heap.size = w.heap.size + 3 := by rw [hw3]; simp
  have HB3 := Lib.hid' (show Below w.heap.size w w3 by rw [hw3]; go_grown)
  have HX := Lib.hid' (show BoxW (w.heap.size + 2) [.int .i64 e, .slice none 0 0] 25 w3 by rw [hw3]; have := BoxW.start ((w.alloc (.cells #[.int .i64 e, .slice a X.length c] 25)).alloc (.cells #[.int .i64 0, .slice none 0 0] 25)) [.int .i64 e, .slice none 0 0] 25; simpa using this)
  have k10 : w3.cell? ⟨w.heap.size + 1, 0, none⟩ = some (.int .i64 0) := by rw [hw3]; simp [go_sem]
  have k11 : w3.cell? ⟨w.heap.size + 1, 1, none⟩ = some (.slice none 0 0) := by rw [hw3]; simp [go_sem]
  have g10 : w3.frozen? ⟨w.heap.size + 1, 0, none⟩ = false := by rw [hw3]; simp [go_sem]
  have g11 : w3.frozen? ⟨w.heap.size + 1, 1, none⟩ = false := by rw [hw3]; simp [go_sem]
  have K1 := Lib.hid' (And.intro k10 (And.intro k11 (And.intro g10 g11)))
  rw [← hw3]
  have HZ := Lib.hid' hz
  clear k10 k11 g10 g11 hw3 hz
  go_loopw [12] (fun v12 wr => ∃ (k : Nat) (a' : Option Addr) (c' : Nat) (Ks : List Ch), v12 = .int .i64 k ∧ k ≤ X.length ∧ Hid (Ks.map (·.1) = (X.take k).map (·.1)) ∧ Hid (BoxW (w.heap.size + 2) [.int .i64 e, .slice a' Ks.length c'] 25 wr) ∧ Hid (OwnJ wr (w.heap.size + 3) a' c' Ks) ∧ Hid (Fr (fun q => q = w.heap.size + 2) w3 wr)) (fun v12 _ => X.length - (intOf v12).toNat)
  case atStart => exact ⟨0, none, 0, [], rfl, Nat.zero_le _, Lib.hid' rfl, HX, Lib.hid' (OwnJ.nil _ _), Lib.hid' (Fr.refl _ _)⟩
  case round =>
    obtain ⟨k, a', c', Ks, rfl, hk, HK, HBX, HJ, HF⟩ := hrel
    have hz := HZ.out
    have hlw : w.heap.size + 3 ≤ wr.heap.size := by rw [← hz]; exact HF.out.size
    have HBW := Lib.hid' (HB3.out.trans (HF.out.below (B := w.heap.size) (by omega) (fun q hq => by omega)))
    clear hz
    have x1 := HBX.out.box.1 1 _ rfl
    have x0 := HBX.out.box.1 0 _ rfl
    have f1 := HBX.out.box.2.1 1
    by_cases hlt : k < X.length
    · obtain ⟨b, off, rfl, hb, hc, hz'⟩ := (HS.out.below (Nat.le_refl _) HBW.out).at hlt
      have HZX := Lib.hid' hz'
      have HN := Lib.hid' (chs_take hlt)
      have hxl := HL.out _ (List.getElem_mem hlt)
      have hKl : Ks.length ≤ 1048576 := by have := congrArg List.length HK.out; simp at this; omega
      clear hz'
      generalize X[k] = x at *
      obtain ⟨xs, xa, xc⟩ := x
      simp only at HZX hxl hc
      go_wp2_with fail
      have hne2 : ¬ (Value.slice a' Ks.length c').ownBlock = some (w.heap.size + 2) := by intro h; have := (HJ.out.blk h).1; omega

      refine wp_region_held_drew (S := (fun _ => True)) (by kernel_rfl) trivial (fun hH0 => ?_)
      refine wpAnyH_take (i := 0) (oi := _) (v := .pointer (some ⟨w.heap.size + 2, 1, none⟩)) rfl (by kernel_rfl) (by kernel_rfl) (by kernel_rfl) (fun _ _ _ h => h) (Or.inl ⟨by rfl, ?_⟩) hH0 ?_
      · intro w hSw; go_simp
      simp only [Act.put, List.getElem_toArray, List.getElem_cons_zero, List.getElem_cons_succ, List.setIfInBounds_toArray, List.set_cons_zero, List.set_cons_succ]
      refine wpAnyH_take (i := 2) (oi := _) (v := .slice xa xs.length xc) rfl (by kernel_rfl) (by kernel_rfl) (by kernel_rfl) (fun _ _ _ h => h) (Or.inl ⟨by rfl, ?_⟩) hH0 ?_
      · intro w hSw; go_simp
      simp only [Act.put, List.getElem_toArray, List.getElem_cons_zero, List.getElem_cons_succ, List.setIfInBounds_toArray, List.set_cons_zero, List.set_cons_succ]
      refine wpAnyH_ready (rs := [1, 3]) (by kernel_rfl) (by simp) (AllReadyH.cons (o := _) rfl (fun K hK => ?_) (AllReadyH.cons (o := _) rfl (fun K hK => ?_) AllReadyH.nil))
      · skip
        go_simp
        refine hK.out _ _ ?_ (fun hH1 => ?_)
        · trivial
        clear hK K
        refine wpAnyH_ready (rs := [3]) (by kernel_rfl) (by simp) (AllReadyH.cons (o := _) rfl (fun K hK => ?_) AllReadyH.nil)
        go_simp
        refine (cloneZ_any _ xs _ (SlV.below HZX.out (Nat.le_refl _) (Below.drew (Below.refl _ _))) (by omega)).mono ?_
        rintro en w5 ⟨a5, c5, rfl, ho5, hb5'⟩
        have hb5 : Below wr.heap.size wr w5 := (Below.drew (Below.refl _ _)).trans hb5'
        have HB5 := Lib.hid' hb5
        have HO5 := Lib.hid' (show w5.ownsRow wr.heap.size 3 1 (.slice a5 xs.length c5) xs.length (zVs xs) from ho5)
        have z1 := (hb5.cell (p := ⟨w.heap.size + 2, 1, none⟩) (by show w.heap.size + 2 < wr.heap.size; omega)).trans x1
        have g1 := (hb5.frozen (p := ⟨w.heap.size + 2, 1, none⟩) (by show w.heap.size + 2 < wr.heap.size; omega)).trans f1
        have hl5 := hb5.size
        have hl52 : w.heap.size + 2 < w5.heap.size := by omega
        clear ho5 hb5 hb5'
        refine hK.out _ _ ?_ (fun hH2 => ?_)
        · trivial
        clear hK K
        refine wpAnyH_ready (rs := [4]) (by kernel_rfl) (by simp) (AllReadyH.cons (o := _) rfl (fun K hK => ?_) AllReadyH.nil)
        go_simp
        refine hK.out _ _ ?_ (fun hH3 => ?_)
        · trivial
        clear hK K
        refine wpAnyH_ready (rs := [5]) (by kernel_rfl) (by simp) (AllReadyH.cons (o := _) rfl (fun K hK => ?_) AllReadyH.nil)
        refine step_one etRows rfl (.tmp 17) (.tmp 20) rfl [.slice a5 xs.length c5] rfl (w.heap.size + 3) Ks.length (Ks.map chV) _ rfl (HJ.out.below (Nat.le_refl _) HB5.out).row rfl (by simp [Value.oneCell']) (by omega) (by omega) ?_
        intro a9 c9 w9 ho9 hf9
        have HO9 := Lib.hid' ho9
        have HF9 := Lib.hid' hf9
        have y1 := hf9.cell z1 hne2
        have g9 : w9.frozen? ⟨w.heap.size + 2, 1, none⟩ = false := by rw [← g1]; simp only [World.frozen?, hf9.block _ (by omega) hne2]
        clear ho9 hf9
        refine hK.out _ _ ?_ (fun hH4 => ?_)
        · trivial
        clear hK K
        refine wpAnyH_take (i := 6) (oi := _) (v := .pointer (some ⟨w.heap.size + 2, 1, none⟩)) rfl (by kernel_rfl) (by kernel_rfl) (by kernel_rfl) (fun _ _ _ h => h) (Or.inl ⟨by rfl, ?_⟩) hH4 ?_
        · intro w hSw; go_simp
        simp only [Act.put, List.getElem_toArray, List.getElem_cons_zero, List.getElem_cons_succ, List.setIfInBounds_toArray, List.set_cons_zero, List.set_cons_succ]
        refine wpAnyH_ready (rs := [7]) (by kernel_rfl) (by simp) (AllReadyH.cons (o := _) rfl (fun K hK => ?_) AllReadyH.nil)
        go_simp
        refine hK.out _ _ ?_ (fun hH5 => ?_)
        · trivial
        clear hK K
        refine wpAnyH_done (by kernel_rfl) ?_ _
        have HJ9 := Lib.hid' (HJ.out.push (y := (xs, a5, c5)) hlw HB5.out HO5.out HF9.out HO9.out)
        have HB9 := Lib.hid' (show BoxW (w.heap.size + 2) [.int .i64 e, .slice a' Ks.length c'] 25 w9 from (HBX.out.below (Nat.le_refl _) HB5.out).fr HF9.out hne2)
        have HX9 := Lib.hid' (show BoxW (w.heap.size + 2) [.int .i64 e, .slice a9 (Ks.length + 1) c9] 25 (w9.setCell ⟨w.heap.size + 2, 1, none⟩ (.slice a9 (Ks.length + 1) c9)) from heap_setCell_same _ _ 1 _ _ _ HB9.out)
        have HFX := Lib.hid' (show Fr (fun q => q = w.heap.size + 2) w3 (w9.setCell ⟨w.heap.size + 2, 1, none⟩ (.slice a9 (Ks.length + 1) c9)) from ((HF.out.trans_below HB5.out).trans HF9.out (fun i hi => by have := (HJ.out.blk hi).1; have := HZ.out; exact .inr (by omega))).trans (fr_set _ _ _ _) (fun i hi => .inl hi))
        have HJX := Lib.hid' (HJ9.out.fr (fr_set w9 (w.heap.size + 2) 1 (.slice a9 (Ks.length + 1) c9)) (fun q hq => by omega))
        have HL9 := Lib.hid' (show (Ks ++ [(xs, a5, c5)]).length = Ks.length + 1 from by simp)
        generalize w9.setCell ⟨w.heap.size + 2, 1, none⟩ (.slice a9 (Ks.length + 1) c9) = wx at *
        go_wp2_with fail
        go_roundw
        case rel => exact ⟨k + 1, a9, c9, Ks ++ [(xs, a5, c5)], by go_num, by omega, Lib.hid' (by rw [List.map_append, HK.out, HN.out]; rfl), Lib.hid' (by rw [HL9.out]; exact HX9.out), HJX, HFX⟩
        case measure => simp [intOf]; omega
      · skip
        go_simp
        refine (cloneZ_any _ xs _ (SlV.below HZX.out (Nat.le_refl _) (Below.drew (Below.refl _ _))) (by omega)).mono ?_
        rintro en w5 ⟨a5, c5, rfl, ho5, hb5'⟩
        have hb5 : Below wr.heap.size wr w5 := (Below.drew (Below.refl _ _)).trans hb5'
        have HB5 := Lib.hid' hb5
        have HO5 := Lib.hid' (show w5.ownsRow wr.heap.size 3 1 (.slice a5 xs.length c5) xs.length (zVs xs) from ho5)
        have z1 := (hb5.cell (p := ⟨w.heap.size + 2, 1, none⟩) (by show w.heap.size + 2 < wr.heap.size; omega)).trans x1
        have g1 := (hb5.frozen (p := ⟨w.heap.size + 2, 1, none⟩) (by show w.heap.size + 2 < wr.heap.size; omega)).trans f1
        have hl5 := hb5.size
        have hl52 : w.heap.size + 2 < w5.heap.size := by omega
        clear ho5 hb5 hb5'
        refine hK.out _ _ ?_ (fun hH1 => ?_)
        · trivial
        clear hK K
        refine wpAnyH_ready (rs := [1, 4]) (by kernel_rfl) (by simp) (AllReadyH.cons (o := _) rfl (fun K hK => ?_) (AllReadyH.cons (o := _) rfl (fun K hK => ?_) AllReadyH.nil))
        · skip
          go_simp
          refine hK.out _ _ ?_ (fun hH2 => ?_)
          · trivial
          clear hK K
          refine wpAnyH_ready (rs := [4]) (by kernel_rfl) (by simp) (AllReadyH.cons (o := _) rfl (fun K hK => ?_) AllReadyH.nil)
          go_simp
          refine hK.out _ _ ?_ (fun hH3 => ?_)
          · trivial
          clear hK K
          refine wpAnyH_ready (rs := [5]) (by kernel_rfl) (by simp) (AllReadyH.cons (o := _) rfl (fun K hK => ?_) AllReadyH.nil)
          refine step_one etRows rfl (.tmp 17) (.tmp 20) rfl [.slice a5 xs.length c5] rfl (w.heap.size + 3) Ks.length (Ks.map chV) _ rfl (HJ.out.below (Nat.le_refl _) HB5.out).row rfl (by simp [Value.oneCell']) (by omega) (by omega) ?_
          intro a9 c9 w9 ho9 hf9
          have HO9 := Lib.hid' ho9
          have HF9 := Lib.hid' hf9
          have y1 := hf9.cell z1 hne2
          have g9 : w9.frozen? ⟨w.heap.size + 2, 1, none⟩ = false := by rw [← g1]; simp only [World.frozen?, hf9.block _ (by omega) hne2]
          clear ho9 hf9
          refine hK.out _ _ ?_ (fun hH4 => ?_)
          · trivial
          clear hK K
          refine wpAnyH_take (i := 6) (oi := _) (v := .pointer (some ⟨w.heap.size + 2, 1, none⟩)) rfl (by kernel_rfl) (by kernel_rfl) (by kernel_rfl) (fun _ _ _ h => h) (Or.inl ⟨by rfl, ?_⟩) hH4 ?_
          · intro w hSw; go_simp
          simp only [Act.put, List.getElem_toArray, List.getElem_cons_zero, List.getElem_cons_succ, List.setIfInBounds_toArray, List.set_cons_zero, List.set_cons_succ]
          refine wpAnyH_ready (rs := [7]) (by kernel_rfl) (by simp) (AllReadyH.cons (o := _) rfl (fun K hK => ?_) AllReadyH.nil)
          go_simp
          refine hK.out _ _ ?_ (fun hH5 => ?_)
          · trivial
          clear hK K
          refine wpAnyH_done (by kernel_rfl) ?_ _
          have HJ9 := Lib.hid' (HJ.out.push (y := (xs, a5, c5)) hlw HB5.out HO5.out HF9.out HO9.out)
          have HB9 := Lib.hid' (show BoxW (w.heap.size + 2) [.int .i64 e, .slice a' Ks.length c'] 25 w9 from (HBX.out.below (Nat.le_refl _) HB5.out).fr HF9.out hne2)
          have HX9 := Lib.hid' (show BoxW (w.heap.size + 2) [.int .i64 e, .slice a9 (Ks.length + 1) c9] 25 (w9.setCell ⟨w.heap.size + 2, 1, none⟩ (.slice a9 (Ks.length + 1) c9)) from heap_setCell_same _ _ 1 _ _ _ HB9.out)
          have HFX := Lib.hid' (show Fr (fun q => q = w.heap.size + 2) w3 (w9.setCell ⟨w.heap.size + 2, 1, none⟩ (.slice a9 (Ks.length + 1) c9)) from ((HF.out.trans_below HB5.out).trans HF9.out (fun i hi => by have := (HJ.out.blk hi).1; have := HZ.out; exact .inr (by omega))).trans (fr_set _ _ _ _) (fun i hi => .inl hi))
          have HJX := Lib.hid' (HJ9.out.fr (fr_set w9 (w.heap.size + 2) 1 (.slice a9 (Ks.length + 1) c9)) (fun q hq => by omega))
          have HL9 := Lib.hid' (show (Ks ++ [(xs, a5, c5)]).length = Ks.length + 1 from by simp)
          generalize w9.setCell ⟨w.heap.size + 2, 1, none⟩ (.slice a9 (Ks.length + 1) c9) = wx at *
          go_wp2_with fail
          go_roundw
          case rel => exact ⟨k + 1, a9, c9, Ks ++ [(xs, a5, c5)], by go_num, by omega, Lib.hid' (by rw [List.map_append, HK.out, HN.out]; rfl), Lib.hid' (by rw [HL9.out]; exact HX9.out), HJX, HFX⟩
          case measure => simp [intOf]; omega
        · skip
          go_simp
          refine hK.out _ _ ?_ (fun hH2 => ?_)
          · trivial
          clear hK K
          refine wpAnyH_ready (rs := [1]) (by kernel_rfl) (by simp) (AllReadyH.cons (o := _) rfl (fun K hK => ?_) AllReadyH.nil)
          go_simp
          refine hK.out _ _ ?_ (fun hH3 => ?_)
          · trivial
          clear hK K
          refine wpAnyH_ready (rs := [5]) (by kernel_rfl) (by simp) (AllReadyH.cons (o := _) rfl (fun K hK => ?_) AllReadyH.nil)
          refine step_one etRows rfl (.tmp 17) (.tmp 20) rfl [.slice a5 xs.length c5] rfl (w.heap.size + 3) Ks.length (Ks.map chV) _ rfl (HJ.out.below (Nat.le_refl _) HB5.out).row rfl (by simp [Value.oneCell']) (by omega) (by omega) ?_
          intro a9 c9 w9 ho9 hf9
          have HO9 := Lib.hid' ho9
          have HF9 := Lib.hid' hf9
          have y1 := hf9.cell z1 hne2
          have g9 : w9.frozen? ⟨w.heap.size + 2, 1, none⟩ = false := by rw [← g1]; simp only [World.frozen?, hf9.block _ (by omega) hne2]
          clear ho9 hf9
          refine hK.out _ _ ?_ (fun hH4 => ?_)
          · trivial
          clear hK K
          refine wpAnyH_take (i := 6) (oi := _) (v := .pointer (some ⟨w.heap.size + 2, 1, none⟩)) rfl (by kernel_rfl) (by kernel_rfl) (by kernel_rfl) (fun _ _ _ h => h) (Or.inl ⟨by rfl, ?_⟩) hH4 ?_
          · intro w hSw; go_simp
          simp only [Act.put, List.getElem_toArray, List.getElem_cons_zero, List.getElem_cons_succ, List.setIfInBounds_toArray, List.set_cons_zero, List.set_cons_succ]
          refine wpAnyH_ready (rs := [7]) (by kernel_rfl) (by simp) (AllReadyH.cons (o := _) rfl (fun K hK => ?_) AllReadyH.nil)
          go_simp
          refine hK.out _ _ ?_ (fun hH5 => ?_)
          · trivial
          clear hK K
          refine wpAnyH_done (by kernel_rfl) ?_ _
          have HJ9 := Lib.hid' (HJ.out.push (y := (xs, a5, c5)) hlw HB5.out HO5.out HF9.out HO9.out)
          have HB9 := Lib.hid' (show BoxW (w.heap.size + 2) [.int .i64 e, .slice a' Ks.length c'] 25 w9 from (HBX.out.below (Nat.le_refl _) HB5.out).fr HF9.out hne2)
          have HX9 := Lib.hid' (show BoxW (w.heap.size + 2) [.int .i64 e, .slice a9 (Ks.length + 1) c9] 25 (w9.setCell ⟨w.heap.size + 2, 1, none⟩ (.slice a9 (Ks.length + 1) c9)) from heap_setCell_same _ _ 1 _ _ _ HB9.out)
          have HFX := Lib.hid' (show Fr (fun q => q = w.heap.size + 2) w3 (w9.setCell ⟨w.heap.size + 2, 1, none⟩ (.slice a9 (Ks.length + 1) c9)) from ((HF.out.trans_below HB5.out).trans HF9.out (fun i hi => by have := (HJ.out.blk hi).1; have := HZ.out; exact .inr (by omega))).trans (fr_set _ _ _ _) (fun i hi => .inl hi))
          have HJX := Lib.hid' (HJ9.out.fr (fr_set w9 (w.heap.size + 2) 1 (.slice a9 (Ks.length + 1) c9)) (fun q hq => by omega))
          have HL9 := Lib.hid' (show (Ks ++ [(xs, a5, c5)]).length = Ks.length + 1 from by simp)
          generalize w9.setCell ⟨w.heap.size + 2, 1, none⟩ (.slice a9 (Ks.length + 1) c9) = wx at *
          go_wp2_with fail
          go_roundw
          case rel => exact ⟨k + 1, a9, c9, Ks ++ [(xs, a5, c5)], by go_num, by omega, Lib.hid' (by rw [List.map_append, HK.out, HN.out]; rfl), Lib.hid' (by rw [HL9.out]; exact HX9.out), HJX, HFX⟩
          case measure => simp [intOf]; omega

    · obtain rfl : k = X.length := by omega
      have HK' := Lib.hid' (show Ks.map (·.1) = X.map (·.1) by have := HK.out; rwa [List.take_length] at this)
      have z10 := ((bcell (HF.out.below (B := w.heap.size + 2) (by have := HZ.out; omega) (fun q hq => by omega))).1 _ _ (by omega)).trans K1.out.1
      have z11 := ((bcell (HF.out.below (B := w.heap.size + 2) (by have := HZ.out; omega) (fun q hq => by omega))).1 _ _ (by omega)).trans K1.out.2.1
      have h10 := ((bcell (HF.out.below (B := w.heap.size + 2) (by have := HZ.out; omega) (fun q hq => by omega))).2 _ _ (by omega)).trans K1.out.2.2.1
      have h11 := ((bcell (HF.out.below (B := w.heap.size + 2) (by have := HZ.out; omega) (fun q hq => by omega))).2 _ _ (by omega)).trans K1.out.2.2.2
      have HFIN := Lib.hid' (show Fr (fun q => q = w.heap.size + 1) wr ((wr.setCell ⟨w.heap.size + 1, 0, none⟩ (.int .i64 e)).setCell ⟨w.heap.size + 1, 1, none⟩ (.slice a' Ks.length c')) from (fr_set _ _ _ _).trans (fr_set _ _ _ _) (fun i hi => .inl hi))
      go_wp2
      refine bodyPost_ret (v := pjV e a' c' Ks) (by simp [results, Tryz.results92, go_sem, z10, z11, x0, x1, pjV]) rfl ⟨a', c', Ks, rfl, (HJ.out.fr HFIN.out (fun q hq => by omega)).base (by omega), HK'.out, HBW.out.trans (HFIN.out.below (by omega) (fun q hq => by omega))⟩
end Go.Proofs.YtkljeefncopodaaGreat
