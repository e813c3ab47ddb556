/- Words on memory, a second kit: parts of memory that lie apart (what is told of some blocks; which blocks; what a call leaves). No condition on the program. -/
import Derived.Test.YtkljeefncopodaaGreatStep
import Derived.Maps.AppendAt
namespace Go.Proofs.YtkljeefncopodaaGreat
open Go.RowKit
set_option linter.unusedSimpArgs false
set_option linter.unusedVariables false
set_option maxRecDepth 20000

/-- what is told of some blocks -/
structure Asn where
  holds : World → Prop
  foot : Nat → Prop
  lt : ∀ w, holds w → ∀ b, foot b → b < w.heap.size
  keep : ∀ w w', holds w → (∀ b, foot b → w'.heap[b]? = w.heap[b]?) → holds w'

def Asn.box (N : Nat) (R : List Value) (t : Nat) : Asn where
  holds := BoxW N R t
  foot := fun b => b = N
  lt := fun _ h b e => by subst e; exact h.lt
  keep := fun _ _ h k => (k N rfl).trans h

def Asn.row (e size : Nat) (v : Value) (n : Nat) (xs : List Value) : Asn where
  holds := fun w => w.ownsRow 0 e size v n xs
  foot := fun b => v.ownBlock = some b
  lt := fun _ h b e => (own_blk h e).2
  keep := fun w w' h k => by
    obtain ⟨h1, h2⟩ := h
    refine ⟨h1, ?_⟩
    rcases h2 with h2 | ⟨g, cap, cur, hv, hg, hh, r⟩
    · exact Or.inl h2
    · exact Or.inr ⟨g, cap, cur, hv, hg, by rw [k g (by rw [hv]; rfl)]; exact hh, r⟩

def Asn.emp : Asn where
  holds := fun _ => True
  foot := fun _ => False
  lt := fun _ _ _ h => h.elim
  keep := fun _ _ _ _ => trivial

/-- two parts that lie apart -/
def Asn.sep (A B : Asn) : Asn where
  holds := fun w => A.holds w ∧ B.holds w ∧ ∀ b, A.foot b → ¬ B.foot b
  foot := fun b => A.foot b ∨ B.foot b
  lt := fun w h b e => e.elim (A.lt w h.1 b) (B.lt w h.2.1 b)
  keep := fun w w' h k => ⟨A.keep w w' h.1 (fun b hb => k b (.inl hb)), B.keep w w' h.2.1 (fun b hb => k b (.inr hb)), h.2.2⟩

def Asn.all : List Asn → Asn
  | [] => Asn.emp
  | A :: L => A.sep (Asn.all L)

theorem Asn.all_foot {L : List Asn} {b : Nat} : (Asn.all L).foot b ↔ ∃ A ∈ L, A.foot b := by
  induction L with
  | nil => simp [Asn.all, Asn.emp]
  | cons A L ih => simp [Asn.all, Asn.sep, ih]
theorem Asn.all_holds {L : List Asn} {w : World} : (Asn.all L).holds w ↔ (∀ A ∈ L, A.holds w) ∧ L.Pairwise (fun A B => ∀ b, A.foot b → ¬ B.foot b) := by
  induction L with
  | nil => simp [Asn.all, Asn.emp]
  | cons A L ih =>
    simp only [Asn.all, Asn.sep, ih, Asn.all_foot, List.mem_cons, List.pairwise_cons, forall_eq_or_imp]
    constructor
    · rintro ⟨h1, ⟨h2, h3⟩, h4⟩
      exact ⟨⟨h1, h2⟩, fun B hB b hb hc => h4 b hb ⟨B, hB, hc⟩, h3⟩
    · rintro ⟨⟨h1, h2⟩, h3, h4⟩
      exact ⟨h1, ⟨h2, h4⟩, fun b hb ⟨B, hB, hc⟩ => h3 B hB b hb hc⟩

/-- The world w, come of w0: of w0's blocks but those of F may have been written; the parts L hold, lie apart, and lie in new blocks, or in F. -/
structure Sep (w0 : World) (F : Nat → Prop) (L : List Asn) (w : World) : Prop where
  fr : Fr F w0 w
  each : ∀ A ∈ L, A.holds w
  apart : L.Pairwise (fun A B => ∀ b, A.foot b → ¬ B.foot b)
  new : ∀ A ∈ L, ∀ b, A.foot b → w0.heap.size ≤ b ∨ F b

/-- no old block is written -/
def NoF : Nat → Prop := fun _ => False

theorem Sep.start (w : World) : Sep w NoF [] w := ⟨Fr.refl _ _, by simp, List.Pairwise.nil, by simp⟩
theorem Sep.start1 {w : World} (A : Asn) (h : A.holds w) : Sep w A.foot [A] w :=
  ⟨Fr.refl _ _, by simpa using h, List.pairwise_singleton _ _, by simp only [List.mem_singleton]; rintro B rfl b hb; exact .inr hb⟩
theorem Sep.start2 {w : World} (A B : Asn) (h : (A.sep B).holds w) : Sep w (A.sep B).foot [A, B] w :=
  ⟨Fr.refl _ _, by simp only [List.mem_cons, List.not_mem_nil, or_false]; rintro C (rfl | rfl); exact h.1; exact h.2.1, by simp [List.pairwise_cons]; exact h.2.2, by simp only [List.mem_cons, List.not_mem_nil, or_false]; rintro C (rfl | rfl) b hb; exact .inr (.inl hb); exact .inr (.inr hb)⟩

theorem Sep.perm {w0 w : World} {F : Nat → Prop} {L L' : List Asn} (h : Sep w0 F L w) (p : L.Perm L') : Sep w0 F L' w :=
  ⟨h.fr, fun A hA => h.each A (p.mem_iff.2 hA), (p.pairwise_iff (fun {x y} hxy b hb hc => hxy b hc hb)).1 h.apart, fun A hA => h.new A (p.mem_iff.2 hA)⟩

theorem perm_get {α : Type} : ∀ {L : List α} {i : Nat} {A : α}, L[i]? = some A → L.Perm (A :: L.eraseIdx i)
  | [], i, A, h => by simp at h
  | B :: L, 0, A, h => by simp at h; subst h; exact List.Perm.refl _
  | B :: L, i + 1, A, h => by
    have h' : L[i]? = some A := by simpa using h
    exact ((perm_get h').cons B).trans (List.Perm.swap A B _)

/-- the part at i goes to the head -/
theorem Sep.focus {w0 w : World} {F : Nat → Prop} {L : List Asn} (h : Sep w0 F L w) (i : Nat) {A : Asn} (hi : L[i]? = some A) : Sep w0 F (A :: L.eraseIdx i) w := h.perm (perm_get hi)

theorem Sep.at {w0 w : World} {F : Nat → Prop} {L : List Asn} (h : Sep w0 F L w) (i : Nat) {A : Asn} (hi : L[i]? = some A) : A.holds w := h.each A (List.mem_of_getElem? hi)
theorem Sep.box {w0 w : World} {F : Nat → Prop} {L : List Asn} (h : Sep w0 F L w) (i : Nat) {N : Nat} {R : List Value} {t : Nat} (hi : L[i]? = some (.box N R t)) : BoxW N R t w := h.at i hi
theorem Sep.cell {w0 w : World} {F : Nat → Prop} {L : List Asn} (h : Sep w0 F L w) (i : Nat) {N : Nat} {R : List Value} {t : Nat} (hi : L[i]? = some (.box N R t)) (j : Nat) {v : Value} (hj : R[j]? = some v) : w.cell? ⟨N, j, none⟩ = some v := (h.box i hi).box.1 j v hj
theorem Sep.free {w0 w : World} {F : Nat → Prop} {L : List Asn} (h : Sep w0 F L w) (i : Nat) {N : Nat} {R : List Value} {t : Nat} (hi : L[i]? = some (.box N R t)) (j : Nat) : w.frozen? ⟨N, j, none⟩ = false := (h.box i hi).box.2.1 j
theorem Sep.lt {w0 w : World} {F : Nat → Prop} {L : List Asn} (h : Sep w0 F L w) (i : Nat) {N : Nat} {R : List Value} {t : Nat} (hi : L[i]? = some (.box N R t)) : N < w.heap.size := (h.box i hi).lt
theorem Sep.lt' {w0 w : World} {F : Nat → Prop} {L : List Asn} (h : Sep w0 F L w) (i : Nat) {A : Asn} (hi : L[i]? = some A) {b : Nat} (hb : A.foot b) : b < w.heap.size := A.lt w (h.at i hi) b hb
theorem Sep.row {w0 w : World} {F : Nat → Prop} {L : List Asn} (h : Sep w0 F L w) (i : Nat) {e size n : Nat} {v : Value} {xs : List Value} (hi : L[i]? = some (.row e size v n xs)) : w.ownsRow 0 e size v n xs := h.at i hi

/-- two parts lie apart -/
theorem Sep.off {w0 w : World} {F : Nat → Prop} {L : List Asn} (h : Sep w0 F L w) (i j : Nat) {A B : Asn} (hi : L[i]? = some A) (hj : L[j]? = some B) (hij : i ≠ j) : ∀ b, A.foot b → ¬ B.foot b := by
  obtain ⟨hi', rfl⟩ := List.getElem?_eq_some_iff.1 hi
  obtain ⟨hj', rfl⟩ := List.getElem?_eq_some_iff.1 hj
  have hp := List.pairwise_iff_getElem.1 h.apart
  rcases Nat.lt_or_gt_of_ne hij with h1 | h1
  · exact hp i j hi' hj' h1
  · exact fun b hb hc => hp j i hj' hi' h1 b hc hb
theorem Sep.ne {w0 w : World} {F : Nat → Prop} {L : List Asn} (h : Sep w0 F L w) (i j : Nat) {N M : Nat} {R S : List Value} {t u : Nat} (hi : L[i]? = some (.box N R t)) (hj : L[j]? = some (.box M S u)) (hij : i ≠ j) : N ≠ M :=
  fun e => h.off i j hi hj hij N rfl e

/-- parts that nobody asks for any more -/
theorem Sep.keepOnly {w0 w : World} {F : Nat → Prop} {L L' : List Asn} (h : Sep w0 F L w) (hs : L'.Sublist L) : Sep w0 F L' w :=
  ⟨h.fr, fun A hA => h.each A (hs.mem hA), h.apart.sublist hs, fun A hA => h.new A (hs.mem hA)⟩
theorem Sep.drop {w0 w : World} {F : Nat → Prop} {L : List Asn} (h : Sep w0 F L w) (i : Nat) : Sep w0 F (L.eraseIdx i) w := h.keepOnly (List.eraseIdx_sublist ..)
theorem Sep.tail {w0 w : World} {F : Nat → Prop} {A : Asn} {L : List Asn} (h : Sep w0 F (A :: L) w) : Sep w0 F L w := h.keepOnly (List.sublist_cons_self _ _)

/-- the head is told of in other words -/
theorem Sep.turn {w0 w : World} {F : Nat → Prop} {A B : Asn} {L : List Asn} (h : Sep w0 F (A :: L) w) (hB : B.holds w) (hf : ∀ b, B.foot b → A.foot b) : Sep w0 F (B :: L) w := by
  obtain ⟨h1, h2⟩ := List.pairwise_cons.1 h.apart
  refine ⟨h.fr, ?_, List.pairwise_cons.2 ⟨fun C hC b hb => h1 C hC b (hf b hb), h2⟩, ?_⟩
  · intro C hC
    rcases List.mem_cons.1 hC with rfl | hC
    · exact hB
    · exact h.each C (List.mem_cons_of_mem _ hC)
  · intro C hC b hb
    rcases List.mem_cons.1 hC with rfl | hC
    · exact h.new A List.mem_cons_self b (hf b hb)
    · exact h.new C (List.mem_cons_of_mem _ hC) b hb
/-- two parts as one -/
theorem Sep.join {w0 w : World} {F : Nat → Prop} {A B : Asn} {L : List Asn} (h : Sep w0 F (A :: B :: L) w) : Sep w0 F (A.sep B :: L) w := by
  obtain ⟨h1, h2⟩ := List.pairwise_cons.1 h.apart
  obtain ⟨h3, h4⟩ := List.pairwise_cons.1 h2
  refine ⟨h.fr, ?_, List.pairwise_cons.2 ⟨?_, h4⟩, ?_⟩
  · intro C hC
    rcases List.mem_cons.1 hC with rfl | hC
    · exact ⟨h.each A List.mem_cons_self, h.each B (List.mem_cons_of_mem _ List.mem_cons_self), h1 B List.mem_cons_self⟩
    · exact h.each C (List.mem_cons_of_mem _ (List.mem_cons_of_mem _ hC))
  · rintro C hC b (hb | hb)
    · exact h1 C (List.mem_cons_of_mem _ hC) b hb
    · exact h3 C hC b hb
  · intro C hC b hb
    rcases List.mem_cons.1 hC with rfl | hC
    · rcases hb with hb | hb
      · exact h.new A List.mem_cons_self b hb
      · exact h.new B (List.mem_cons_of_mem _ List.mem_cons_self) b hb
    · exact h.new C (List.mem_cons_of_mem _ (List.mem_cons_of_mem _ hC)) b hb
/-- one part as two -/
theorem Sep.part {w0 w : World} {F : Nat → Prop} {A B : Asn} {L : List Asn} (h : Sep w0 F (A.sep B :: L) w) : Sep w0 F (A :: B :: L) w := by
  obtain ⟨h1, h2⟩ := List.pairwise_cons.1 h.apart
  obtain ⟨a, b, c⟩ := h.each _ List.mem_cons_self
  refine ⟨h.fr, ?_, List.pairwise_cons.2 ⟨?_, List.pairwise_cons.2 ⟨fun C hC b hb => h1 C hC b (.inr hb), h2⟩⟩, ?_⟩
  · intro C hC
    rcases List.mem_cons.1 hC with rfl | hC
    · exact a
    · rcases List.mem_cons.1 hC with rfl | hC
      · exact b
      · exact h.each C (List.mem_cons_of_mem _ hC)
  · intro C hC k hk
    rcases List.mem_cons.1 hC with rfl | hC
    · exact c k hk
    · exact h1 C hC k (.inl hk)
  · intro C hC k hk
    rcases List.mem_cons.1 hC with rfl | hC
    · exact h.new _ List.mem_cons_self k (.inl hk)
    · rcases List.mem_cons.1 hC with rfl | hC
      · exact h.new _ List.mem_cons_self k (.inr hk)
      · exact h.new C (List.mem_cons_of_mem _ hC) k hk

/-- what is told of no block -/
theorem Sep.addEmp {w0 w : World} {F : Nat → Prop} {A : Asn} {L : List Asn} (h : Sep w0 F L w) (hA : A.holds w) (hf : ∀ b, ¬ A.foot b) : Sep w0 F (A :: L) w := by
  refine ⟨h.fr, ?_, List.pairwise_cons.2 ⟨fun C hC b hb => absurd hb (hf b), h.apart⟩, ?_⟩
  · intro C hC
    rcases List.mem_cons.1 hC with rfl | hC
    · exact hA
    · exact h.each C hC
  · intro C hC b hb
    rcases List.mem_cons.1 hC with rfl | hC
    · exact absurd hb (hf b)
    · exact h.new C hC b hb

/-- a call that takes the head, and leaves the parts K -/
theorem Sep.call {w0 w w' : World} {F : Nat → Prop} {A : Asn} {L K : List Asn} (h : Sep w0 F (A :: L) w) (k : Sep w A.foot K w') : Sep w0 F (K ++ L) w' := by
  obtain ⟨h1, h2⟩ := List.pairwise_cons.1 h.apart
  have hlt : ∀ C ∈ L, ∀ b, C.foot b → b < w.heap.size := fun C hC b hb => C.lt w (h.each C (List.mem_cons_of_mem _ hC)) b hb
  have hkeep : ∀ C ∈ L, C.holds w' := fun C hC => C.keep w w' (h.each C (List.mem_cons_of_mem _ hC)) (fun b hb => k.fr.block b (hlt C hC b hb) (fun hA => h1 C hC b hA hb))
  refine ⟨h.fr.trans k.fr (fun i hi => (h.new A List.mem_cons_self i hi).symm), ?_, List.pairwise_append.2 ⟨k.apart, h2, ?_⟩, ?_⟩
  · intro C hC
    rcases List.mem_append.1 hC with hC | hC
    · exact k.each C hC
    · exact hkeep C hC
  · intro B hB C hC b hb hc
    rcases k.new B hB b hb with h5 | h5
    · have := hlt C hC b hc; omega
    · exact h1 C hC b h5 hc
  · intro C hC b hb
    rcases List.mem_append.1 hC with hC | hC
    · rcases k.new C hC b hb with h5 | h5
      · have := h.fr.size; exact .inl (by omega)
      · exact h.new A List.mem_cons_self b h5
    · exact h.new C (List.mem_cons_of_mem _ hC) b hb
/-- a call that writes no old block -/
theorem Sep.call0 {w0 w w' : World} {F : Nat → Prop} {L K : List Asn} (h : Sep w0 F L w) (k : Sep w NoF K w') : Sep w0 F (K ++ L) w' :=
  Sep.call (A := Asn.emp) (h.addEmp trivial (fun _ h => h)) k
theorem Sep.nof {w w' : World} (hb : Below w.heap.size w w') : Sep w NoF [] w' := ⟨Fr.of_below hb, by simp, List.Pairwise.nil, by simp⟩
theorem Sep.below {w0 w w' : World} {F : Nat → Prop} {L : List Asn} (h : Sep w0 F L w) (hb : Below w.heap.size w w') : Sep w0 F L w' := h.call0 (Sep.nof hb)
theorem Sep.toBelow {w w' : World} {L : List Asn} (h : Sep w NoF L w') : Below w.heap.size w w' := h.fr.below (Nat.le_refl _) (fun _ h => h.elim)
/-- a new part that a call left -/
theorem Sep.below1 {w0 w w' : World} {F : Nat → Prop} {A : Asn} {L : List Asn} (h : Sep w0 F L w) (hb : Below w.heap.size w w') (hA : A.holds w') (hf : ∀ b, A.foot b → w.heap.size ≤ b) : Sep w0 F (A :: L) w' :=
  h.call0 (K := [A]) ⟨Fr.of_below hb, by simpa using hA, List.pairwise_singleton _ _, by simp only [List.mem_singleton]; rintro C rfl b hb; exact .inl (hf b hb)⟩
/-- .. where the head was written -/
theorem Sep.fr1 {w0 w w' : World} {F : Nat → Prop} {A B : Asn} {L : List Asn} (h : Sep w0 F (A :: L) w) (hf : Fr A.foot w w') (hB : B.holds w') (hn : ∀ b, B.foot b → w.heap.size ≤ b ∨ A.foot b) : Sep w0 F (B :: L) w' :=
  h.call (K := [B]) ⟨hf, by simpa using hB, List.pairwise_singleton _ _, by simp only [List.mem_singleton]; rintro C rfl b hb; exact hn b hb⟩

theorem Sep.drew {w0 w : World} {F : Nat → Prop} {L : List Asn} (h : Sep w0 F L w) : Sep w0 F L w.drew := h.below ((Below.refl _ w).drew)
theorem Sep.alloc {w0 w : World} {F : Nat → Prop} {L : List Asn} (h : Sep w0 F L w) (R : List Value) (t : Nat) : Sep w0 F (.box w.heap.size R t :: L) (w.alloc (.cells R.toArray t)) :=
  h.below1 ((Below.refl _ w).alloc (Nat.le_refl _) _) (BoxW.start w R t) (fun b hb => by have hb : b = w.heap.size := hb; omega)
/-- a block that nobody asks for -/
theorem Sep.allocX {w0 w : World} {F : Nat → Prop} {L : List Asn} (h : Sep w0 F L w) (o : Obj) : Sep w0 F L (w.alloc o) := h.below ((Below.refl _ w).alloc (Nat.le_refl _) _)
theorem Sep.set {w0 w : World} {F : Nat → Prop} {L : List Asn} (h : Sep w0 F L w) (i : Nat) {N : Nat} {R : List Value} {t : Nat} (hi : L[i]? = some (.box N R t)) (j : Nat) (v : Value) : Sep w0 F (.box N (R.set j v) t :: L.eraseIdx i) (w.setCell ⟨N, j, none⟩ v) :=
  (h.focus i hi).fr1 (fr_set w N j v) (((h.focus i hi).box 0 rfl).set j v) (fun b hb => .inr hb)
/-- an empty row, new -/
theorem Sep.newRow {w0 w : World} {F : Nat → Prop} {L : List Asn} (h : Sep w0 F L w) (e size : Nat) : Sep w0 F (.row e size (.slice (some ⟨w.heap.size, 0, none⟩) 0 0) 0 [] :: L) (w.alloc (.cells #[] e)) :=
  h.below1 ((Below.refl _ w).alloc (Nat.le_refl _) _) (own_base (own_empty w e size) (Nat.zero_le _)) (fun b hb => by have hb : some w.heap.size = some b := hb; simp at hb; omega)
theorem Sep.nilRow {w0 w : World} {F : Nat → Prop} {L : List Asn} (h : Sep w0 F L w) (e size : Nat) : Sep w0 F (.row e size (.slice none 0 0) 0 [] :: L) w :=
  h.addEmp (own_nil _ _ _ _) (fun b hb => by have hb : (none : Option Nat) = some b := hb; simp at hb)
theorem Sep.allocAt {w0 w : World} {F : Nat → Prop} {L : List Asn} (h : Sep w0 F L w) (N : Nat) (R : List Value) (t : Nat) (hN : w.heap.size = N) : Sep w0 F (.box N R t :: L) (w.alloc (.cells R.toArray t)) := by subst hN; exact h.alloc R t
theorem Sep.newRowAt {w0 w : World} {F : Nat → Prop} {L : List Asn} (h : Sep w0 F L w) (N e size : Nat) (hN : w.heap.size = N) : Sep w0 F (.row e size (.slice (some ⟨N, 0, none⟩) 0 0) 0 [] :: L) (w.alloc (.cells #[] e)) := by subst hN; exact h.newRow e size
/-- a row, at a base -/
theorem Sep.own {w0 w : World} {L : List Asn} (h : Sep w0 NoF L w) (i : Nat) {e size n : Nat} {v : Value} {xs : List Value} (hi : L[i]? = some (.row e size v n xs)) : w.ownsRow w0.heap.size e size v n xs := by
  have h1 := h.row i hi
  refine ⟨h1.1, ?_⟩
  rcases h1.2 with h2 | ⟨g, cap, cur, hv, hg, r⟩
  · exact Or.inl h2
  · refine Or.inr ⟨g, cap, cur, hv, ?_, r⟩
    have := h.new _ (List.mem_of_getElem? hi) g (by show v.ownBlock = some g; rw [hv]; rfl)
    rcases this with this | this
    · exact this
    · exact this.elim
/-- a row that a call made -/
theorem Sep.belowRow {w0 w w' : World} {F : Nat → Prop} {L : List Asn} (h : Sep w0 F L w) (hb : Below w.heap.size w w') {e size n : Nat} {v : Value} {xs : List Value} (hr : w'.ownsRow w.heap.size e size v n xs) : Sep w0 F (.row e size v n xs :: L) w' :=
  h.below1 hb (own_base hr (Nat.zero_le _)) (fun b hb => (own_blk hr hb).1)
/-- what stood in the old world, as long as it is not written -/
theorem Sep.old {w0 w : World} {F : Nat → Prop} {L : List Asn} (h : Sep w0 F L w) {v : Value} {n : Nat} {cs : List Value} (hv : SlV w0 v n cs) (hF : SlIn (fun k => ¬ F k) v) : SlV w v n cs := hv.fr h.fr hF
theorem Sep.old0 {w0 w : World} {L : List Asn} (h : Sep w0 NoF L w) {v : Value} {n : Nat} {cs : List Value} (hv : SlV w0 v n cs) : SlV w v n cs := hv.fr h.fr (fun _ _ _ _ h => h)
theorem Sep.oldBytes {w0 w : World} {L : List Asn} (h : Sep w0 NoF L w) {v : Value} {d : List UInt8} (hv : Bytes w0 v d) : Bytes w v d := h.old0 hv

/-- append, whatever is appended, the row being a part -/
theorem wp_append_sep {P : Program} {t e size bytes : Nat} (T : ElemT P t e size bytes) {w0 w : World} {F : Nat → Prop} {L : List Asn} {o : Oper} {a : Act} {K : Act → World → Prop} {Q : Exit → Act → World → Prop} (s x : Operand)
    (ho : o.op = .call { callee := .builtin .append, args := #[s, x], argTypes := #[t, t] })
    (H : Sep w0 F L w) (i : Nat) {v : Value} {n : Nat} {xs : List Value} (hi : L[i]? = some (.row e size v n xs)) (hs : a.eval s = v)
    (m : Nat) (news : List Value) (y : Value) (hx : a.eval x = y) (hsrc : SlV w y m news) (hl : news.length = m * size) (h1 : ∀ u ∈ news, u.oneCell' = true) (hbytes : (n + m) * bytes ≤ 140737488355328)
    (h : ∀ a' c' w', Sep w0 F (.row e size (.slice a' (n + m) c') (n + m) (xs ++ news) :: L.eraseIdx i) w' → K (a.put o.dst (.slice a' (n + m) c')) w') : o.wp P a w K Q := by
  obtain ⟨ii, z, a1, a2, a3, a4, a5⟩ := T.info
  have hpos := T.posb
  have hml : n + m ≤ maxLen := by
    have : (n + m) * 1 ≤ (n + m) * bytes := Nat.mul_le_mul_left _ hpos
    unfold maxLen; omega
  obtain ⟨ao, c, rfl, k1, k2, k0, k3⟩ := hsrc
  have hne : ∀ {u u' : World} {row : Option Nat}, u.grownBy u' row → Fr (fun k => row = some k) u u' := fun hg => ⟨hg.os, hg.tape, hg.output, hg.size, fun k hk hn => hg.block k hk (fun e => hn e.symm)⟩
  have hown := H.row i hi
  cases ao with
  | some ad =>
    obtain ⟨v', w', hr, h2, h3, _, h5⟩ := run_append_own_at (P := P) w 0 t o.type e ii z size bytes T.under a1 a2 a3 a4 a5 T.pos v n xs hown ad m c news hl (fun j u hu => by obtain ⟨p, hp, hc⟩ := k3 j u hu; cases hp; exact hc) h1 hml hbytes (Nat.zero_le _)
    unfold Oper.wp execOp
    simp only [ho, resolve, invoke, builtin, Sem.run_bind, Sem.run_pure, Result.andThen_ok, List.map_toArray, List.map_cons, List.map_nil, hs, hx, hr]
    obtain ⟨a', c', rfl⟩ := own_shape h2
    refine h a' c' w' ((H.focus i hi).fr1 (hne h3) h2 (fun b hb => ?_))
    have hb : (Value.slice a' (n + m) c').ownBlock = some b := hb
    rcases h5 with h5 | h5
    · right; show v.ownBlock = some b; rw [← h5]; exact hb
    · left; rw [h5] at hb; simp at hb; omega
  | none =>
    have hnil : news = [] := by
      cases news with
      | nil => rfl
      | cons u l => obtain ⟨p, hp, _⟩ := k3 0 u rfl; cases hp
    subst hnil
    have hm : m = 0 := by
      have hp := T.pos
      have : m * size = 0 := by simpa using hl.symm
      rcases Nat.mul_eq_zero.1 this with h | h <;> omega
    subst hm
    obtain rfl : c = 0 := k0 rfl
    have hrun := run_append_owned_none (P := P) (w := w) 0 t o.type e ii size T.under a1 v n xs hown
    unfold Oper.wp
    simp [execOp, ho, resolve, invoke, builtin, hs, hx, hrun, Result.andThen]
    obtain ⟨a', c', rfl⟩ := own_shape hown
    have := h a' c' w (by rw [List.append_nil]; exact H.focus i hi)
    exact this
/-- .. as an operation of the walk -/
theorem Sep.appendSl {P : Program} {t e size bytes : Nat} (T : ElemT P t e size bytes) {w0 w : World} {F : Nat → Prop} {L : List Asn} {ops : Array Oper} {rest : List Oper} {o : Oper} {a : Act} {Q : Exit → Act → World → Prop} (hgd : o.guard = none) (s x : Operand)
    (ho : o.op = .call { callee := .builtin .append, args := #[s, x], argTypes := #[t, t] })
    (H : Sep w0 F L w) (i : Nat) {v : Value} {n : Nat} {xs : List Value} (hi : L[i]? = some (.row e size v n xs)) (hs : a.eval s = v)
    (m : Nat) (news : List Value) (y : Value) (hx : a.eval x = y) (hsrc : SlV w y m news) (hl : news.length = m * size) (h1 : ∀ u ∈ news, u.oneCell' = true) (hbytes : (n + m) * bytes ≤ 140737488355328)
    (h : ∀ a' c' w', Sep w0 F (.row e size (.slice a' (n + m) c') (n + m) (xs ++ news) :: L.eraseIdx i) w' → wpList P ops Q rest (a.put o.dst (.slice a' (n + m) c')) w') : wpList P ops Q (o :: rest) a w :=
  wpList_plain hgd fun _ hK => wp_append_sep T s x ho H i hi hs m news y hx hsrc hl h1 hbytes (fun a' c' w' h' => hK _ _ (h a' c' w' h'))
/-- 'append(out, x)': one element, laid into a block of its own -/
theorem Sep.append {P : Program} {t e size bytes : Nat} (T : ElemT P t e size bytes) {w0 w : World} {F : Nat → Prop} {L : List Asn} {ops : Array Oper} {rest : List Oper} {o : Oper} {a : Act} {Q : Exit → Act → World → Prop} (hgd : o.guard = none) (s x : Operand)
    (ho : o.op = .call { callee := .builtin .append, args := #[s, x], argTypes := #[t, t] })
    (cs : List Value) (hx : a.eval x = .slice (some ⟨w.heap.size, 0, none⟩) 1 1) (H : Sep w0 F L w) (i : Nat) {v : Value} {n : Nat} {xs : List Value} (hi : L[i]? = some (.row e size v n xs)) (hs : a.eval s = v)
    (hl : cs.length = size) (h1 : ∀ u ∈ cs, u.oneCell' = true) (hbytes : (n + 1) * bytes ≤ 140737488355328)
    (h : ∀ a' c' w', Sep w0 F (.row e size (.slice a' (n + 1) c') (n + 1) (xs ++ cs) :: L.eraseIdx i) w' → wpList P ops Q rest (a.put o.dst (.slice a' (n + 1) c')) w') : wpList P ops Q (o :: rest) a (w.alloc (.cells cs.toArray e)) :=
  Sep.appendSl T hgd s x ho (H.allocX _) i hi hs 1 cs _ hx (SlV.new w cs 1 e (by unfold maxLen; omega)) (by omega) h1 hbytes h
/-- .. as one step of a region that draws its order -/
theorem Sep.appendStep {P : Program} {t e size bytes : Nat} (T : ElemT P t e size bytes) {w0 w : World} {F : Nat → Prop} {L : List Asn} {ops : Array Oper} {o : Oper} {a : Act} {K : Act → World → Prop} {Q : Exit → Act → World → Prop} {Z : Prop} (hgd : o.guard = none) (s x : Operand)
    (ho : o.op = .call { callee := .builtin .append, args := #[s, x], argTypes := #[t, t] })
    (cs : List Value) (hx : a.eval x = .slice (some ⟨w.heap.size, 0, none⟩) 1 1) (H : Sep w0 F L w) (i : Nat) {v : Value} {n : Nat} {xs : List Value} (hi : L[i]? = some (.row e size v n xs)) (hs : a.eval s = v)
    (hl : cs.length = size) (h1 : ∀ u ∈ cs, u.oneCell' = true) (hbytes : (n + 1) * bytes ≤ 140737488355328)
    (h : ∀ a' c' w', Sep w0 F (.row e size (.slice a' (n + 1) c') (n + 1) (xs ++ cs) :: L.eraseIdx i) w' → K (a.put o.dst (.slice a' (n + 1) c')) w') :
    if Region.wanted o (yielded ops a.tmps) = true then Oper.wp P o a (w.alloc (.cells cs.toArray e)) K Q else Z := by
  have hw : Region.wanted o (yielded ops a.tmps) = true := by simp [Region.wanted, hgd]
  rw [if_pos hw]
  exact wp_append_sep T s x ho (H.allocX _) i hi hs 1 cs _ hx (SlV.new w cs 1 e (by unfold maxLen; omega)) (by omega) h1 hbytes h
theorem Sep.appendSlStep {P : Program} {t e size bytes : Nat} (T : ElemT P t e size bytes) {w0 w : World} {F : Nat → Prop} {L : List Asn} {ops : Array Oper} {o : Oper} {a : Act} {K : Act → World → Prop} {Q : Exit → Act → World → Prop} {Z : Prop} (hgd : o.guard = none) (s x : Operand)
    (ho : o.op = .call { callee := .builtin .append, args := #[s, x], argTypes := #[t, t] })
    (H : Sep w0 F L w) (i : Nat) {v : Value} {n : Nat} {xs : List Value} (hi : L[i]? = some (.row e size v n xs)) (hs : a.eval s = v)
    (m : Nat) (news : List Value) (y : Value) (hx : a.eval x = y) (hsrc : SlV w y m news) (hl : news.length = m * size) (h1 : ∀ u ∈ news, u.oneCell' = true) (hbytes : (n + m) * bytes ≤ 140737488355328)
    (h : ∀ a' c' w', Sep w0 F (.row e size (.slice a' (n + m) c') (n + m) (xs ++ news) :: L.eraseIdx i) w' → K (a.put o.dst (.slice a' (n + m) c')) w') :
    if Region.wanted o (yielded ops a.tmps) = true then Oper.wp P o a w K Q else Z := by
  have hw : Region.wanted o (yielded ops a.tmps) = true := by simp [Region.wanted, hgd]
  rw [if_pos hw]
  exact wp_append_sep T s x ho H i hi hs m news y hx hsrc hl h1 hbytes h
end Go.Proofs.YtkljeefncopodaaGreat
