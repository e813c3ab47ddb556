/- Words on memory that all walks share: what a slice value reads as, what a call may write, a map with integer keys as an association list. No condition on the program. -/
import Derived.WalkKit
import Derived.WalkSpells
import Derived.WalkLawsBesides
import Derived.Laws.AppendOwnNone
namespace Go.Proofs.YtkljeefncopodaaGreat
open Go.RowKit
set_option linter.unusedSimpArgs false
set_option linter.unusedVariables false

theorem Lib.hid' {p : Prop} (h : p) : Hid p := h

@[simp, go_sem] theorem lt_add2 (n : Nat) : (n < n + 1 + 1) = True := eq_true (by omega)
@[simp, go_sem] theorem lt_add3 (n : Nat) : (n < n + 1 + 1 + 1) = True := eq_true (by omega)
@[simp, go_sem] theorem lt_add4 (n : Nat) : (n < n + 1 + 1 + 1 + 1) = True := eq_true (by omega)
@[simp, go_sem] theorem lt_add5 (n : Nat) : (n < n + 1 + 1 + 1 + 1 + 1) = True := eq_true (by omega)

/-- The slice value v has n elements, whose cells read cs. -/
def SlV (w : World) (v : Value) (n : Nat) (cs : List Value) : Prop :=
  ∃ a cap, v = .slice a n cap ∧ n ≤ cap ∧ cap ≤ maxLen ∧ (a = none → cap = 0) ∧ ∀ j u, cs[j]? = some u → ∃ p, a = some p ∧ w.cell? (p.add j) = some u

/-- All old blocks outside F are as they were. -/
structure Fr (F : Nat → Prop) (w w' : World) : Prop where
  os : w'.os = w.os
  tape : w'.tape = w.tape
  output : w'.output = w.output
  size : w.heap.size ≤ w'.heap.size
  block : ∀ k, k < w.heap.size → ¬ F k → w'.heap[k]? = w.heap[k]?

theorem Fr.refl (F : Nat → Prop) (w : World) : Fr F w w := ⟨rfl, rfl, rfl, Nat.le_refl _, fun _ _ _ => rfl⟩
theorem Fr.of_below {F : Nat → Prop} {w w' : World} (h : Below w.heap.size w w') : Fr F w w' := ⟨h.os, h.tape, h.output, h.size, fun k hk _ => h.block k hk⟩
theorem Fr.below {F : Nat → Prop} {B : Nat} {w w' : World} (h : Fr F w w') (hB : B ≤ w.heap.size) (hF : ∀ k, F k → B ≤ k) : Below B w w' :=
  ⟨h.os, h.tape, h.output, h.size, fun k hk => h.block k (by omega) (fun hf => by have := hF k hf; omega)⟩
theorem Fr.trans {F F' : Nat → Prop} {a b c : World} (h : Fr F a b) (k : Fr F' b c) (hF : ∀ i, F' i → F i ∨ a.heap.size ≤ i) : Fr F a c :=
  ⟨k.os.trans h.os, k.tape.trans h.tape, k.output.trans h.output, Nat.le_trans h.size k.size, fun i hi hn => by
    have hk : ¬ F' i := fun hf => by rcases hF i hf with h1 | h1; exact hn h1; omega
    exact (k.block i (Nat.lt_of_lt_of_le hi h.size) hk).trans (h.block i hi hn)⟩
theorem Fr.mono {F F' : Nat → Prop} {a b : World} (h : Fr F a b) (hF : ∀ i, F i → F' i) : Fr F' a b :=
  ⟨h.os, h.tape, h.output, h.size, fun i hi hn => h.block i hi (fun hf => hn (hF i hf))⟩
theorem Fr.trans_below {F : Nat → Prop} {a b c : World} (h : Fr F a b) (k : Below b.heap.size b c) : Fr F a c :=
  h.trans (Fr.of_below (F := fun _ => False) k) (fun _ hf => hf.elim)

theorem cell_lt {w : World} {p : Addr} {v : Value} (h : w.cell? p = some v) : p.block < w.heap.size := World.block_lt_of_cell? w p h

theorem Fr.cell {F : Nat → Prop} {w w' : World} (h : Fr F w w') {p : Addr} {v : Value} (hp : w.cell? p = some v) (hF : ¬ F p.block) : w'.cell? p = some v := by
  rw [← hp]; exact World.cell?_of_block (w := w) (h.block _ (cell_lt hp) hF)

/-- .. lies in the blocks of D alone -/
def SlIn (D : Nat → Prop) (v : Value) : Prop := ∀ p n c, v = .slice (some p) n c → D p.block

theorem add_block (p : Addr) (j : Nat) : (p.add j).block = p.block := by unfold Addr.add; split <;> rfl

theorem SlV.fr {F : Nat → Prop} {w w' : World} {v : Value} {n : Nat} {cs : List Value} (h : SlV w v n cs) (hf : Fr F w w') (hD : SlIn (fun k => ¬ F k) v) : SlV w' v n cs := by
  obtain ⟨a, cap, rfl, h1, h2, h0, h3⟩ := h
  refine ⟨a, cap, rfl, h1, h2, h0, fun j u hu => ?_⟩
  obtain ⟨p, rfl, hc⟩ := h3 j u hu
  exact ⟨p, rfl, hf.cell hc (by rw [add_block]; exact hD p n cap rfl)⟩

theorem SlV.below {w w' : World} {v : Value} {n : Nat} {cs : List Value} (h : SlV w v n cs) {B : Nat} (hB : w.heap.size ≤ B) (hf : Below B w w') : SlV w' v n cs :=
  h.fr (Fr.of_below (F := fun _ => False) (hf.mono hB)) (fun _ _ _ _ h => h)

theorem SlV.empty (w : World) (a : Option Addr) (c : Nat) (hc : c ≤ maxLen) (h0 : a = none → c = 0) : SlV w (.slice a 0 c) 0 [] := ⟨a, c, rfl, Nat.zero_le _, hc, h0, fun j u hu => by simp at hu⟩

theorem SlV.of_own {w : World} {base e size : Nat} {v : Value} {n : Nat} {xs : List Value} (h : w.ownsRow base e size v n xs) : SlV w v n xs := by
  obtain ⟨hl, h⟩ := h
  rcases h with ⟨rfl, rfl⟩ | ⟨g, cap, cur, rfl, hg, hh, h1, h2, h3, h4⟩
  · have : xs = [] := List.eq_nil_of_length_eq_zero (by simpa using hl)
    subst this; exact SlV.empty w _ _ (Nat.zero_le _) (fun _ => rfl)
  · refine ⟨_, _, rfl, h1, h2, by simp, fun j u hu => ⟨_, rfl, ?_⟩⟩
    have hlt : j < xs.length := (List.getElem?_eq_some_iff.1 hu).1
    have e1 : (Addr.add ⟨g, 0, none⟩ j) = ⟨g, j, none⟩ := by unfold Addr.add; split <;> simp_all
    rw [e1]
    subst h4
    rw [List.getElem?_take, if_pos (by simpa [hl] using hlt)] at hu
    simp only [World.cell?, hh, Option.isSome_none, Bool.false_eq_true, if_false]
    simpa using hu

theorem own_shape {w : World} {base e size : Nat} {v : Value} {n : Nat} {xs : List Value} (h : w.ownsRow base e size v n xs) : ∃ a c, v = .slice a n c := by
  obtain ⟨_, h⟩ := h
  rcases h with ⟨rfl, rfl⟩ | ⟨g, cap, cur, rfl, _⟩
  · exact ⟨_, _, rfl⟩
  · exact ⟨_, _, rfl⟩

theorem own_in {w : World} {base e size : Nat} {v : Value} {n : Nat} {xs : List Value} (h : w.ownsRow base e size v n xs) : SlIn (fun k => base ≤ k ∧ k < w.heap.size) v := by
  intro p n' c hv
  obtain ⟨hl, h⟩ := h
  rcases h with ⟨rfl, rfl⟩ | ⟨g, cap, cur, rfl, hg, hh, _⟩
  · simp at hv
  · simp only [Value.slice.injEq, Option.some.injEq] at hv
    obtain ⟨rfl, _, _⟩ := hv
    exact ⟨hg, (Array.getElem?_eq_some_iff.1 hh).1⟩

theorem SlIn.mono {D D' : Nat → Prop} {v : Value} (h : SlIn D v) (hD : ∀ k, D k → D' k) : SlIn D' v := fun p n c hv => hD _ (h p n c hv)

theorem SlV.bound {w : World} {v : Value} {n : Nat} {cs : List Value} (h : SlV w v n cs) (hne : cs ≠ []) : SlIn (· < w.heap.size) v := by
  intro p n' c hv
  obtain ⟨a, cap, rfl, _, _, _, h3⟩ := h
  simp only [Value.slice.injEq] at hv
  obtain ⟨rfl, _, _⟩ := hv
  cases cs with
  | nil => exact absurd rfl hne
  | cons c0 cs =>
    obtain ⟨p', hp', hc⟩ := h3 0 c0 rfl
    cases hp'
    have := cell_lt hc
    rwa [add_block] at this

/-- the bytes of a slice value -/
def byteV (b : UInt8) : Value := .int .u8 b.toNat
def byteVs (l : List UInt8) : List Value := l.map byteV
theorem byteVs_length (l : List UInt8) : (byteVs l).length = l.length := by simp [byteVs]
def Bytes (w : World) (v : Value) (l : List UInt8) : Prop := SlV w v l.length (byteVs l)
theorem byteVs_one (l : List UInt8) : ∀ u ∈ byteVs l, u.oneCell' = true := by
  intro u hu; obtain ⟨b, _, rfl⟩ := List.mem_map.1 hu; rfl
theorem byteVs_append (a b : List UInt8) : byteVs (a ++ b) = byteVs a ++ byteVs b := by simp [byteVs]

/-- A slice type's element type, as the program's table has it. -/
structure ElemT (P : Program) (t e size bytes : Nat) : Prop where
  under : P.underlying t = some (.slice e)
  info : ∃ i z, P.info? e = some i ∧ i.zero = some z ∧ i.size = size ∧ i.bytes = bytes ∧ z.cells.size = size
  pos : 0 < size
  posb : 0 < bytes

theorem ElemT.mk' {P : Program} {t e size bytes : Nat} {z : Value} (h1 : P.underlying t = some (.slice e)) (h2 : (P.info? e).map (fun i => (i.zero, i.size, i.bytes)) = some (some z, size, bytes)) (h3 : z.cells.size = size) (h4 : 0 < size) (h5 : 0 < bytes) : ElemT P t e size bytes := by
  obtain ⟨i, a, b, c, d⟩ := info_parts h2
  exact ⟨h1, ⟨i, z, a, b, c, d, h3⟩, h4, h5⟩

/-- append of any slice that reads cells, onto a row of the call's own. -/
theorem append_sl {P : Program} {t e size bytes : Nat} (T : ElemT P t e size bytes) {w : World} {ops : Array Oper} {rest : List Oper} {o : Oper} {a : Act} {Q : Exit → Act → World → Prop} (hgd : o.guard = none) (s x : Operand)
    (ho : o.op = .call { callee := .builtin .append, args := #[s, x], argTypes := #[t, t] })
    (base n : Nat) (xs : List Value) (v : Value) (hs : a.eval s = v) (hown : w.ownsRow base e size v n xs)
    (m : Nat) (news : List Value) (y : Value) (hx : a.eval x = y) (hsrc : SlV w y m news) (hl : news.length = m * size) (h1 : ∀ u ∈ news, u.oneCell' = true)
    (hbytes : (n + m) * bytes ≤ 140737488355328) (hbase : base ≤ w.heap.size)
    (h : ∀ a' c' w', w'.ownsRow base e size (.slice a' (n + m) c') (n + m) (xs ++ news) → Fr (fun k => v.ownBlock = some k) w w' → wpList P ops Q rest (a.put o.dst (.slice a' (n + m) c')) w') : wpList P ops Q (o :: rest) a w := by
  obtain ⟨i, z, a1, a2, a3, a4, a5⟩ := T.info
  have hpos := T.posb
  have hml : n + m ≤ maxLen := by
    have : (n + m) * 1 ≤ (n + m) * bytes := Nat.mul_le_mul_left _ hpos
    unfold maxLen; omega
  obtain ⟨ao, c, rfl, k1, k2, k0, k3⟩ := hsrc
  have hne : ∀ {u u' : World} {row : Option Nat}, u.grownBy u' row → Fr (fun k => row = some k) u u' := fun hg => ⟨hg.os, hg.tape, hg.output, hg.size, fun k hk hn => hg.block k hk (fun e => hn e.symm)⟩
  cases ao with
  | some ad =>
    exact wpList_append_own w hgd s x t ho base e i z size bytes T.under a1 a2 a3 a4 a5 T.pos v n xs hs hown ad m c news hx hl
      (fun j u hu => by obtain ⟨p, hp, hc⟩ := k3 j u hu; cases hp; exact hc) h1 hml hbytes hbase (fun v' w' r1 r2 _ => by obtain ⟨a', c', rfl⟩ := own_shape r1; exact h a' c' w' r1 (hne r2))
  | none =>
    have hnil : news = [] := by
      cases news with
      | nil => rfl
      | cons u l => obtain ⟨p, hp, _⟩ := k3 0 u rfl; cases hp
    subst hnil
    have hm : m = 0 := by
      have hp := T.pos
      have : m * size = 0 := by simpa using hl.symm
      rcases Nat.mul_eq_zero.1 this with h | h <;> omega
    subst hm
    obtain rfl : c = 0 := k0 rfl
    exact wpList_append_own_none hgd s x t ho base e i size T.under a1 v n xs hs hown hx (by obtain ⟨a', c', rfl⟩ := own_shape hown; simpa using h a' c' w (by simpa using hown) (Fr.refl _ _))

theorem SlV.new (w : World) (cs : List Value) (n e : Nat) (hn : n ≤ maxLen) : SlV (w.alloc (.cells cs.toArray e)) (.slice (some ⟨w.heap.size, 0, none⟩) n n) n cs := by
  refine ⟨_, _, rfl, Nat.le_refl _, hn, by simp, fun j u hu => ⟨_, rfl, ?_⟩⟩
  have e1 : (Addr.add ⟨w.heap.size, 0, none⟩ j) = ⟨w.heap.size, j, none⟩ := by unfold Addr.add; split <;> simp_all
  rw [e1]
  have e2 : (w.alloc (.cells cs.toArray e)).heap[w.heap.size]? = some (.cells cs.toArray e (0, 0)) := by show (w.heap.push _)[w.heap.size]? = _; simp
  simp only [World.cell?, e2, Option.isSome_none, Bool.false_eq_true, if_false]
  simpa using hu

/-- 'append(out, x)': one element, which lies in a new block of its own. -/
theorem append_one {P : Program} {t e size bytes : Nat} (T : ElemT P t e size bytes) {w : World} {ops : Array Oper} {rest : List Oper} {o : Oper} {a : Act} {Q : Exit → Act → World → Prop} (hgd : o.guard = none) (s x : Operand)
    (ho : o.op = .call { callee := .builtin .append, args := #[s, x], argTypes := #[t, t] })
    (cs : List Value) (hx : a.eval x = .slice (some ⟨w.heap.size, 0, none⟩) 1 1) (base n : Nat) (xs : List Value) (v : Value) (hs : a.eval s = v) (hown : w.ownsRow base e size v n xs)
    (hl : cs.length = size) (h1 : ∀ u ∈ cs, u.oneCell' = true)
    (hbytes : (n + 1) * bytes ≤ 140737488355328) (hbase : base ≤ w.heap.size)
    (h : ∀ a' c' w', w'.ownsRow base e size (.slice a' (n + 1) c') (n + 1) (xs ++ cs) → Fr (fun k => v.ownBlock = some k) w w' → wpList P ops Q rest (a.put o.dst (.slice a' (n + 1) c')) w') : wpList P ops Q (o :: rest) a (w.alloc (.cells cs.toArray e)) :=
  append_sl T hgd s x ho base n xs v hs (hown.alloc _) 1 cs _ hx (SlV.new w cs 1 e (by unfold maxLen; omega)) (by omega) h1 hbytes (by simp; omega)
    (fun a' c' w' r1 r2 => h a' c' w' r1 ((Fr.of_below (F := fun k => v.ownBlock = some k) ((Below.refl w.heap.size w).alloc (Nat.le_refl _) _)).trans r2 (fun i hi => .inl hi)))

/-- what an append leaves, said of what was there ahead of a block number -/
theorem Fr.row {base e size n B : Nat} {v : Value} {xs : List Value} {W w w' : World} (h : Fr (fun k => v.ownBlock = some k) w w') (hown : w.ownsRow base e size v n xs) (hB : B ≤ base) (hs : B ≤ w.heap.size) (hb : Below B W w) : Below B W w' := by
  refine hb.trans (h.below hs (fun k hk => ?_))
  obtain ⟨_, h⟩ := hown
  rcases h with ⟨rfl, rfl⟩ | ⟨g, cap, cur, rfl, hg, _⟩
  · simp [Value.ownBlock] at hk
  · simp [Value.ownBlock] at hk; omega

theorem bcell {W w1 : World} {B : Nat} (hb : Below B W w1) : (∀ b o, b < B → w1.cell? ⟨b, o, none⟩ = W.cell? ⟨b, o, none⟩) ∧ (∀ b o, b < B → w1.frozen? ⟨b, o, none⟩ = W.frozen? ⟨b, o, none⟩) :=
  ⟨fun b o h => hb.cell (p := ⟨b, o, none⟩) h, fun b o h => hb.frozen (p := ⟨b, o, none⟩) h⟩

theorem own_base {w : World} {B B' e size n : Nat} {v : Value} {xs : List Value} (h : w.ownsRow B e size v n xs) (hB : B' ≤ B) : w.ownsRow B' e size v n xs := by
  obtain ⟨h1, h2⟩ := h
  refine ⟨h1, ?_⟩
  rcases h2 with h2 | ⟨g, cap, cur, hv, hg, r⟩
  · exact Or.inl h2
  · exact Or.inr ⟨g, cap, cur, hv, Nat.le_trans hB hg, r⟩
theorem below_call {B : Nat} {w W w' : World} (h : Below B w W) (hB : B ≤ W.heap.size) (hb : Below W.heap.size W w') : Below B w w' := h.trans (hb.mono hB)
theorem own_below {w w' : World} {B C e size n : Nat} {v : Value} {xs : List Value} (h : w.ownsRow B e size v n xs) (hC : w.heap.size ≤ C) (hb : Below C w w') : w'.ownsRow B e size v n xs := by
  obtain ⟨h1, h2⟩ := h
  refine ⟨h1, ?_⟩
  rcases h2 with h2 | ⟨g, cap, cur, hv, hg, hh, r⟩
  · exact Or.inl h2
  · exact Or.inr ⟨g, cap, cur, hv, hg, by rw [hb.block g (Nat.lt_of_lt_of_le (Array.getElem?_eq_some_iff.1 hh).1 hC)]; exact hh, r⟩

/-- a new empty row -/
theorem own_empty (w : World) (e size : Nat) : (w.alloc (.cells #[] e)).ownsRow w.heap.size e size (.slice (some ⟨w.heap.size, 0, none⟩) 0 0) 0 [] :=
  ⟨by simp, Or.inr ⟨w.heap.size, 0, #[], rfl, Nat.le_refl _, by show (w.heap.push _)[w.heap.size]? = _; simp, Nat.zero_le _, Nat.zero_le _, by simp, by simp⟩⟩

/-- a new row of the call's own is handed back -/
def OwnR (B e size n : Nat) (xs : List Value) (w : World) (en : Ending) (w' : World) : Prop := ∃ a c, en = .returned (.slice a n c) ∧ w'.ownsRow B e size (.slice a n c) n xs ∧ Below B w w'

/-- a byte list as Go's text -/
def strOf (l : List UInt8) : ByteArray := ⟨l.toArray⟩

theorem run_string_of {P : Program} (src e dst : TypeId) (hs : P.underlying src = some (.slice e)) (he : P.underlying e = some (.int .u8)) (hd : P.underlying dst = some .string) {w : World} {v : Value} {l : List UInt8} (h : Bytes w v l) :
    (convert src dst v).run P w = .ok (.string (strOf l)) w := by
  obtain ⟨a, cap, rfl, h1, h2, h0, h3⟩ := h
  cases a with
  | none =>
    obtain rfl : cap = 0 := h0 rfl
    have hl0 : l = [] := List.eq_nil_of_length_eq_zero (by omega)
    subst hl0
    rw [run_convert_bytes_nil w src e hs he _ _ dst hd]; rfl
  | some p =>
    rw [run_convert_bytes_string w src dst e _ _ _ hs he hd]
    have hl : (loadCells p l.length).run P w = .ok ((l.map fun b => (b.toNat : Int)).map (Value.int .u8)).toArray w := by
      have := run_loadCells_list (P := P) w p ((l.map fun b => (b.toNat : Int)).map (Value.int .u8)) (fun j v hj => by
        have hj' : (byteVs l)[j]? = some v := by simpa [byteVs, byteV] using hj
        obtain ⟨q, hq, hc⟩ := h3 j v hj'
        cases hq; exact hc)
      simpa using this
    rw [run_bytesToString w p _ _ _ hl, foldl_push_bytes]
    simp [strOf, List.map_map, Function.comp_def]

theorem strOf_inj {a b : List UInt8} (h : strOf a = strOf b) : a = b := by
  have : a.toArray = b.toArray := congrArg ByteArray.data h
  simpa using this
theorem strOf_size (l : List UInt8) : (strOf l).size = l.length := by simp [strOf, ByteArray.size]

end Go.Proofs.YtkljeefncopodaaGreat
