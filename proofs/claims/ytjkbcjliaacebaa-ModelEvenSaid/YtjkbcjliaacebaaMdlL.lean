/- Layer 33 (model): what lies in the boxes of holdfastlaw33.do. -/
import Derived.Test.YtjkbcjliaacebaaMdlT
import Derived.Test.YtjkbcjliaacebaaDoL
namespace Go.Proofs.Ytjkbcjliaacebaa
open Go.RowKit
set_option linter.unusedSimpArgs false
set_option linter.unusedVariables false
set_option maxRecDepth 20000

/-- neither a byte nor a text lies in a model's own two blocks -/
theorem LogAt.no_cell {A : Nat → Prop} {w : World} {bl bm : Nat} {m : M} (h : LogAt A w bl bm m) {p : Addr} {v : Value} (hp : w.cell? p = some v) (hv : (∃ b : UInt8, v = byteV b) ∨ (∃ b, v = .string b)) : ¬ (p.block = bl ∨ p.block = bm) := by
  obtain ⟨blk, off, row⟩ := p
  obtain ⟨L, ⟨es, clock, h1, _⟩, _⟩ := h.map
  rintro (rfl | rfl)
  · unfold World.cell? at hp
    rw [h.blk] at hp
    simp only at hp
    split at hp
    · cases hp
    · rcases hv with ⟨b, rfl⟩ | ⟨b, rfl⟩
      all_goals
        match off with
        | 0 => simp [byteV] at hp
        | 1 => simp [byteV] at hp
        | 2 => simp [byteV] at hp
        | n + 3 => simp at hp
  · unfold World.cell? at hp
    rw [h1] at hp
    simp only at hp
    cases hp
theorem LogAt.rlist {A : Nat → Prop} {w w' : World} {bl bm : Nat} {m : M} (h : LogAt A w bl bm m) {v : Value} {L : List (Int × C)} (hd : RList w v L) (hf : Fr (fun k => k = bl ∨ k = bm) w w') : RList w' v L := by
  obtain ⟨a, cap, rfl, h1, h2, h3, h4⟩ := hd
  refine ⟨a, cap, rfl, h1, h2, h3, fun j x hx => ?_⟩
  obtain ⟨p, rfl, hc⟩ := h4 j x hx
  refine ⟨p, rfl, hf.cell hc ?_⟩
  cases L with
  | nil => simp [rents] at hx
  | cons y L =>
    obtain ⟨q, hq, hs⟩ := h4 2 (.string (strOf y.2.d)) (by simp [rents, rent])
    cases hq
    have := h.no_cell hs (.inr ⟨_, rfl⟩)
    rwa [add_block] at this ⊢
theorem LogAt.bytes {A : Nat → Prop} {w w' : World} {bl bm : Nat} {m : M} (h : LogAt A w bl bm m) {v : Value} {d : List UInt8} (hd : Bytes w v d) (hf : Fr (fun k => k = bl ∨ k = bm) w w') : Bytes w' v d := by
  obtain ⟨a, cap, rfl, h1, h2, h3, h4⟩ := hd
  refine ⟨a, cap, rfl, h1, h2, h3, fun j x hx => ?_⟩
  obtain ⟨p, hp, hc⟩ := h4 j x hx
  refine ⟨p, hp, hf.cell hc ?_⟩
  have hx' : ∃ b, x = byteV b := by
    simp only [byteVs, List.getElem?_map] at hx
    cases hq : d[j]? with
    | none => rw [hq] at hx; simp at hx
    | some b => rw [hq] at hx; simp at hx; exact ⟨b, hx.symm⟩
  exact h.no_cell hc (.inl hx')

def LA (N X bl bm : Nat) (k : Nat) : Prop := k = bl ∨ k = bm ∨ (N ≤ k ∧ k ≤ X)
def zL : List Value := [.int .i64 0, .int .i64 0, .slice none 0 0, .int .i64 0]
def mCells (m : M) (ma : Option Addr) (mc : Nat) : List Value := [.int .i64 m.u.e, .int .i64 m.u.l, .slice ma m.u.cells.length mc, .int .i64 m.t]
/-- what the boxes hold: the document's model, the act, the result's, the cell apart -/
structure LIn (N X : Nat) (w : World) (x : A13) (oa : Option Addr) (oc : Nat) (bl bm : Nat) (l m : M) (ma : Option Addr) (mc : Nat) (wc : World) : Prop where
  bm' : BoxW N (mCells m ma mc) 63 wc
  ba : BoxW (N + 1) (a13V x) 66 wc
  br : BoxW (N + 2) zL 63 wc
  bo : BoxW X [.int .i64 x.c.k, .slice oa x.c.d.length oc] 48 wc
  own : wc.ownsRow (N + 3) 5 1 (.slice oa x.c.d.length oc) x.c.d.length (byteVs x.c.d)
  log : LogAt (LA N X bl bm) wc bl bm l
  rl : RList wc (.slice ma m.u.cells.length mc) m.u.cells
  fr : Fr (fun k => k = bl ∨ k = bm) w wc
  din : A13.In wc x
  hl : bl < N ∧ bm < N
  hn : N = w.heap.size
  hX : N + 3 ≤ X
  hx : X < wc.heap.size
  ownx : ∀ b, (Value.slice oa x.c.d.length oc).ownBlock = some b → b < X
section
variable {N X : Nat} {w : World} {x : A13} {oa : Option Addr} {oc : Nat} {bl bm : Nat} {l m : M} {ma : Option Addr} {mc : Nat} {wc w' : World}
theorem LIn.below (h : LIn N X w x oa oc bl bm l m ma mc wc) (hb : Below wc.heap.size wc w') : LIn N X w x oa oc bl bm l m ma mc w' :=
  ⟨h.bm'.below (Nat.le_refl _) hb, h.ba.below (Nat.le_refl _) hb, h.br.below (Nat.le_refl _) hb, h.bo.below (Nat.le_refl _) hb, own_below h.own (Nat.le_refl _) hb, h.log.below (Nat.le_refl _) hb, h.rl.below (Nat.le_refl _) hb,
   h.fr.trans_below hb, ⟨SlV.below h.din.d (Nat.le_refl _) hb, h.din.k, h.din.s⟩, h.hl, h.hn, h.hX, Nat.lt_of_lt_of_le h.hx hb.size, h.ownx⟩
theorem LIn.room (h : LIn N X w x oa oc bl bm l m ma mc wc) : ∀ k, LA N X bl bm k → k < wc.heap.size := by
  intro k hk
  have h1 := h.hx; have h2 := h.hl; have h3 := h.hX
  rcases hk with rfl | rfl | ⟨_, hk⟩ <;> omega
theorem LIn.byt (h : LIn N X w x oa oc bl bm l m ma mc wc) : Bytes wc (.slice oa x.c.d.length oc) x.c.d := SlV.of_own h.own
/-- the model takes a step -/
theorem LIn.step {l' : M} (h : LIn N X w x oa oc bl bm l m ma mc wc) (hl : LogAt (LA N X bl bm) w' bl bm l') (hf : Fr (fun k => k = bl ∨ k = bm) wc w') : LIn N X w x oa oc bl bm l' m ma mc w' := by
  have h1 := h.hl; have h2 := h.hX
  refine ⟨h.bm'.fr hf (by omega), h.ba.fr hf (by omega), h.br.fr hf (by omega), h.bo.fr hf (by omega), own_fr h.own hf (own_slin h.own (fun b hb => ?_)), hl, h.log.rlist h.rl hf, h.fr.trans hf (fun k hk => .inl hk), ⟨h.log.bytes h.din.d hf, h.din.k, h.din.s⟩, h.hl, h.hn, h.hX, Nat.lt_of_lt_of_le h.hx hf.size, h.ownx⟩
  have := own_blk h.own hb
  omega
/-- the document's model is laid anew -/
theorem LIn.setM {m' : M} {ma' : Option Addr} {mc' : Nat} (h : LIn N X w x oa oc bl bm l m ma mc wc) (hr : RList wc (.slice ma' m'.u.cells.length mc') m'.u.cells) :
    LIn N X w x oa oc bl bm l m' ma' mc' ((((wc.setCell ⟨N, 0, none⟩ (.int .i64 m'.u.e)).setCell ⟨N, 1, none⟩ (.int .i64 m'.u.l)).setCell ⟨N, 2, none⟩ (.slice ma' m'.u.cells.length mc')).setCell ⟨N, 3, none⟩ (.int .i64 m'.t)) := by
  have h1 := h.hl; have h2 := h.hX; have h3 := h.hx
  have hf : Fr (fun k => k = N) wc ((((wc.setCell ⟨N, 0, none⟩ (.int .i64 m'.u.e)).setCell ⟨N, 1, none⟩ (.int .i64 m'.u.l)).setCell ⟨N, 2, none⟩ (.slice ma' m'.u.cells.length mc')).setCell ⟨N, 3, none⟩ (.int .i64 m'.t)) :=
    Fr.setCell (F := fun k => k = N) (Fr.setCell (F := fun k => k = N) (Fr.setCell (F := fun k => k = N) (Fr.setCell (F := fun k => k = N) (Fr.refl _ _) (.inl rfl) _) (.inl rfl) _) (.inl rfl) _) (.inl rfl) _
  refine ⟨BoxW.set4 h.bm', h.ba.fr hf (by omega), h.br.fr hf (by omega), h.bo.fr hf (by omega), own_fr h.own hf (own_slin h.own (fun b hb => ?_)), h.log.fr hf (by omega) (by omega) (fun k hk => by subst hk; exact .inr (.inr ⟨Nat.le_refl _, by omega⟩)),
    RList.keep hr hf (fun k hk => by subst hk; exact ⟨_, _, h.bm', by simp [mCells]⟩), ?_, ⟨h.bm'.bytes (by simp [mCells, byteV]) h.din.d hf, h.din.k, h.din.s⟩, h.hl, h.hn, h.hX, by simpa using h3, h.ownx⟩
  · have := own_blk h.own hb; omega
  · have h4 := h.fr
    have h5 := h.hn
    exact Fr.setCell (Fr.setCell (Fr.setCell (Fr.setCell h4 (.inr (by omega)) _) (.inr (by omega)) _) (.inr (by omega)) _) (.inr (by omega)) _
/-- a box that lies behind is laid anew -/
theorem LIn.past {w5 w8 w9 : World} {b : Nat} (h : LIn N X w x oa oc bl bm l m ma mc w5) (h8 : Fr (fun _ => False) w5 w8) (h9 : Fr (fun k => k = b) w8 w9) (hb : w5.heap.size ≤ b) : LIn N X w x oa oc bl bm l m ma mc w9 :=
  h.below ((h8.trans h9 (fun k hk => .inr (by omega))).below (Nat.le_refl _) (fun k hk => hk.elim))
theorem LIn.alloc (h : LIn N X w x oa oc bl bm l m ma mc wc) (o : Obj) : LIn N X w x oa oc bl bm l m ma mc (wc.alloc o) := h.below ((Below.refl _ _).alloc (Nat.le_refl _) o)
theorem LIn.drew (h : LIn N X w x oa oc bl bm l m ma mc wc) : LIn N X w x oa oc bl bm l m ma mc wc.drew := h.below ((Below.refl _ _).drew)
/-- at the end the model is as it was made -/
theorem LIn.fin (h : LIn N X w x oa oc bl bm l m ma mc wc) : LogAt (fun k => k = bl ∨ k = bm) wc bl bm l :=
  h.log.weak (fun k hk => .inl (by rcases hk with h | h; exact .inl h; exact .inr (.inl h))) (.inl rfl) (.inr rfl)
/-- what is left when the bytes apart were turned -/
structure LEnd (N X : Nat) (w : World) (bl bm : Nat) (l m : M) (ma : Option Addr) (mc : Nat) (wc : World) : Prop where
  bm' : BoxW N (mCells m ma mc) 63 wc
  br : BoxW (N + 2) zL 63 wc
  log : LogAt (LA N X bl bm) wc bl bm l
  rl : RList wc (.slice ma m.u.cells.length mc) m.u.cells
  fr : Fr (fun k => k = bl ∨ k = bm) w wc
  hl : bl < N ∧ bm < N
  hn : N = w.heap.size
  hX : N + 3 ≤ X
theorem LIn.over (h : LIn N X w x oa oc bl bm l m ma mc wc) (hf : Fr (fun q => (Value.slice oa x.c.d.length oc).ownBlock = some q) wc w') (hk : KeepB wc w') : LEnd N X w bl bm l m ma mc w' := by
  have h1 := h.hl; have h2 := h.hX; have h3 := h.hn
  have hb : ∀ q, (Value.slice oa x.c.d.length oc).ownBlock = some q → N + 3 ≤ q ∧ q < X := fun q hq => ⟨(own_blk h.own hq).1, h.ownx q hq⟩
  refine ⟨h.bm'.fr hf (fun hq => by have := hb _ hq; omega), h.br.fr hf (fun hq => by have := hb _ hq; omega), h.log.fr hf (fun hq => by have := hb _ hq; omega) (fun hq => by have := hb _ hq; omega) (fun k hk => .inr (.inr ⟨by have := hb _ hk; omega, by have := hb _ hk; omega⟩)), hk.rlist h.rl, h.fr.trans hf (fun k hk => .inr (by have := hb _ hk; omega)), h1, h3, h2⟩
theorem LEnd.below (h : LEnd N X w bl bm l m ma mc wc) (hb : Below wc.heap.size wc w') : LEnd N X w bl bm l m ma mc w' :=
  ⟨h.bm'.below (Nat.le_refl _) hb, h.br.below (Nat.le_refl _) hb, h.log.below (Nat.le_refl _) hb, h.rl.below (Nat.le_refl _) hb, h.fr.trans_below hb, h.hl, h.hn, h.hX⟩
/-- the result's box is laid: what the end is to show -/
theorem LEnd.fin (h : LEnd N X w bl bm l m ma mc wc) (hf : Fr (fun k => k = N + 2) wc w') : RList w' (.slice ma m.u.cells.length mc) m.u.cells ∧ LogAt (fun k => k = bl ∨ k = bm) w' bl bm l ∧ Fr (fun k => k = bl ∨ k = bm) w w' := by
  have h1 := h.hl; have h2 := h.hX; have h3 := h.hn
  refine ⟨RList.keep h.rl hf (fun k hk => by subst hk; exact ⟨_, _, h.br, by simp [zL]⟩), ?_, h.fr.trans hf (fun k hk => .inr (by omega))⟩
  exact (h.log.fr hf (by omega) (by omega) (fun k hk => .inr (.inr ⟨by omega, by omega⟩))).weak (fun k hk => .inl (by rcases hk with h | h; exact .inl h; exact .inr (.inl h))) (.inl rfl) (.inr rfl)
theorem LIn.fin2 (h : LIn N X w x oa oc bl bm l m ma mc wc) (hf : Fr (fun k => k = N + 2) wc w') : RList w' (.slice ma m.u.cells.length mc) m.u.cells ∧ LogAt (fun k => k = bl ∨ k = bm) w' bl bm l ∧ Fr (fun k => k = bl ∨ k = bm) w w' := by
  have h1 := h.hl; have h2 := h.hX; have h3 := h.hn
  refine ⟨RList.keep h.rl hf (fun k hk => by subst hk; exact ⟨_, _, h.br, by simp [zL]⟩), ?_, h.fr.trans hf (fun k hk => .inr (by omega))⟩
  exact (h.log.fr hf (by omega) (by omega) (fun k hk => .inr (.inr ⟨by omega, by omega⟩))).weak (fun k hk => .inl (by rcases hk with h | h; exact .inl h; exact .inr (.inl h))) (.inl rfl) (.inr rfl)
end
theorem kind16 (k : Int) : 0 ≤ (IntKind.u64.wrap k).tmod 16 ∧ (IntKind.u64.wrap k).tmod 16 < 16 := by
  have h : 0 ≤ IntKind.u64.wrap k := by
    have e : IntKind.u64.wrap k = k % 18446744073709551616 := by simp [IntKind.wrap, IntKind.signed, IntKind.bits]
    omega
  rw [Int.tmod_eq_emod_of_nonneg h]
  omega
def kindL (k : Int) : Int := (IntKind.u64.wrap k).tmod 16
end Go.Proofs.Ytjkbcjliaacebaa
