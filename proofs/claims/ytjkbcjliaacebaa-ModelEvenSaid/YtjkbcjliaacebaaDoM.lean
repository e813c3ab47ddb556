import Derived.Test.YtjkbcjliaacebaaDoc
import Derived.Test.YtjkbcjliaacebaaRefS
namespace Go.Proofs.Ytjkbcjliaacebaa
open Go.RowKit
set_option linter.unusedSimpArgs false
set_option linter.unusedVariables false
set_option maxRecDepth 20000

/-- no byte lies in a unit's own two blocks -/
theorem UnitAt.no_byte {A : Nat → Prop} {w : World} {bu bm : Nat} {u : U} (h : UnitAt A w bu bm u) {p : Addr} {b : UInt8} (hp : w.cell? p = some (byteV b)) : ¬ (p.block = bu ∨ p.block = bm) := by
  obtain ⟨blk, off, row⟩ := p
  obtain ⟨L, ⟨es, clock, h1, _⟩, _⟩ := h.map
  rintro (rfl | rfl)
  · unfold World.cell? at hp
    rw [h.blk] at hp
    simp only at hp
    split at hp
    · cases hp
    · match off with
      | 0 => simp [byteV] at hp
      | 1 => simp [byteV] at hp
      | 2 => simp [byteV] at hp
      | n + 3 => simp at hp
  · unfold World.cell? at hp
    rw [h1] at hp
    simp only at hp
    cases hp
theorem UnitAt.bytes {A : Nat → Prop} {w w' : World} {bu bm : Nat} {u : U} (h : UnitAt A w bu bm u) {v : Value} {d : List UInt8} (hd : Bytes w v d) (hf : Fr (fun k => k = bu ∨ k = bm) w w') : Bytes w' v d := by
  obtain ⟨a, cap, rfl, h1, h2, h3, h4⟩ := hd
  refine ⟨a, cap, rfl, h1, h2, h3, fun j x hx => ?_⟩
  obtain ⟨p, hp, hc⟩ := h4 j x hx
  refine ⟨p, hp, hf.cell hc ?_⟩
  have hx' : ∃ b, x = byteV b := by
    simp only [byteVs, List.getElem?_map] at hx
    cases hq : d[j]? with
    | none => rw [hq] at hx; simp at hx
    | some b => rw [hq] at hx; simp at hx; exact ⟨b, hx.symm⟩
  obtain ⟨b, rfl⟩ := hx'
  exact h.no_byte hc

theorem UnitAt.no_string {A : Nat → Prop} {w : World} {bu bm : Nat} {u : U} (h : UnitAt A w bu bm u) {p : Addr} {b : ByteArray} (hp : w.cell? p = some (.string b)) : ¬ (p.block = bu ∨ p.block = bm) := by
  obtain ⟨blk, off, row⟩ := p
  obtain ⟨L, ⟨es, clock, h1, _⟩, _⟩ := h.map
  rintro (rfl | rfl)
  · unfold World.cell? at hp
    rw [h.blk] at hp
    simp only at hp
    split at hp
    · cases hp
    · match off with
      | 0 => simp at hp
      | 1 => simp at hp
      | 2 => simp at hp
      | n + 3 => simp at hp
  · unfold World.cell? at hp
    rw [h1] at hp
    simp only at hp
    cases hp
theorem UnitAt.rlist {A : Nat → Prop} {w w' : World} {bu bm : Nat} {u : U} (h : UnitAt A w bu bm u) {v : Value} {L : List (Int × C)} (hd : RList w v L) (hf : Fr (fun k => k = bu ∨ k = bm) w w') : RList w' v L := by
  obtain ⟨a, cap, rfl, h1, h2, h3, h4⟩ := hd
  refine ⟨a, cap, rfl, h1, h2, h3, fun j x hx => ?_⟩
  obtain ⟨p, rfl, hc⟩ := h4 j x hx
  refine ⟨p, rfl, hf.cell hc ?_⟩
  cases L with
  | nil => simp [rents] at hx
  | cons y L =>
    obtain ⟨q, hq, hs⟩ := h4 2 (.string (strOf y.2.d)) (by simp [rents, rent])
    cases hq
    have := h.no_string hs
    rwa [add_block] at this ⊢
theorem UnitAt.weak {A A' : Nat → Prop} {w : World} {bu bm : Nat} {u : U} (h : UnitAt A w bu bm u) (hA : ∀ k, A' k → A k ∨ w.heap.size ≤ k) (h1 : A' bu) (h2 : A' bm) : UnitAt A' w bu bm u := by
  obtain ⟨L, hm, hr⟩ := h.map
  refine ⟨h.blk, ⟨L, hm, hr.mono ?_⟩, h.ok, h1, h2⟩
  rintro p q _ _ ⟨e1, a, cap, e2, e3, e4⟩
  refine ⟨e1, a, cap, e2, e3, fun x hx => ⟨fun hk => ?_, (e4 x hx).2⟩⟩
  rcases hA _ hk with hk | hk
  · exact (e4 x hx).1 hk
  · have := (e4 x hx).2; omega
theorem BoxW.rlist {N t : Nat} {R : List Value} {w w' : World} (h : BoxW N R t w) (hR : ∀ b, Value.string b ∉ R) {v : Value} {L : List (Int × C)} (hd : RList w v L) (hf : Fr (fun k => k = N) w w') : RList w' v L := by
  obtain ⟨a, cap, rfl, h1, h2, h3, h4⟩ := hd
  refine ⟨a, cap, rfl, h1, h2, h3, fun j x hx => ?_⟩
  obtain ⟨p, rfl, hc⟩ := h4 j x hx
  refine ⟨p, rfl, hf.cell hc ?_⟩
  cases L with
  | nil => simp [rents] at hx
  | cons y L =>
    obtain ⟨q, hq, hs⟩ := h4 2 (.string (strOf y.2.d)) (by simp [rents, rent])
    cases hq
    have := h.no_string hR hs
    rwa [add_block] at this ⊢

/-- the blocks that the unit's data avoid while an act is done -/
def DoA (N X bu bm : Nat) (vc : Value) (k : Nat) : Prop := k = bu ∨ k = bm ∨ (N ≤ k ∧ k < X + 2) ∨ vc.ownBlock = some k
/-- what lies in the boxes ahead of the switch, and behind it -/
structure DoIn (N X : Nat) (w : World) (m : U) (ma : Option Addr) (mc : Nat) (kd e ad : Int) (da : Option Addr) (d : List UInt8) (dc : Nat) (bu bm : Nat) (u : U) (oa : Option Addr) (oc : Nat) (x c : C) (ca : Option Addr) (cc : Nat) (wc : World) : Prop where
  bm' : BoxW N [.int .i64 m.e, .int .i64 m.l, .slice ma m.cells.length mc] 61 wc
  ba : BoxW (N + 1) [.int .i64 kd, .int .i64 e, .int .i64 ad, .slice da d.length dc] 82 wc
  br : BoxW (N + 1 + 1) zU 61 wc
  bx : BoxW X [.int .i64 x.k, .string (strOf x.d)] 125 wc
  bc : BoxW (X + 1) [.int .i64 c.k, .slice ca c.d.length cc] 48 wc
  nx : N + 1 + 1 < X
  own : wc.ownsRow (N + 1 + 1 + 1) 5 1 (.slice oa d.length oc) d.length (byteVs d)
  ownIn : ∀ b, (Value.slice oa d.length oc).ownBlock = some b → N ≤ b ∧ b < X
  cown : wc.ownsRow (X + 2) 5 1 (.slice ca c.d.length cc) c.d.length (byteVs c.d)
  unit : UnitAt (DoA N X bu bm (.slice ca c.d.length cc)) wc bu bm u
  fr : Fr (fun k => k = bu ∨ k = bm) w wc
  nxs : X + 2 ≤ wc.heap.size
  dat0 : ∀ w', Fr (fun k => k = bu ∨ k = bm) w w' → Bytes w' (.slice da d.length dc) d
  lu : bu < N
  lm : bm < N
  lw : w.heap.size ≤ N

section
variable {N X : Nat} {w : World} {m : U} {ma : Option Addr} {mc : Nat} {kd e ad : Int} {da : Option Addr} {d : List UInt8} {dc : Nat} {bu bm : Nat} {u : U} {oa : Option Addr} {oc : Nat} {x c : C} {ca : Option Addr} {cc : Nat} {wc w' : World}
theorem DoIn.below (h : DoIn N X w m ma mc kd e ad da d dc bu bm u oa oc x c ca cc wc) (hb : Below wc.heap.size wc w') : DoIn N X w m ma mc kd e ad da d dc bu bm u oa oc x c ca cc w' :=
  ⟨h.bm'.below (Nat.le_refl _) hb, h.ba.below (Nat.le_refl _) hb, h.br.below (Nat.le_refl _) hb, h.bx.below (Nat.le_refl _) hb, h.bc.below (Nat.le_refl _) hb, h.nx, own_below h.own (Nat.le_refl _) hb, h.ownIn, own_below h.cown (Nat.le_refl _) hb, h.unit.below (Nat.le_refl _) hb, h.fr.trans_below hb, Nat.le_trans h.nxs hb.size, h.dat0, h.lu, h.lm, h.lw⟩
/-- a call that writes the unit alone -/
theorem DoIn.step (h : DoIn N X w m ma mc kd e ad da d dc bu bm u oa oc x c ca cc wc) {u' : U} (hu : UnitAt (DoA N X bu bm (.slice ca c.d.length cc)) w' bu bm u') (hf : Fr (fun k => k = bu ∨ k = bm) wc w') : DoIn N X w m ma mc kd e ad da d dc bu bm u' oa oc x c ca cc w' := by
  have h1 := h.lu; have h2 := h.lm; have h3 := h.nx
  exact ⟨h.bm'.fr hf (by omega), h.ba.fr hf (by omega), h.br.fr hf (by omega), h.bx.fr hf (by omega), h.bc.fr hf (by omega), h.nx, own_fr h.own hf (own_slin h.own (fun b hb => by have := h.ownIn b hb; omega)), h.ownIn,
    own_fr h.cown hf (own_slin h.cown (fun b hb => by have := own_blk h.cown hb; omega)), hu, h.fr.trans hf (fun i hi => .inl hi), Nat.le_trans h.nxs hf.size, h.dat0, h1, h2, h.lw⟩
theorem DoIn.room (h : DoIn N X w m ma mc kd e ad da d dc bu bm u oa oc x c ca cc wc) : ∀ k, DoA N X bu bm (.slice ca c.d.length cc) k → k < wc.heap.size := by
  intro k hk
  have h1 := h.lu; have h2 := h.lm; have h3 := h.nxs; have h4 := h.nx
  rcases hk with h | h | h | h'
  · omega
  · omega
  · omega
  · exact (own_blk h.cown h').2
/-- the document's unit is laid anew into its box -/
theorem DoIn.setM (h : DoIn N X w m ma mc kd e ad da d dc bu bm u oa oc x c ca cc wc) (m' : U) (ma' : Option Addr) (mc' : Nat) :
    DoIn N X w m' ma' mc' kd e ad da d dc bu bm u oa oc x c ca cc (((wc.setCell ⟨N, 0, none⟩ (.int .i64 m'.e)).setCell ⟨N, 1, none⟩ (.int .i64 m'.l)).setCell ⟨N, 2, none⟩ (.slice ma' m'.cells.length mc')) := by
  have hb := BoxW.set3 (a' := .int .i64 m'.e) (b' := .int .i64 m'.l) (c' := .slice ma' m'.cells.length mc') h.bm'
  have hf : Fr (fun k => k = N) wc (((wc.setCell ⟨N, 0, none⟩ (.int .i64 m'.e)).setCell ⟨N, 1, none⟩ (.int .i64 m'.l)).setCell ⟨N, 2, none⟩ (.slice ma' m'.cells.length mc')) :=
    ((fr_set _ _ _ _).trans (fr_set _ _ _ _) (fun i hi => .inl hi)).trans (fr_set _ _ _ _) (fun i hi => .inl hi)
  generalize (((wc.setCell ⟨N, 0, none⟩ (.int .i64 m'.e)).setCell ⟨N, 1, none⟩ (.int .i64 m'.l)).setCell ⟨N, 2, none⟩ (.slice ma' m'.cells.length mc')) = wv at *
  have h1 := h.lu; have h2 := h.lm; have h3 := h.nx; have h4 := h.lw
  refine ⟨hb, h.ba.fr hf (by omega), h.br.fr hf (by omega), h.bx.fr hf (by omega), h.bc.fr hf (by omega), h.nx, own_fr h.own hf (fun p n c hv => ?_), h.ownIn, own_fr h.cown hf (own_slin h.cown (fun b hb => by have := own_blk h.cown hb; omega)), h.unit.fr hf (by omega) (by omega) (fun k hk => .inr (.inr (.inl ⟨by omega, by omega⟩))), h.fr.trans hf (fun i hi => .inr (by omega)), Nat.le_trans h.nxs hf.size, h.dat0, h1, h2, h4⟩
  have := (own_in h.own p n c hv).1
  omega
theorem DoIn.keepM (h : DoIn N X w m ma mc kd e ad da d dc bu bm u oa oc x c ca cc wc) (a b c : Value) {v : Value} {L : List (Int × C)} (hd : RList wc v L) : RList (((wc.setCell ⟨N, 0, none⟩ a).setCell ⟨N, 1, none⟩ b).setCell ⟨N, 2, none⟩ c) v L :=
  h.bm'.rlist (by intro b hb; simp at hb) hd (((fr_set _ _ _ _).trans (fr_set _ _ _ _) (fun i hi => .inl hi)).trans (fr_set _ _ _ _) (fun i hi => .inl hi))
theorem DoIn.dat (h : DoIn N X w m ma mc kd e ad da d dc bu bm u oa oc x c ca cc wc) : Bytes wc (.slice da d.length dc) d := h.dat0 _ h.fr
/-- the document's cell is laid into its box -/
theorem DoIn.setX (h : DoIn N X w m ma mc kd e ad da d dc bu bm u oa oc x c ca cc wc) (x' : C) :
    DoIn N X w m ma mc kd e ad da d dc bu bm u oa oc x' c ca cc ((wc.setCell ⟨X, 0, none⟩ (.int .i64 x'.k)).setCell ⟨X, 1, none⟩ (.string (strOf x'.d))) := by
  have hb := BoxW.set2 (a' := .int .i64 x'.k) (b' := .string (strOf x'.d)) h.bx
  have hf : Fr (fun k => k = X) wc ((wc.setCell ⟨X, 0, none⟩ (.int .i64 x'.k)).setCell ⟨X, 1, none⟩ (.string (strOf x'.d))) := (fr_set _ _ _ _).trans (fr_set _ _ _ _) (fun i hi => .inl hi)
  generalize ((wc.setCell ⟨X, 0, none⟩ (.int .i64 x'.k)).setCell ⟨X, 1, none⟩ (.string (strOf x'.d))) = wv at *
  have h1 := h.lu; have h2 := h.lm; have h3 := h.nx; have h4 := h.lw
  exact ⟨h.bm'.fr hf (by omega), h.ba.fr hf (by omega), h.br.fr hf (by omega), hb, h.bc.fr hf (by omega), h.nx, own_fr h.own hf (own_slin h.own (fun b hb => by have := h.ownIn b hb; omega)), h.ownIn, own_fr h.cown hf (own_slin h.cown (fun b hb => by have := own_blk h.cown hb; omega)), h.unit.fr hf (by omega) (by omega) (fun k hk => .inr (.inr (.inl ⟨by omega, by omega⟩))), h.fr.trans hf (fun i hi => .inr (by omega)), Nat.le_trans h.nxs hf.size, h.dat0, h1, h2, h4⟩
/-- the unit's cell, with data of its own, is laid into its box -/
theorem DoIn.setC {w2 : World} (h : DoIn N X w m ma mc kd e ad da d dc bu bm u oa oc x c none 0 w2) (hb2 : Below w2.heap.size w2 wc) (c' : C) (ca' : Option Addr) (cc' : Nat) (ho : wc.ownsRow w2.heap.size 5 1 (.slice ca' c'.d.length cc') c'.d.length (byteVs c'.d)) :
    DoIn N X w m ma mc kd e ad da d dc bu bm u oa oc x c' ca' cc' ((wc.setCell ⟨X + 1, 0, none⟩ (.int .i64 c'.k)).setCell ⟨X + 1, 1, none⟩ (.slice ca' c'.d.length cc')) := by
  have hk := h.below hb2
  have hb := BoxW.set2 (a' := .int .i64 c'.k) (b' := .slice ca' c'.d.length cc') hk.bc
  have hf : Fr (fun k => k = X + 1) wc ((wc.setCell ⟨X + 1, 0, none⟩ (.int .i64 c'.k)).setCell ⟨X + 1, 1, none⟩ (.slice ca' c'.d.length cc')) := (fr_set _ _ _ _).trans (fr_set _ _ _ _) (fun i hi => .inl hi)
  generalize ((wc.setCell ⟨X + 1, 0, none⟩ (.int .i64 c'.k)).setCell ⟨X + 1, 1, none⟩ (.slice ca' c'.d.length cc')) = wv at *
  have h1 := h.lu; have h2 := h.lm; have h3 := h.nx; have h4 := h.lw; have h5 := h.nxs
  have hu : UnitAt (DoA N X bu bm (.slice ca' c'.d.length cc')) wc bu bm u := (h.unit.weak (A' := DoA N X bu bm (.slice ca' c'.d.length cc')) (fun k hk => by
    rcases hk with h | h | h | h
    · exact .inl (.inl h)
    · exact .inl (.inr (.inl h))
    · exact .inl (.inr (.inr (.inl h)))
    · exact .inr (own_blk ho h).1) (.inl rfl) (.inr (.inl rfl))).below (Nat.le_refl _) hb2
  exact ⟨hk.bm'.fr hf (by omega), hk.ba.fr hf (by omega), hk.br.fr hf (by omega), hk.bx.fr hf (by omega), hb, h.nx, own_fr hk.own hf (own_slin hk.own (fun b hb => by have := h.ownIn b hb; omega)), h.ownIn, own_base (own_fr ho hf (own_slin ho (fun b hb => by have := own_blk ho hb; omega))) h5, hu.fr hf (by omega) (by omega) (fun k hk => .inr (.inr (.inl ⟨by omega, by omega⟩))), hk.fr.trans hf (fun i hi => .inr (by omega)), Nat.le_trans hk.nxs hf.size, h.dat0, h1, h2, h4⟩
theorem DoIn.keepX (h : DoIn N X w m ma mc kd e ad da d dc bu bm u oa oc x c ca cc wc) (a b : Value) {v : Value} {L : List (Int × C)} (hv : SlIn (fun k => k ≠ X) v) (hd : RList wc v L) : RList ((wc.setCell ⟨X, 0, none⟩ a).setCell ⟨X, 1, none⟩ b) v L :=
  SlV.fr hd ((fr_set _ _ _ _).trans (fr_set _ _ _ _) (fun i hi => .inl hi)) hv
end
/-- what an act does to a unit, and answers: the unit then, the error, the number, the cell -/
def uS (kn : Int) (u : U) (e a : Int) (d : List UInt8) : U × Nat × Int × C :=
  if kn = 0 then ((u.sealE e).2.2, (u.sealE e).1, (u.sealE e).2.1, ⟨0, []⟩)
  else if kn = 1 ∨ kn = 2 then ((u.write e a d).2, (u.write e a d).1, 0, ⟨0, []⟩)
  else if kn = 3 then ((u.fill e a).2, (u.fill e a).1, 0, ⟨0, []⟩)
  else if kn = 4 then (u, (u.read e a).1, 0, (u.read e a).2)
  else if kn = 5 then ((u.trim e a).2, (u.trim e a).1, 0, ⟨0, []⟩)
  else if kn = 6 then ((u.cut e a).2.2, (u.cut e a).1, (u.cut e a).2.1, ⟨0, []⟩)
  else (u, (u.tailOf e).1, (u.tailOf e).2, ⟨0, []⟩)
/-- .. and to the document's -/
def mS (kn : Int) (m : U) (e a : Int) (d : List UInt8) : U × Nat × Int × C :=
  if kn = 0 then ((m.rSeal e).2.1, (m.rSeal e).2.2, (m.rSeal e).1, ⟨0, []⟩)
  else if kn = 1 ∨ kn = 2 then ((m.rWrite e a d).1, (m.rWrite e a d).2, 0, ⟨0, []⟩)
  else if kn = 3 then ((m.rFill e a).1, (m.rFill e a).2, 0, ⟨0, []⟩)
  else if kn = 4 then (m, (m.rRead e a).2, 0, (m.rRead e a).1)
  else if kn = 5 then ((m.rTrim e a).1, (m.rTrim e a).2, 0, ⟨0, []⟩)
  else if kn = 6 then ((m.rCut e a).2.1, (m.rCut e a).2.2, (m.rCut e a).1, ⟨0, []⟩)
  else (m, m.cur e, if m.cur e = 0 then m.rTail else 0, ⟨0, []⟩)
theorem kind8 (k : Int) : 0 ≤ (IntKind.u64.wrap k).tmod 8 ∧ (IntKind.u64.wrap k).tmod 8 < 8 := by
  have h : 0 ≤ IntKind.u64.wrap k := by
    have e : IntKind.u64.wrap k = k % 18446744073709551616 := by simp [IntKind.wrap, IntKind.signed, IntKind.bits]
    omega
  rw [Int.tmod_eq_emod_of_nonneg h]
  omega
end Go.Proofs.Ytjkbcjliaacebaa
