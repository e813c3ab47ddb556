/- UnitPlays: what any unit answers, and has, behind any acts. -/
import Derived.Test.YthjigopnlgngdaaDo
import Derived.Test.YthjigopnlgngdaaRd
import Derived.Test.YthjigopnlgngdaaAlive8
namespace Go.Proofs.Ythjigopnlgngdaa
open Go.RowKit
set_option linter.unusedSimpArgs false
set_option linter.unusedVariables false
set_option maxRecDepth 20000

/-- a box that holds no byte is laid anew: the unit stays -/
theorem BoxW.unit {A : Nat → Prop} {N t : Nat} {R : List Value} {w w' : World} {bu bm : Nat} {u : U} (h : BoxW N R t w) (hR : ∀ b, byteV b ∉ R) (hu : UnitAt A w bu bm u) (hf : Fr (fun k => k = N) w w') (h1 : bu ≠ N) (h2 : bm ≠ N) : UnitAt A w' bu bm u := by
  obtain ⟨L, hm, hr⟩ := hu.map
  refine ⟨(hf.block _ hu.lt.1 h1).trans hu.blk, ⟨L, hm.block (hf.block _ hu.lt.2 h2), hr.mono ?_⟩, hu.ok, hu.abu, hu.abm⟩
  rintro p q _ _ ⟨e1, a, cap, e2, e3, e4⟩
  exact ⟨e1, a, cap, e2, h.bytes hR e3 hf, fun x hx => ⟨(e4 x hx).1, Nat.lt_of_lt_of_le (e4 x hx).2 hf.size⟩⟩

/-- an act of a script, and where its data lie -/
structure ActX where
  k : Int
  e : Int
  a : Int
  d : List UInt8
  da : Option Addr
  dc : Nat
def actV (x : ActX) : List Value := [.int .i64 x.k, .int .i64 x.e, .int .i64 x.a, .slice x.da x.d.length x.dc]
def ScriptAt (w : World) (v : Value) (X : List ActX) : Prop := SlV w v X.length (X.flatMap actV) ∧ ∀ x ∈ X, Bytes w (.slice x.da x.d.length x.dc) x.d
theorem ScriptAt.below {w w' : World} {v : Value} {X : List ActX} (h : ScriptAt w v X) {B : Nat} (hB : w.heap.size ≤ B) (hb : Below B w w') : ScriptAt w' v X :=
  ⟨SlV.below h.1 hB hb, fun x hx => SlV.below (h.2 x hx) hB hb⟩

def PlayR (u' : U) (bu bm : Nat) (w : World) (en : Ending) (w' : World) : Prop :=
  ∃ ma mc, en = .returned (.tuple #[ruV u'.doc ma mc, .bool true]) ∧ RList w' (.slice ma u'.doc.cells.length mc) u'.doc.cells ∧ UnitAt (fun k => k = bu ∨ k = bm) w' bu bm u' ∧ Fr (fun k => k = bu ∨ k = bm) w w'

theorem do_plays (x : ActX) (u : U) (ma : Option Addr) (mc : Nat) (bu bm : Nat) (w : World)
    (hu : UnitAt (fun k => k = bu ∨ k = bm) w bu bm u) (hm : RList w (.slice ma u.doc.cells.length mc) u.doc.cells) (hd : Bytes w (.slice x.da x.d.length x.dc) x.d) (hdl : x.d.length ≤ 300) (huc : u.cells.length ≤ 1000000) :
    Calls Try.prog 46 #[.pointer (some ⟨bu, 0, none⟩), ruV u.doc ma mc, .agg #[.int .i64 x.k, .int .i64 x.e, .int .i64 x.a, .slice x.da x.d.length x.dc]] w (PlayR (uS (kindN x.k) u x.e x.a x.d).1 bu bm w) := by
  have hok := hu.ok
  have hlen : u.doc.cells.length = u.cells.length := sortC_len _
  refine (do_any x.k x.e x.a x.d x.da x.dc u.doc u ma mc bu bm w hu hm hd hdl (fun p hp => ?_) (by rw [hlen]; omega) huc).mono ?_
  · have hp' := (sortC_mem _ hok.nodup p).1 hp
    have h1 := hok.addr p hp'
    have h2 := hok.l0
    omega
  · rintro en w' ⟨ma', mc', rfl, h1, h2, h3⟩
    rw [play_all hok] at h1
    refine ⟨ma', mc', ?_, h1, h2, h3⟩
    rw [play_all hok]
    simp [okS, U.rSame]

/-- what holds at the head of a round -/
structure PlaysAt (W : World) (N : Nat) (bu bm : Nat) (k : Nat) (wr : World) : Prop where
  at' : ∃ (u : U) (ma : Option Addr) (mc : Nat), u.cells.length ≤ k ∧ UnitAt (fun k => k = bu ∨ k = bm) wr bu bm u ∧ BoxW N [.int .i64 u.doc.e, .int .i64 u.doc.l, .slice ma u.doc.cells.length mc] 75 wr ∧ RList wr (.slice ma u.doc.cells.length mc) u.doc.cells
  below : Below W.heap.size W wr

theorem plays_step {W wr wa w4 : World} {N bm k : Nat} {u u' : U} {ma ma' : Option Addr} {mc mc' : Nat} (hp : PlaysAt W N (bm + 1) bm k wr) (hn : bm + 1 < N ∧ W.heap.size ≤ bm)
    (hbox : BoxW N [.int .i64 u.doc.e, .int .i64 u.doc.l, .slice ma u.doc.cells.length mc] 75 wr) (ha : Below wr.heap.size wr wa) (hf : Fr (fun q => q = bm + 1 ∨ q = bm) wa w4)
    (hu : UnitAt (fun q => q = bm + 1 ∨ q = bm) w4 (bm + 1) bm u') (hr : RList w4 (.slice ma' u'.doc.cells.length mc') u'.doc.cells) (hl : u'.cells.length ≤ k + 1) :
    BoxW N [.int .i64 u.doc.e, .int .i64 u.doc.l, .slice ma u.doc.cells.length mc] 75 w4 ∧ N < w4.heap.size ∧
    PlaysAt W N (bm + 1) bm (k + 1) ((((w4.setCell ⟨N, 0, none⟩ (.int .i64 u'.doc.e)).setCell ⟨N, 1, none⟩ (.int .i64 u'.doc.l)).setCell ⟨N, 2, none⟩ (.slice ma' u'.doc.cells.length mc')).alloc (.cells #[.int .i64 u'.doc.e, .int .i64 u'.doc.l, .slice ma' u'.doc.cells.length mc'] 75)) := by
  obtain ⟨_, hb⟩ := hp
  have h5 := (hbox.below (Nat.le_refl _) ha).fr hf (by omega)
  have h4 : Below W.heap.size W w4 := (hb.trans (ha.mono hb.size)).trans (hf.below (Nat.le_trans hb.size ha.size) (by omega))
  refine ⟨h5, h5.lt, ?_⟩
  have h6 := BoxW.set3 (a' := .int .i64 u'.doc.e) (b' := .int .i64 u'.doc.l) (c' := .slice ma' u'.doc.cells.length mc') h5
  have hfN : Fr (fun q => q = N) w4 (((w4.setCell ⟨N, 0, none⟩ (.int .i64 u'.doc.e)).setCell ⟨N, 1, none⟩ (.int .i64 u'.doc.l)).setCell ⟨N, 2, none⟩ (.slice ma' u'.doc.cells.length mc')) :=
    ((fr_set _ _ _ _).trans (fr_set _ _ _ _) (fun i hi => .inl hi)).trans (fr_set _ _ _ _) (fun i hi => .inl hi)
  generalize (((w4.setCell ⟨N, 0, none⟩ (.int .i64 u'.doc.e)).setCell ⟨N, 1, none⟩ (.int .i64 u'.doc.l)).setCell ⟨N, 2, none⟩ (.slice ma' u'.doc.cells.length mc')) = w6 at *
  have hg : Below w6.heap.size w6 (w6.alloc (.cells #[.int .i64 u'.doc.e, .int .i64 u'.doc.l, .slice ma' u'.doc.cells.length mc'] 75)) := by go_grown
  generalize w6.alloc (.cells #[.int .i64 u'.doc.e, .int .i64 u'.doc.l, .slice ma' u'.doc.cells.length mc'] 75) = w7 at *
  have hby : ∀ b, byteV b ∉ [Value.int .i64 u.doc.e, .int .i64 u.doc.l, .slice ma u.doc.cells.length mc] := by intro b hb; simp [byteV] at hb
  have hst : ∀ b, Value.string b ∉ [Value.int .i64 u.doc.e, .int .i64 u.doc.l, .slice ma u.doc.cells.length mc] := by intro b hb; simp at hb
  have h7 := hfN.below (Nat.le_trans h4.size (Nat.le_refl _)) (B := W.heap.size) (by omega)
  exact ⟨⟨u', ma', mc', hl, (h5.unit hby hu hfN (by omega) (by omega)).below (Nat.le_refl _) hg, h6.below (Nat.le_refl _) hg, SlV.below (h5.rlist hst hr hfN) (Nat.le_refl _) hg⟩, (h4.trans h7).trans (hg.mono (Nat.le_trans h4.size hfN.size))⟩
theorem doc_new : U.new.doc = U.new := by simp [U.doc, U.new, sortC, sortA]
theorem plays_start {W w1 w2 : World} (hu : UnitAt (fun k => k = w1.heap.size + 1 ∨ k = w1.heap.size) w2 (w1.heap.size + 1) w1.heap.size U.new) (hb : Below W.heap.size W w2) (h1 : W.heap.size ≤ w1.heap.size) (h2 : w2.heap.size = w1.heap.size + 2) :
    PlaysAt W w2.heap.size (w1.heap.size + 1) w1.heap.size 0 (w2.alloc (.cells #[.int .i64 0, .int .i64 0, .slice none 0 0] 75)) := by
  have hg : Below w2.heap.size w2 (w2.alloc (.cells #[.int .i64 0, .int .i64 0, .slice none 0 0] 75)) := by go_grown
  refine ⟨⟨U.new, none, 0, Nat.le_refl _, hu.below (Nat.le_refl _) hg, ?_, ?_⟩, hb.trans (hg.mono (by omega))⟩
  · rw [doc_new]; exact BoxW.start w2 [.int .i64 0, .int .i64 0, .slice none 0 0] _
  · rw [doc_new]; exact SlV.empty _ _ _ (Nat.zero_le _) (fun _ => rfl)

end Go.Proofs.Ythjigopnlgngdaa
