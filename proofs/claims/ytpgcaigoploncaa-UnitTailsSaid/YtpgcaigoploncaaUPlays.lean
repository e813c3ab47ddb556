/- UnitPlays: what any unit answers, and has, behind any acts. -/
import Derived.Test.YtpgcaigoploncaaDo
import Derived.Test.YtpgcaigoploncaaRd
import Derived.Test.YtpgcaigoploncaaAlive8
namespace Go.Proofs.Ytpgcaigoploncaa
open Go.RowKit
set_option linter.unusedSimpArgs false
set_option linter.unusedVariables false
set_option maxRecDepth 20000

/-- a box that holds no byte is laid anew: the unit stays -/
theorem BoxW.unit {A : Nat → Prop} {N t : Nat} {R : List Value} {w w' : World} {bu bm : Nat} {u : U} (h : BoxW N R t w) (hR : ∀ b, byteV b ∉ R) (hu : UnitAt A w bu bm u) (hf : Fr (fun k => k = N) w w') (h1 : bu ≠ N) (h2 : bm ≠ N) : UnitAt A w' bu bm u := by
  obtain ⟨L, hm, hr⟩ := hu.map
  refine ⟨(hf.block _ hu.lt.1 h1).trans hu.blk, ⟨L, hm.block (hf.block _ hu.lt.2 h2), hr.mono ?_⟩, hu.ok, hu.abu, hu.abm⟩
  rintro p q _ _ ⟨e1, a, cap, e2, e3, e4⟩
  exact ⟨e1, a, cap, e2, h.bytes hR e3 hf, fun x hx => ⟨(e4 x hx).1, Nat.lt_of_lt_of_le (e4 x hx).2 hf.size⟩⟩

/-- an act of a script, and where its data lie -/
structure ActX where
  k : Int
  e : Int
  a : Int
  d : List UInt8
  da : Option Addr
  dc : Nat
def actV (x : ActX) : List Value := [.int .i64 x.k, .int .i64 x.e, .int .i64 x.a, .slice x.da x.d.length x.dc]
def ScriptAt (w : World) (v : Value) (X : List ActX) : Prop := SlV w v X.length (X.flatMap actV) ∧ ∀ x ∈ X, Bytes w (.slice x.da x.d.length x.dc) x.d
theorem ScriptAt.below {w w' : World} {v : Value} {X : List ActX} (h : ScriptAt w v X) {B : Nat} (hB : w.heap.size ≤ B) (hb : Below B w w') : ScriptAt w' v X :=
  ⟨SlV.below h.1 hB hb, fun x hx => SlV.below (h.2 x hx) hB hb⟩

def PlayR (u' : U) (bu bm : Nat) (w : World) (en : Ending) (w' : World) : Prop :=
  ∃ ma mc, en = .returned (.tuple #[ruV u'.doc ma mc, .bool true]) ∧ RList w' (.slice ma u'.doc.cells.length mc) u'.doc.cells ∧ UnitAt (fun k => k = bu ∨ k = bm) w' bu bm u' ∧ Fr (fun k => k = bu ∨ k = bm) w w'

theorem do_plays (x : ActX) (u : U) (ma : Option Addr) (mc : Nat) (bu bm : Nat) (w : World)
    (hu : UnitAt (fun k => k = bu ∨ k = bm) w bu bm u) (hm : RList w (.slice ma u.doc.cells.length mc) u.doc.cells) (hd : Bytes w (.slice x.da x.d.length x.dc) x.d) (hdl : x.d.length ≤ 300) (huc : u.cells.length ≤ 1000000) :
    Calls Try.prog 21 #[.pointer (some ⟨bu, 0, none⟩), ruV u.doc ma mc, .agg #[.int .i64 x.k, .int .i64 x.e, .int .i64 x.a, .slice x.da x.d.length x.dc]] w (PlayR (uS (kindN x.k) u x.e x.a x.d).1 bu bm w) := by
  have hok := hu.ok
  have hlen : u.doc.cells.length = u.cells.length := sortC_len _
  refine (do_any x.k x.e x.a x.d x.da x.dc u.doc u ma mc bu bm w hu hm hd hdl (fun p hp => ?_) (by rw [hlen]; omega) huc).mono ?_
  · have hp' := (sortC_mem _ hok.nodup p).1 hp
    have h1 := hok.addr p hp'
    have h2 := hok.l0
    omega
  · rintro en w' ⟨ma', mc', rfl, h1, h2, h3⟩
    rw [play_all hok] at h1
    refine ⟨ma', mc', ?_, h1, h2, h3⟩
    rw [play_all hok]
    simp [okS, U.rSame]

/-- what holds at the head of a round -/
structure PlaysAt (W : World) (N : Nat) (bu bm : Nat) (k : Nat) (wr : World) : Prop where
  at' : ∃ (u : U) (ma : Option Addr) (mc : Nat), u.cells.length ≤ k ∧ UnitAt (fun k => k = bu ∨ k = bm) wr bu bm u ∧ BoxW N [.int .i64 u.doc.e, .int .i64 u.doc.l, .slice ma u.doc.cells.length mc] 46 wr ∧ RList wr (.slice ma u.doc.cells.length mc) u.doc.cells
  below : Below W.heap.size W wr

theorem plays_step {W wr wa w4 : World} {N bm k : Nat} {u u' : U} {ma ma' : Option Addr} {mc mc' : Nat} (hp : PlaysAt W N (bm + 1) bm k wr) (hn : bm + 1 < N ∧ W.heap.size ≤ bm)
    (hbox : BoxW N [.int .i64 u.doc.e, .int .i64 u.doc.l, .slice ma u.doc.cells.length mc] 46 wr) (ha : Below wr.heap.size wr wa) (hf : Fr (fun q => q = bm + 1 ∨ q = bm) wa w4)
    (hu : UnitAt (fun q => q = bm + 1 ∨ q = bm) w4 (bm + 1) bm u') (hr : RList w4 (.slice ma' u'.doc.cells.length mc') u'.doc.cells) (hl : u'.cells.length ≤ k + 1) :
    BoxW N [.int .i64 u.doc.e, .int .i64 u.doc.l, .slice ma u.doc.cells.length mc] 46 w4 ∧ N < w4.heap.size ∧
    PlaysAt W N (bm + 1) bm (k + 1) ((((w4.setCell ⟨N, 0, none⟩ (.int .i64 u'.doc.e)).setCell ⟨N, 1, none⟩ (.int .i64 u'.doc.l)).setCell ⟨N, 2, none⟩ (.slice ma' u'.doc.cells.length mc')).alloc (.cells #[.int .i64 u'.doc.e, .int .i64 u'.doc.l, .slice ma' u'.doc.cells.length mc'] 46)) := by
  obtain ⟨_, hb⟩ := hp
  have h5 := (hbox.below (Nat.le_refl _) ha).fr hf (by omega)
  have h4 : Below W.heap.size W w4 := (hb.trans (ha.mono hb.size)).trans (hf.below (Nat.le_trans hb.size ha.size) (by omega))
  refine ⟨h5, h5.lt, ?_⟩
  have h6 := BoxW.set3 (a' := .int .i64 u'.doc.e) (b' := .int .i64 u'.doc.l) (c' := .slice ma' u'.doc.cells.length mc') h5
  have hfN : Fr (fun q => q = N) w4 (((w4.setCell ⟨N, 0, none⟩ (.int .i64 u'.doc.e)).setCell ⟨N, 1, none⟩ (.int .i64 u'.doc.l)).setCell ⟨N, 2, none⟩ (.slice ma' u'.doc.cells.length mc')) :=
    ((fr_set _ _ _ _).trans (fr_set _ _ _ _) (fun i hi => .inl hi)).trans (fr_set _ _ _ _) (fun i hi => .inl hi)
  generalize (((w4.setCell ⟨N, 0, none⟩ (.int .i64 u'.doc.e)).setCell ⟨N, 1, none⟩ (.int .i64 u'.doc.l)).setCell ⟨N, 2, none⟩ (.slice ma' u'.doc.cells.length mc')) = w6 at *
  have hg : Below w6.heap.size w6 (w6.alloc (.cells #[.int .i64 u'.doc.e, .int .i64 u'.doc.l, .slice ma' u'.doc.cells.length mc'] 46)) := by go_grown
  generalize w6.alloc (.cells #[.int .i64 u'.doc.e, .int .i64 u'.doc.l, .slice ma' u'.doc.cells.length mc'] 46) = w7 at *
  have hby : ∀ b, byteV b ∉ [Value.int .i64 u.doc.e, .int .i64 u.doc.l, .slice ma u.doc.cells.length mc] := by intro b hb; simp [byteV] at hb
  have hst : ∀ b, Value.string b ∉ [Value.int .i64 u.doc.e, .int .i64 u.doc.l, .slice ma u.doc.cells.length mc] := by intro b hb; simp at hb
  have h7 := hfN.below (Nat.le_trans h4.size (Nat.le_refl _)) (B := W.heap.size) (by omega)
  exact ⟨⟨u', ma', mc', hl, (h5.unit hby hu hfN (by omega) (by omega)).below (Nat.le_refl _) hg, h6.below (Nat.le_refl _) hg, SlV.below (h5.rlist hst hr hfN) (Nat.le_refl _) hg⟩, (h4.trans h7).trans (hg.mono (Nat.le_trans h4.size hfN.size))⟩
theorem doc_new : U.new.doc = U.new := by simp [U.doc, U.new, sortC, sortA]
theorem plays_start {W w1 w2 : World} (hu : UnitAt (fun k => k = w1.heap.size + 1 ∨ k = w1.heap.size) w2 (w1.heap.size + 1) w1.heap.size U.new) (hb : Below W.heap.size W w2) (h1 : W.heap.size ≤ w1.heap.size) (h2 : w2.heap.size = w1.heap.size + 2) :
    PlaysAt W w2.heap.size (w1.heap.size + 1) w1.heap.size 0 (w2.alloc (.cells #[.int .i64 0, .int .i64 0, .slice none 0 0] 46)) := by
  have hg : Below w2.heap.size w2 (w2.alloc (.cells #[.int .i64 0, .int .i64 0, .slice none 0 0] 46)) := by go_grown
  refine ⟨⟨U.new, none, 0, Nat.le_refl _, hu.below (Nat.le_refl _) hg, ?_, ?_⟩, hb.trans (hg.mono (by omega))⟩
  · rw [doc_new]; exact BoxW.start w2 [.int .i64 0, .int .i64 0, .slice none 0 0] _
  · rw [doc_new]; exact SlV.empty _ _ _ (Nat.zero_le _) (fun _ => rfl)

set_option maxHeartbeats 4000000 in
theorem unitPlays_any (X : List ActX) (a : Option Addr) (c : Nat) (W : World) (h : ScriptAt W (.slice a X.length c) X) :
    Calls Try.prog 4 #[.slice a X.length c] W fun e w' => e = .returned (.bool true) ∧ Below W.heap.size W w' := by
  have HS := Lib.hid' h
  have hlen : X.length ≤ 9223372036854775807 := by obtain ⟨_, _, he, h1, h2, _⟩ := h.1; cases he; unfold maxLen at h2; omega
  clear h
  by_cases hx : 60 < X.length
  · go_enter Try.func4, Try.ntmps4
    go_wp2_with (go_at_call 19; refine (alive8_any _).mono ?_; rintro e w1 ⟨rfl, hb1⟩)
    go_ret
    exact ⟨rfl, hb1⟩
  · have hxd : decide ((60 : Int) < (X.length : Int)) = false := by simp; omega
    go_enter Try.func4, Try.ntmps4
    go_wp2_with fail
    refine (alive8_any _).mono ?_
    rintro e w1 ⟨rfl, hb1⟩
    have HB1 := Lib.hid' hb1
    clear hb1
    go_wp2_with fail
    refine (new_any _).mono ?_
    rintro e w2 ⟨rfl, hb2, hs2, hu2⟩
    have HU := Lib.hid' (hu2 (fun k => k = w1.heap.size + 1 ∨ k = w1.heap.size) (.inr rfl) (.inl rfl))
    have HB2 := Lib.hid' (HB1.out.trans (hb2.mono HB1.out.size))
    have HZ := Lib.hid' hs2
    clear hu2 hb2 hs2
    go_wp2_with fail
    have HP := Lib.hid' (plays_start (W := W) HU.out HB2.out HB1.out.size HZ.out)
    have HN := Lib.hid' (show w1.heap.size + 1 < w2.heap.size ∧ W.heap.size ≤ w1.heap.size by have := HZ.out; have := HB1.out.size; omega)
    clear HU HB2 HB1 HZ
    generalize w2.alloc (.cells #[.int .i64 0, .int .i64 0, .slice none 0 0] 46) = w3 at *
    generalize w2.heap.size = N at *
    generalize w1.heap.size = bm at *
    go_loopw [18] (fun v18 wr => ∃ k : Nat, v18 = .int .i64 k ∧ k ≤ X.length ∧ PlaysAt W N (bm + 1) bm k wr) (fun v18 _ => X.length - (intOf v18).toNat)
    case atStart => exact ⟨0, rfl, Nat.zero_le _, HP.out⟩
    case round =>
      obtain ⟨k, rfl, hk, hp⟩ := hrel
      have HPk := Lib.hid' hp
      clear hp HP
      by_cases hlt : k < X.length
      · obtain ⟨u, ma, mc, hl, hu, hbox, hr⟩ := HPk.out.at'
        obtain ⟨hsl, hby⟩ := HS.out.below (Nat.le_refl _) HPk.out.below
        obtain ⟨b, off, rfl, hb, hc⟩ := SlV.row (s := 4) (fun _ => rfl) (by decide) hsl hlt
        have c0 := hc 0 _ rfl; have c1 := hc 1 _ rfl; have c2 := hc 2 _ rfl; have c3 := hc 3 _ rfl
        simp only [Nat.add_zero] at c0
        have m0 := hbox.box.1 0 _ rfl; have m1 := hbox.box.1 1 _ rfl; have m2 := hbox.box.1 2 _ rfl
        have hns := hbox.lt
        by_cases hd : 300 < X[k].d.length
        · go_wp2_with fail
          go_ret
          exact ⟨rfl, HPk.out.below.trans ((show Below wr.heap.size wr _ by go_grown).mono HPk.out.below.size)⟩
        · have HU := Lib.hid' hu
          have HBx := Lib.hid' hbox
          have HR := Lib.hid' hr
          have HD := Lib.hid' (hby _ (List.getElem_mem hlt))
          have HL := Lib.hid' hl
          clear hu hbox hr hby hl hsl hc
          go_wp2_with fail
          have HBa := Lib.hid' (show Below wr.heap.size wr (wr.alloc (.cells #[.int .i64 X[k].k, .int .i64 X[k].e, .int .i64 X[k].a, .slice X[k].da X[k].d.length X[k].dc] 47)) by go_grown)
          generalize wr.alloc (.cells #[.int .i64 X[k].k, .int .i64 X[k].e, .int .i64 X[k].a, .slice X[k].da X[k].d.length X[k].dc] 47) = wa at *
          clear c0 c1 c2 c3 m0 m1 m2
          refine (do_plays X[k] u ma mc (bm + 1) bm wa (HU.out.below (Nat.le_refl _) HBa.out) (HR.out.below (Nat.le_refl _) HBa.out) (SlV.below HD.out (Nat.le_refl _) HBa.out) (by omega) (by have := HL.out; omega)).mono ?_
          rintro en w4 ⟨ma', mc', rfl, hr4, hu4, hf4⟩
          unfold ruV
          have HS4 := Lib.hid' (plays_step HPk.out HN.out HBx.out HBa.out hf4 hu4 hr4 (Nat.le_trans (uS_len _ _ _ _ _) (Nat.succ_le_succ HL.out)))
          clear hr4 hu4 hf4
          obtain ⟨hb4, hl4, hp4⟩ := HS4.out
          have n0 := hb4.box.1 0 _ rfl; have n1 := hb4.box.1 1 _ rfl; have n2 := hb4.box.1 2 _ rfl
          have f0 := hb4.box.2.1 0; have f1 := hb4.box.2.1 1; have f2 := hb4.box.2.1 2
          have HP4 := Lib.hid' hp4
          clear hp4 HS4 hb4
          go_wp2_with fail
          go_roundw
          case rel => exact ⟨k + 1, by go_num, by omega, HP4.out⟩
          case measure => simp [intOf]; omega
      · go_wp2_with fail
        go_ret
        exact ⟨rfl, HPk.out.below⟩
end Go.Proofs.Ytpgcaigoploncaa
