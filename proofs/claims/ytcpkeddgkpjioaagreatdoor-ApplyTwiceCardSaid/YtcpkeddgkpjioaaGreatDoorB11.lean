/- Proved here: a part of the proof (11 of 34). -/
import Derived.Test.YtcpkeddgkpjioaaGreatDoorB10
import Derived.Shelf.SlIterI.Nil
import Derived.Shelf.SortM.Plain
import Derived.Shelf.SortM.SortNone
import Derived.Ground.GgzProg
import Derived.Ground.SlgmProg
import Derived.Test.YtcpkeddgkpjioaaGreatDoorB1
import Derived.Test.YtcpkeddgkpjioaaGreatDoorB3
import Derived.Laws.StructEq
import Derived.Laws.Externs
import Derived.MapKept
import Derived.Test.YtcpkeddgkpjioaaGreatDoorB8
set_option linter.unusedSimpArgs false
set_option linter.unusedVariables false
set_option maxRecDepth 20000
namespace Go.Proofs.YtcpkeddgkpjioaaGreatDoor
open Go.RowKit

abbrev Ent := Int × C × Option Addr × Nat
def entV (x : Ent) : List Value := [.int .i64 x.1, .int .i64 x.2.1.k, .slice x.2.2.1 x.2.1.d.length x.2.2.2]
def ents (E : List Ent) : List Value := E.flatMap entV
theorem ents_append (L M : List Ent) : ents (L ++ M) = ents L ++ ents M := by simp [ents]
def noAd (x : Ent) : Int × C := (x.1, x.2.1)


theorem etEnt : ElemT Tryz.prog 235 238 3 40 := ElemT.mk' (z := .agg #[.int .i64 0, .int .i64 0, .slice none 0 0]) Tryz.underlying235 (by kernel_rfl) rfl (by decide) (by decide)
def sortA (M : List (Int × C)) : List Int := (M.map (·.1)).mergeSort (fun x y => decide (x ≤ y))
def sortC (M : List (Int × C)) : List (Int × C) := (sortA M).map (fun a => (a, lookC M a))

end Go.Proofs.YtcpkeddgkpjioaaGreatDoor

namespace Go.Proofs.YtcpkeddgkpjioaaGreatDoor

def Rise (S : List (Int × C)) : Prop := S.Pairwise (fun p q => p.1 < q.1)

theorem putC_len (L : List (Int × C)) (a : Int) (c : C) : (putC L a c).length ≤ L.length + 1 := by
 unfold putC; split <;> simp
end Go.Proofs.YtcpkeddgkpjioaaGreatDoor

namespace Go.Proofs.YtcpkeddgkpjioaaGreatDoor

structure M where
 u : U
 t : Int
structure M.ok (m : M) : Prop where
 u : m.u.ok
 e : m.u.e = 0
 lt : m.u.l ≤ m.t
 t1 : m.t ≤ 1048576
 below : ∀ p ∈ m.u.cells, p.1 < m.t
def M.put' (m : M) (a : Int) (c : C) : M := ⟨{ m.u with cells := putC m.u.cells a c }, max m.t (a + 1)⟩
def M.put (m : M) (a : Int) (x : C) : Nat × M :=
 if !inR a 1048575 then (1, m) else if x.check ≠ 0 then (x.check, m) else if x.k ≠ 1 ∧ x.k ≠ 2 then (2, m) else if (m.u.at a).k = 3 then (9, m) else if !C.may (m.u.at a) x then (8, m) else (0, m.put' a x)
def M.trim' (m : M) (b : Int) : M := ⟨{ m.u with l := max m.u.l b, cells := m.u.cells.filter (fun p => !decide (p.1 < max m.u.l b)) }, max m.t b⟩
def M.trim (m : M) (b : Int) : Nat × M := if !inR b 1048576 then (1, m) else (0, m.trim' b)
theorem check_zero {x : C} (h : x.check = 0) (hk : ¬ (x.k ≠ 1 ∧ x.k ≠ 2)) : (x.k = 1 ∨ x.k = 2 ∧ x.d = []) ∧ x.d.length ≤ 64 := by
 unfold C.check at h
 split at h; · cases h
 split at h; · cases h
 split at h; · cases h
 rename_i h1 h2 h3
 refine ⟨?_, by omega⟩
 by_cases h4 : x.k = 1
 ·exact .inl h4
 ·right
  have h5 : x.k = 2 := by omega
  refine ⟨h5, ?_⟩
  cases hd : x.d with
  | nil => rfl
  | cons b l => rw [hd] at h3; simp at h3; exact absurd h3 h4
end Go.Proofs.YtcpkeddgkpjioaaGreatDoor

namespace Go.Proofs.YtcpkeddgkpjioaaGreatDoor

end Go.Proofs.YtcpkeddgkpjioaaGreatDoor

namespace Go.Proofs.YtcpkeddgkpjioaaGreatDoor

def outE (l : Int) (p : Int × C) : Bool := decide (p.1 < l) || decide (1048576 ≤ p.1)
def noneE (p : Int × C) : Bool := p.2.k == 0 || p.2.k == 3
def firstBad : List (Int × C) → Nat
 | [] => 0
 | p :: E => if p.2.check ≠ 0 then p.2.check else firstBad E
def risesB : List (Int × C) → Bool
 | [] => true
 | [_] => true
 | x :: y :: E => decide (x.1 < y.1) && risesB (y :: E)
def rightErr (E : List (Int × C)) : Nat := if firstBad E ≠ 0 then firstBad E else if E.any noneE = true then 2 else if risesB E = true then 0 else 13
def ofErr (e l : Int) (E : List (Int × C)) : Nat :=
 if e < 0 ∨ 1099511627776 < e ∨ l < 0 ∨ 1048576 < l then 1 else if E.any (outE l) = true then 1 else rightErr E
theorem firstBad_zero {E : List (Int × C)} (h : firstBad E = 0) : ∀ p ∈ E, p.2.check = 0 := by
 induction E with
 | nil => simp
 | cons q E ih =>
  unfold firstBad at h
  split at h
  ·rename_i h1; exact absurd h h1
  ·rename_i h1
   intro p hp
   rcases List.mem_cons.1 hp with rfl | hp
   ·simpa using h1
   ·exact ih h p hp
theorem risesB_rise : ∀ {E : List (Int × C)}, risesB E = true → Rise E
 | [], _ => List.Pairwise.nil
 | [_], _ => by simp [Rise]
 | x :: y :: E, h => by
  simp only [risesB, Bool.and_eq_true, decide_eq_true_eq] at h
  have ih := risesB_rise h.2
  refine List.pairwise_cons.2 ⟨fun p hp => ?_, ih⟩
  rcases List.mem_cons.1 hp with rfl | hp
  ·exact h.1
  ·have := (List.pairwise_cons.1 ih).1 p hp
   omega
theorem rise_nodup {E : List (Int × C)} (h : Rise E) : (E.map (·.1)).Nodup := by
 unfold List.Nodup
 rw [List.pairwise_map]
 exact h.imp (fun h => by omega)
/-- the unit that is made -/
theorem of_ok {e l : Int} {E : List (Int × C)} (h : ofErr e l E = 0) : U.ok ⟨e, l, E⟩ ∧ Rise E := by
 unfold ofErr at h
 split at h; · cases h
 rename_i h1
 split at h; · cases h
 rename_i h2
 unfold rightErr at h
 split at h
 ·rename_i h3; exact absurd h h3
 rename_i h3
 split at h; · cases h
 rename_i h4
 split at h
 rotate_left
 ·cases h
 rename_i h5
 have hr := risesB_rise h5
 have hc := firstBad_zero (E := E) (by simpa using h3)
 have ho : ∀ p ∈ E, l ≤ p.1 ∧ p.1 < 1048576 := by
  intro p hp
  have : outE l p = false := by
   cases hq : outE l p with
   | false => rfl
   | true => exact absurd (List.any_eq_true.2 ⟨p, hp, hq⟩) h2
  unfold outE at this
  rw [Bool.or_eq_false_iff, decide_eq_false_iff_not, decide_eq_false_iff_not] at this
  omega
 refine ⟨⟨by show 0 ≤ e; omega, by show e ≤ _; omega, by show 0 ≤ l; omega, by show l ≤ _; omega, ho, fun p hp => ?_, rise_nodup hr⟩, hr⟩
 have h6 : noneE p = false := by
  cases hq : noneE p with
  | false => rfl
  | true => exact absurd (List.any_eq_true.2 ⟨p, hp, hq⟩) h4
 have h7 := hc p hp
 unfold noneE at h6
 rw [Bool.or_eq_false_iff, beq_eq_false_iff_ne, beq_eq_false_iff_ne] at h6
 refine check_zero h7 ?_
 intro h8
 unfold C.check at h7
 split at h7; · cases h7
 rename_i h9
 omega
theorem putC_new {L : List (Int × C)} {a : Int} {c : C} (h : ∀ p ∈ L, p.1 ≠ a) : putC L a c = L ++ [(a, c)] := by
 unfold putC
 rw [if_neg]
 rw [List.any_eq_true]
 rintro ⟨p, hp, he⟩
 exact h p hp (by simpa using he)
/-- the map that is filled -/
theorem of_step {E : List (Int × C)} (h : Rise E) {k : Nat} (hk : k < E.length) : putC (E.take k) E[k].1 E[k].2 = E.take (k + 1) := by
 rw [putC_new, List.take_succ_eq_append_getElem hk]
 intro p hp
 obtain ⟨j, hj, rfl⟩ := List.getElem_of_mem hp
 have hjk : j < k := by rw [List.length_take] at hj; omega
 rw [List.getElem_take]
 have := List.pairwise_iff_getElem.1 h j k (by omega) hk hjk
 omega
end Go.Proofs.YtcpkeddgkpjioaaGreatDoor

namespace Go.Proofs.YtcpkeddgkpjioaaGreatDoor

def cellB (c : C) : List UInt8 := vb c.k.toNat ++ (if c.k = 1 then headB c.d else [])
def entsB : Int → List (Int × C) → List UInt8
 | _, [] => []
 | f, p :: L => vb (p.1 - f).toNat ++ (cellB p.2 ++ entsB (p.1 + 1) L)
def unitB (e l : Int) (L : List (Int × C)) : List UInt8 := vb e.toNat ++ (vb l.toNat ++ (vb L.length ++ entsB l L))
def RD.cell (r : RD) : C × RD :=
 if (if (r.within 3).1 = 1 then (r.within 3).2.text 64 else ([], (r.within 3).2)).2.bad ≠ 0 then (⟨0, []⟩, (if (r.within 3).1 = 1 then (r.within 3).2.text 64 else ([], (r.within 3).2)).2)
 else (⟨((r.within 3).1 : Nat), (if (r.within 3).1 = 1 then (r.within 3).2.text 64 else ([], (r.within 3).2)).1⟩, (if (r.within 3).1 = 1 then (r.within 3).2.text 64 else ([], (r.within 3).2)).2)
/-- the reader ahead of an entry's cell -/
def RD.by1 (r : RD) (f : Int) : RD := if (1048576 - f).toNat ≤ r.num.1 then r.num.2.fail 1 else r.num.2
def RD.ents : Nat → Int → RD → List (Int × C) → List (Int × C) × RD
 | 0, _, r, acc => (acc, r)
 | n + 1, f, r, acc => if (r.by1 f).cell.2.bad ≠ 0 then ([], (r.by1 f).cell.2) else RD.ents n (f + (r.num.1 : Nat) + 1) (r.by1 f).cell.2 (acc ++ [(f + (r.num.1 : Nat), (r.by1 f).cell.1)])
def readU (r : RD) : U × RD :=
 let e := r.within 1099511627776
 let l := e.2.within 1048576
 let m := l.2.num
 let x := RD.ents (min m.1 65536) (l.1 : Nat) (if 65536 < m.1 then m.2.fail 3 else m.2) []
 (⟨(e.1 : Nat), (l.1 : Nat), x.1⟩, x.2)
def U.zero : U := ⟨0, 0, []⟩
def takeU (b : List UInt8) : Nat × U :=
 if (fone b).1 ≠ 0 then ((fone b).1, U.zero) else
  if (readU ⟨(fone b).2, 0⟩).2.fin ≠ 0 then ((readU ⟨(fone b).2, 0⟩).2.fin, U.zero)
  else if (readU ⟨(fone b).2, 0⟩).1.cells.any noneE = true then (2, U.zero) else (0, (readU ⟨(fone b).2, 0⟩).1)
def putU (e l : Int) (L : List (Int × C)) : Nat × List UInt8 := if 65536 < (unitB e l L).length then (3, []) else (0, frameB (unitB e l L))
theorem RD.cell_bad {r : RD} (h : r.bad ≠ 0) : r.cell = (⟨0, []⟩, r) := by
 unfold RD.cell
 rw [RD.within_bad h]
 simp [h]
theorem check_mk {k : Int} {d : List UInt8} (h1 : 0 ≤ k) (h2 : k ≤ 3) (h3 : d.length ≤ 64) (h4 : k ≠ 1 → d = []) : (⟨k, d⟩ : C).check = 0 := by
 unfold C.check
 simp only
 rw [if_neg (by omega), if_neg (by omega), if_neg]
 rintro ⟨h5, h6⟩
 rw [h4 h6] at h5
 simp at h5
theorem RD.cell_ok {r : RD} (h : r.cell.2.bad = 0) : r.bad = 0 ∧ r.rest = cellB r.cell.1 ++ r.cell.2.rest ∧ r.cell.1.check = 0 := by
 unfold RD.cell at h ⊢
 generalize hw : r.within 3 = p at h ⊢
 obtain ⟨k, s⟩ := p
 simp only at h ⊢
 generalize hx : (if k = 1 then s.text 64 else ([], s)) = x at h ⊢
 obtain ⟨d, s2⟩ := x
 simp only at h ⊢
 by_cases hb : s2.bad = 0
 ·rw [if_neg (by simpa using hb)]
  simp only
  by_cases hk : k = 1
  ·rw [if_pos hk] at hx
   have h2 := RD.text_ok (r := s) (most := 64) (by rw [hx]; exact hb)
   rw [hx] at h2
   have h1 := RD.within_ok (r := r) (most := 3) (by rw [hw]; exact h2.1)
   rw [hw] at h1
   simp only at h1 h2
   subst hk
   refine ⟨h1.1, ?_, check_mk (by decide) (by decide) h2.2.2 (fun h => absurd rfl h)⟩
   unfold cellB
   simp only [if_true, show (((1 : Nat) : Int)) = 1 from rfl, show Int.toNat 1 = 1 from rfl]
   rw [h1.2.1, h2.2.1, List.append_assoc]
  ·rw [if_neg hk] at hx
   simp only [Prod.mk.injEq] at hx
   obtain ⟨rfl, rfl⟩ := hx
   have h1 := RD.within_ok (r := r) (most := 3) (by rw [hw]; exact hb)
   rw [hw] at h1
   simp only at h1
   refine ⟨h1.1, ?_, check_mk (by omega) (by omega) (by simp) (fun _ => rfl)⟩
   unfold cellB
   simp only
   rw [if_neg (by omega), List.append_nil, h1.2.1, Int.toNat_natCast]
 ·rw [if_pos hb] at h
  exact absurd h hb
def RightL (f : Int) (L : List (Int × C)) : Prop := (∀ p ∈ L, f ≤ p.1 ∧ p.1 < 1048576 ∧ p.2.check = 0) ∧ Rise L
theorem RightL.tail {f : Int} {p : Int × C} {L : List (Int × C)} (h : RightL f (p :: L)) : RightL (p.1 + 1) L := by
 obtain ⟨h1, h2⟩ := h
 obtain ⟨h3, h4⟩ := List.pairwise_cons.1 h2
 exact ⟨fun q hq => ⟨by have := h3 q hq; omega, (h1 q (List.mem_cons_of_mem _ hq)).2⟩, h4⟩
theorem RD.ents_ok : ∀ (n : Nat) (f : Int) (r : RD) (acc : List (Int × C)), 0 ≤ f → f ≤ 1048576 → (RD.ents n f r acc).2.bad = 0 →
  ∃ L, (RD.ents n f r acc).1 = acc ++ L ∧ L.length = n ∧ r.bad = 0 ∧ r.rest = entsB f L ++ (RD.ents n f r acc).2.rest ∧ RightL f L
 | 0, f, r, acc, h0, h1, h => ⟨[], by simp [RD.ents], rfl, h, by simp [RD.ents, entsB], ⟨by simp, List.Pairwise.nil⟩⟩
 | n + 1, f, r, acc, h0, h1, h => by
  unfold RD.ents at h ⊢
  by_cases hc : (r.by1 f).cell.2.bad = 0
  ·rw [if_neg (by simpa using hc)] at h ⊢
   obtain ⟨g1, g2, g3⟩ := RD.cell_ok hc
   have hr : ¬ (1048576 - f).toNat ≤ r.num.1 := by
    intro hr
    unfold RD.by1 at g1
    rw [if_pos hr] at g1
    exact RD.fail_bad _ (by decide) g1
   have hb : r.by1 f = r.num.2 := by unfold RD.by1; rw [if_neg hr]
   rw [hb] at g1 g2 g3 h hc ⊢
   obtain ⟨k1, k2⟩ := RD.num_ok g1
   obtain ⟨L, e1, e2, e3, e4, e5⟩ := RD.ents_ok n (f + (r.num.1 : Nat) + 1) r.num.2.cell.2 (acc ++ [(f + (r.num.1 : Nat), r.num.2.cell.1)]) (by omega) (by omega) h
   refine ⟨(f + (r.num.1 : Nat), r.num.2.cell.1) :: L, by rw [e1]; simp, by simp [e2], k1, ?_, ?_⟩
   ·rw [k2, g2, e4]
    simp only [entsB, List.append_assoc]
    rw [show (f + (r.num.1 : Nat) - f).toNat = r.num.1 by omega]
   ·refine ⟨fun p hp => ?_, List.pairwise_cons.2 ⟨fun q hq => ?_, e5.2⟩⟩
    ·rcases List.mem_cons.1 hp with rfl | hp
     ·exact ⟨by show f ≤ f + _; omega, by show f + _ < _; omega, g3⟩
     ·obtain ⟨a1, a2, a3⟩ := e5.1 p hp
      exact ⟨by omega, a2, a3⟩
    ·have := (e5.1 q hq).1
     show f + ((r.num.1 : Nat) : Int) < q.1
     omega
  ·rw [if_pos hc] at h
   exact absurd h hc
theorem rise_rises : ∀ {L : List (Int × C)}, Rise L → risesB L = true
 | [], _ => rfl
 | [_], _ => rfl
 | x :: y :: L, h => by
  obtain ⟨h1, h2⟩ := List.pairwise_cons.1 h
  simp only [risesB, Bool.and_eq_true, decide_eq_true_eq]
  exact ⟨h1 y List.mem_cons_self, rise_rises h2⟩
theorem firstBad_none : ∀ {L : List (Int × C)}, (∀ p ∈ L, p.2.check = 0) → firstBad L = 0
 | [], _ => rfl
 | p :: L, h => by
  unfold firstBad
  rw [if_neg (by simpa using h p List.mem_cons_self)]
  exact firstBad_none (fun q hq => h q (List.mem_cons_of_mem _ hq))
theorem of_right {e l : Int} {L : List (Int × C)} (h1 : 0 ≤ e) (h2 : e ≤ 1099511627776) (h3 : 0 ≤ l) (h4 : l ≤ 1048576) (hR : RightL l L) (hn : ¬ L.any noneE = true) : ofErr e l L = 0 := by
 unfold ofErr rightErr
 rw [if_neg (by omega), if_neg, firstBad_none (fun p hp => (hR.1 p hp).2.2)]
 ·simp only [ne_eq, not_true_eq_false, if_false]
  rw [if_neg hn, if_pos (rise_rises hR.2)]
 ·rw [List.any_eq_true]
  rintro ⟨p, hp, hx⟩
  obtain ⟨a1, a2, _⟩ := hR.1 p hp
  unfold outE at hx
  simp only [Bool.or_eq_true, decide_eq_true_eq] at hx
  omega
/-- what is taken is right, and has just those bytes -/
theorem takeU_ok {b : List UInt8} {u : U} (h : takeU b = (0, u)) : ofErr u.e u.l u.cells = 0 ∧ frameB (unitB u.e u.l u.cells) = b ∧ (unitB u.e u.l u.cells).length ≤ 65536 ∧ u.cells.length ≤ 65536 := by
 unfold takeU at h
 split at h
 ·rename_i h1; simp only [Prod.mk.injEq] at h; exact absurd h.1 h1
 rename_i h1
 have hf : fone b = (0, (fone b).2) := by
  have : (fone b).1 = 0 := by simpa using h1
  rw [← this]
 obtain ⟨g1, g2⟩ := fone_ok hf
 generalize (fone b).2 = t at *
 split at h
 ·rename_i h2; simp only [Prod.mk.injEq] at h; exact absurd h.1 h2
 rename_i h2
 split at h
 ·cases h
 rename_i h3
 simp only [Prod.mk.injEq, true_and] at h
 subst h
 obtain ⟨b1, b2⟩ := RD.fin_ok (by simpa using h2)
 unfold readU at b1 b2 h3 ⊢
 simp only at b1 b2 h3 ⊢
 generalize hw : RD.within ⟨t, 0⟩ 1099511627776 = e at *
 obtain ⟨ev, er⟩ := e
 simp only at b1 b2 h3 ⊢
 generalize hw2 : er.within 1048576 = l at *
 obtain ⟨lv, lr⟩ := l
 simp only at b1 b2 h3 ⊢
 have hlv : lv ≤ 1048576 := by
  have : (er.within 1048576).1 = lv := by rw [hw2]
  rw [← this]
  unfold RD.within
  split
  ·simp
  ·omega
 obtain ⟨L, e1, e2, e3, e4, e5⟩ := RD.ents_ok _ (lv : Nat) _ [] (by omega) (by omega) b1
 have hm : ¬ 65536 < lr.num.1 := by
  intro hm
  rw [if_pos hm] at e3
  exact RD.fail_bad _ (by decide) e3
 rw [if_neg hm] at e3 e4 e1 h3 b2 ⊢
 rw [show min lr.num.1 65536 = lr.num.1 by omega] at e1 e2 e4 h3 b2 ⊢
 rw [List.nil_append] at e1
 rw [e1] at h3 ⊢
 rw [b2, List.append_nil] at e4
 obtain ⟨k1, k2⟩ := RD.num_ok e3
 have k3 := RD.within_ok (r := er) (most := 1048576) (by rw [hw2]; exact k1)
 rw [hw2] at k3
 have k4 := RD.within_ok (r := ⟨t, 0⟩) (most := 1099511627776) (by rw [hw]; exact k3.1)
 rw [hw] at k4
 simp only at k3 k4
 have ht : unitB (ev : Nat) (lv : Nat) L = t := by
  unfold unitB
  rw [k4.2.1, k3.2.1, k2, e4, e2]
  simp
 refine ⟨of_right (by omega) (by have := k4.2.2; omega) (by omega) (by omega) e5 h3, by rw [ht]; exact g1, by rw [ht]; exact g2, by omega⟩
end Go.Proofs.YtcpkeddgkpjioaaGreatDoor

namespace Go.Proofs.YtcpkeddgkpjioaaGreatDoor
open Go.RowKit

/-- no byte lies in a unit's own two blocks -/
theorem UnitAt.no_byte {A : Nat → Prop} {w : World} {bu bm : Nat} {u : U} (h : UnitAt A w bu bm u) {p : Addr} {b : UInt8} (hp : w.cell? p = some (byteV b)) : ¬ (p.block = bu ∨ p.block = bm) := by
 obtain ⟨blk, off, row⟩ := p
 obtain ⟨L, ⟨es, clock, h1, _⟩, _⟩ := h.map
 rintro (rfl | rfl)
 ·unfold World.cell? at hp
  rw [h.blk] at hp
  simp only at hp
  split at hp
  ·cases hp
  ·match off with
   | 0 => simp [byteV] at hp
   | 1 => simp [byteV] at hp
   | 2 => simp [byteV] at hp
   | n + 3 => simp at hp
 ·unfold World.cell? at hp
  rw [h1] at hp
  simp only at hp
  cases hp
theorem UnitAt.bytes {A : Nat → Prop} {w w' : World} {bu bm : Nat} {u : U} (h : UnitAt A w bu bm u) {v : Value} {d : List UInt8} (hd : Bytes w v d) (hf : Fr (fun k => k = bu ∨ k = bm) w w') : Bytes w' v d := by
 obtain ⟨a, cap, rfl, h1, h2, h3, h4⟩ := hd
 refine ⟨a, cap, rfl, h1, h2, h3, fun j x hx => ?_⟩
 obtain ⟨p, hp, hc⟩ := h4 j x hx
 refine ⟨p, hp, hf.cell hc ?_⟩
 have hx' : ∃ b, x = byteV b := by
  simp only [byteVs, List.getElem?_map] at hx
  cases hq : d[j]? with
  | none => rw [hq] at hx; simp at hx
  | some b => rw [hq] at hx; simp at hx; exact ⟨b, hx.symm⟩
 obtain ⟨b, rfl⟩ := hx'
 exact h.no_byte hc

end Go.Proofs.YtcpkeddgkpjioaaGreatDoor

namespace Go.Proofs.YtcpkeddgkpjioaaGreatDoor
open Go.RowKit

theorem run_equalIn_map_nil' {P : Program} {w : World} (d : Nat) (t k e : TypeId) (p : Option Nat) (h : P.underlying t = some (.map k e)) :
  (Op.equalIn (d + 1) t (.map p) (.map none)).run P w = .ok p.isNone w := by
 cases p <;> simp [Op.equalIn, run_underlying h]
theorem run_eql_map_nil' {P : Program} {w : World} (t k e : TypeId) (p : Option Nat) (h : P.underlying t = some (.map k e)) :
  (binOp .eql t (.map p) (.map none)).run P w = .ok (.bool p.isNone) w := by
 simp only [binOp]
 simp [show Op.equal t (.map p) (.map none) = Op.equalIn (9999 + 1) t (.map p) (.map none) from rfl, run_equalIn_map_nil' 9999 t k e p h]
theorem run_typeAssert_map' {P : Program} {w : World} (t xT k e : TypeId) (v : Value) (h : P.underlying t = some (.map k e)) : (Instr.typeAssert (.iface t v) xT t false).run P w = .ok v w := by
 simp [Instr.typeAssert, run_underlying h, go_sem, Result.andThen]
theorem run_maps_clone' {P : Program} {w : World} {r : Nat} {es : Array MapEntry} {clock : Nat} (t : TypeId) (hb : w.heap[r]? = some (.map es clock)) :
  (Extern.MapsClone.clone #[.iface t (.map (some r))]).run P w = .ok (.iface t (.map (some w.heap.size))) (w.alloc (.map es clock)) := by
 have e : Extern.MapsClone.clone #[.iface t (.map (some r))] = (getObj r >>= fun o => match o with
   | .map entries clock => (newObj (.map entries clock) >>= fun n => pure (.iface t (.map (some n))))
   | _ => stuck "maps.clone: a map expected") := rfl
 rw [e]
 simp [MapKept.run_getObj_map hb, Result.andThen, go_sem]

def CloneR (bm : Nat) (L : List (Int × Value)) (w : World) (en : Ending) (w' : World) : Prop :=
 en = .returned (.map (some w.heap.size)) ∧ Below w.heap.size w w' ∧ w'.heap.size = w.heap.size + 1 ∧ MapAt w' w.heap.size L
set_option maxHeartbeats 1000000 in
theorem mclone_any (bm : Nat) (L : List (Int × Value)) (w : World) (h : MapAt w bm L) : Calls Tryz.prog 126 #[.map (some bm)] w (CloneR bm L w) := by
 obtain ⟨es, clock, hb, hs⟩ := h
 have hq := fun w => run_eql_map_nil' (P := Tryz.prog) (w := w) 136 _ _ (some bm) Tryz.underlying136
 go_enter Tryz.func126, Tryz.ntmps126
 go_wp2
 rw [run_callFunc_extern Tryz.func177 (by kernel_rfl) (by kernel_rfl) (by kernel_rfl) (e := Extern.MapsClone.clone) (by kernel_rfl), run_maps_clone' (w := w) 136 hb]
 simp only [Result.andThen]
 rw [Oper.upon_value]
 go_wp2
 rw [run_typeAssert_map' 136 _ _ _ _ Tryz.underlying136]
 simp only [Result.andThen]
 rw [Oper.upon_value]
 go_wp2
 go_ret
 exact ⟨rfl, by go_grown, by simp, ⟨es, clock, by show (w.heap.push _)[w.heap.size]? = _; simp, hs⟩⟩

/-- one apart -/
def CopyUR (A0 : Nat → Prop) (u : U) (w : World) (en : Ending) (w' : World) : Prop :=
 en = .returned (.pointer (some ⟨w.heap.size + 1, 0, none⟩)) ∧ Below w.heap.size w w' ∧ w'.heap.size = w.heap.size + 2 ∧
  ∀ A : Nat → Prop, (∀ k, A k → A0 k ∨ w.heap.size ≤ k) → A w.heap.size → A (w.heap.size + 1) → UnitAt A w' (w.heap.size + 1) w.heap.size u
theorem EntIs.weak {A A' : Nat → Prop} {w : World} {p : Int × Value} {q : Int × C} (h : EntIs A w p q) (hA : ∀ k, A' k → A k ∨ w.heap.size ≤ k) : EntIs A' w p q := by
 obtain ⟨h1, a, cap, h2, h3, h4⟩ := h
 refine ⟨h1, a, cap, h2, h3, fun x hx => ⟨fun hk => ?_, (h4 x hx).2⟩⟩
 rcases hA _ hk with h5 | h5
 ·exact (h4 x hx).1 h5
 ·have := (h4 x hx).2; omega
set_option maxHeartbeats 1000000 in
theorem ucopy_any {A : Nat → Prop} {bu bm : Nat} {u : U} (w : World) (h : UnitAt A w bu bm u) : Calls Tryz.prog 95 #[.pointer (some ⟨bu, 0, none⟩)] w (CopyUR A u w) := by
 obtain ⟨c0, c1, c2⟩ := h.cell
 have hlt := h.lt.1
 obtain ⟨L, hm, hL⟩ := h.map
 have H := Lib.hid' h
 have HM := Lib.hid' hm
 have HL := Lib.hid' hL
 clear h hm hL
 go_enter Tryz.func95, Tryz.ntmps95
 go_wp2_with fail
 refine wp_region_held_drew (S := (fun w' => w'.cell? ⟨bu, 0, none⟩ = some (.int .i64 u.e) ∧ w'.cell? ⟨bu, 1, none⟩ = some (.int .i64 u.l) ∧ w'.cell? ⟨bu, 2, none⟩ = some (.map (some bm)))) (by kernel_rfl) ⟨by simpa using c0, by simpa using c1, by simpa using c2⟩ (fun hH0 => ?_)
 refine tA 0 (.pointer (some ⟨bu, 0, none⟩)) rfl hH0 ?_ ?_
 ·intro w hSw; go_simp
 simp only [Act.put, gA, gZ, gS, sA, sZ, sS]
 refine tA 1 (.pointer (some ⟨bu, 0, none⟩)) rfl hH0 ?_ ?_
 ·intro w hSw; go_simp
 simp only [Act.put, gA, gZ, gS, sA, sZ, sS]
 refine tA 2 (.pointer (some ⟨bu, 0, none⟩)) rfl hH0 ?_ ?_
 ·intro w hSw; go_simp
 simp only [Act.put, gA, gZ, gS, sA, sZ, sS]
 refine tA 3 (.int .i64 u.e) rfl hH0 ?_ ?_
 ·intro w hSw; go_simp
 simp only [Act.put, gA, gZ, gS, sA, sZ, sS]
 refine tA 4 (.pointer (some ⟨bu, 0, none⟩)) rfl hH0 ?_ ?_
 ·intro w hSw; go_simp
 simp only [Act.put, gA, gZ, gS, sA, sZ, sS]
 refine tA 5 (.pointer (some ⟨bu, 0, none⟩)) rfl hH0 ?_ ?_
 ·intro w hSw; go_simp
 simp only [Act.put, gA, gZ, gS, sA, sZ, sS]
 refine tA 6 (.pointer (some ⟨bu, 1, none⟩)) rfl hH0 ?_ ?_
 ·intro w hSw; go_simp
 simp only [Act.put, gA, gZ, gS, sA, sZ, sS]
 refine tA 7 (.int .i64 u.l) rfl hH0 ?_ ?_
 ·intro w hSw; go_simp
 simp only [Act.put, gA, gZ, gS, sA, sZ, sS]
 refine tA 8 (.pointer (some ⟨bu, 0, none⟩)) rfl hH0 ?_ ?_
 ·intro w hSw; go_simp
 simp only [Act.put, gA, gZ, gS, sA, sZ, sS]
 refine tA 9 (.pointer (some ⟨bu, 0, none⟩)) rfl hH0 ?_ ?_
 ·intro w hSw; go_simp
 simp only [Act.put, gA, gZ, gS, sA, sZ, sS]
 refine tA 10 (.pointer (some ⟨bu, 2, none⟩)) rfl hH0 ?_ ?_
 ·intro w hSw; go_simp
 simp only [Act.put, gA, gZ, gS, sA, sZ, sS]
 refine tA 11 (.map (some bm)) rfl hH0 ?_ ?_
 ·intro w hSw; go_simp
 simp only [Act.put, gA, gZ, gS, sA, sZ, sS]
 refine rD 12 rfl (fun K hK => ?_)
 go_simp
 refine (mclone_any bm L w.drew (HM.out.block rfl)).mono ?_
 rintro en w2 ⟨rfl, hb2, hz2', hm2⟩
 have hz2 : w2.heap.size = w.heap.size + 1 := hz2'
 clear hz2'
 have HM2 := Zh (show MapAt w2 w.heap.size L from hm2)
 have HB2 := Zh (show Below w.heap.size w w2 from (Below.drew (Below.refl _ _)).trans hb2)
 have z0 := (HB2.out.cell (p := ⟨bu, 0, none⟩) hlt).trans c0
 have z1 := (HB2.out.cell (p := ⟨bu, 1, none⟩) hlt).trans c1
 have z2 := (HB2.out.cell (p := ⟨bu, 2, none⟩) hlt).trans c2
 have hlt2 : bu < w2.heap.size := by omega
 clear hm2 hb2
 refine hK.out _ _ ?_ (fun hH1 => ?_)
 ·exact ⟨z0, z1, z2⟩
 clear hK K
 refine tA 13 (.agg #[.int .i64 u.e, .int .i64 u.l, .map (some w.heap.size)]) rfl hH1 ?_ ?_
 ·intro w hSw; go_simp
 simp only [Act.put, gA, gZ, gS, sA, sZ, sS]
 refine rD 14 rfl (fun K hK => ?_)
 go_simp
 refine hK.out _ _ ?_ (fun hH2 => ?_)
 ·refine ⟨?_, ?_, ?_⟩ <;> simp [go_sem, z0, z1, z2, hlt2]
 clear hK K
 refine tA 15 (.pointer (some ⟨w2.heap.size, 0, none⟩)) rfl hH2 ?_ ?_
 ·intro w hSw; go_simp
 simp only [Act.put, gA, gZ, gS, sA, sZ, sS]
 refine wpAnyH_done (by kernel_rfl) ?_ _
 go_wp2
 go_ret
 rw [hz2]
 refine ⟨rfl, ?_, by simp [hz2], fun A' hA h1 h2 => ?_⟩
 ·exact HB2.out.trans ((show Below w2.heap.size w2 _ by go_grown).mono (by omega))
 ·have hblk := heap_alloc2_new
  refine ⟨?_, ⟨L, HM2.out.block (Below.heap_alloc _ _ _ (by omega)), ?_⟩, H.out.ok, h2, h1⟩
  ·rw [← hz2]; show (w2.heap.push _)[w2.heap.size]? = _; simp
  ·refine HL.out.mono fun q r _ _ hqr => (hqr.weak hA).fr (F := fun k => False) (Fr.of_below ?_) (fun _ h => h.elim)
   exact HB2.out.trans ((show Below w2.heap.size w2 _ by go_grown).mono (by omega))

end Go.Proofs.YtcpkeddgkpjioaaGreatDoor

namespace Go.Proofs.YtcpkeddgkpjioaaGreatDoor
open Go.RowKit
abbrev PoolL := List (Value × List UInt8)
/-- an entry of a map of cells, its bytes in the pool -/
def CRel (vs : PoolL) (x : Int × Value) (y : Int × C) : Prop := x.1 = y.1 ∧ ∃ a c, x.2 = .agg #[.int .i64 y.2.k, .slice a y.2.d.length c] ∧ (Value.slice a y.2.d.length c, y.2.d) ∈ vs
def Asn.unit (bu bm : Nat) (u : U) (vs : PoolL) : Asn where
 holds := fun w => w.heap[bu]? = some (.cells #[.int .i64 u.e, .int .i64 u.l, .map (some bm)] 138 (0, 0)) ∧ (∃ L, MapAt w bm L ∧ F2 (CRel vs) L u.cells) ∧ u.ok
 foot := fun k => k = bu ∨ k = bm
 lt := fun w h b hb => by
  obtain ⟨h1, ⟨L, h2, _⟩, _⟩ := h
  rcases hb with rfl | rfl
  ·exact (Array.getElem?_eq_some_iff.1 h1).1
  ·exact h2.lt
 keep := fun w w' h k => ⟨(k bu (.inl rfl)).trans h.1, by
  obtain ⟨L, h2, h3⟩ := h.2.1
  exact ⟨L, h2.block (k bm (.inr rfl)), h3⟩, h.2.2⟩
theorem Asn.unit_more {w : World} {bu bm : Nat} {u : U} {vs us : PoolL} (h : (Asn.unit bu bm u vs).holds w) (hs : ∀ x ∈ vs, x ∈ us) : (Asn.unit bu bm u us).holds w := by
 obtain ⟨h1, ⟨L, h2, h3⟩, h4⟩ := h
 exact ⟨h1, ⟨L, h2, h3.mono (fun _ _ _ _ ⟨q1, a, c, q2, q3⟩ => ⟨q1, a, c, q2, hs _ q3⟩)⟩, h4⟩
/-- what a call with the unit may not have told of its bytes -/
def Off (w : World) (Z : Nat → Prop) : Nat → Prop := fun k => k < w.heap.size ∧ ¬ Z k
theorem Asn.unitAt {w : World} {bu bm : Nat} {u : U} {vs : PoolL} {Z : Nat → Prop} (h : (Asn.unit bu bm u vs).holds w) (hp : (Asn.pool Z vs).holds w) (h1 : ¬ Z bu) (h2 : ¬ Z bm) : UnitAt (Off w Z) w bu bm u := by
 have hl1 := (Asn.unit bu bm u vs).lt w h bu (.inl rfl)
 have hl2 := (Asn.unit bu bm u vs).lt w h bm (.inr rfl)
 obtain ⟨q1, ⟨L, q2, q3⟩, q4⟩ := h
 refine ⟨q1, ⟨L, q2, q3.mono (fun x y _ _ ⟨r1, a, c, r2, r3⟩ => ⟨r1, a, c, r2, (hp.1 _ r3).1, fun p hpa => ?_⟩)⟩, q4, ⟨hl1, h1⟩, ⟨hl2, h2⟩⟩
 have hz : Z p.block := (hp.1 _ r3).2 p _ _ (by rw [hpa])
 exact ⟨fun hk => hk.2 hz, hp.2 _ hz⟩
theorem Sep.unitAt {w0 w : World} {F Z : Nat → Prop} {bu bm : Nat} {u : U} {vs : PoolL} {L : List Asn} (h : Sep w0 F (Asn.unit bu bm u vs :: Asn.pool Z vs :: L) w) : UnitAt (Off w Z) w bu bm u :=
 Asn.unitAt (h.at 0 rfl) (h.at 1 rfl) (h.off 0 1 rfl rfl (by decide) bu (.inl rfl)) (h.off 0 1 rfl rfl (by decide) bm (.inr rfl))
/-- the bytes of a unit's cells -/
theorem unit_pool {A : Nat → Prop} {w : World} {bu bm : Nat} {u : U} (h : UnitAt A w bu bm u) : ∃ us : PoolL, (Asn.unit bu bm u us).holds w ∧ ∀ x ∈ us, Bytes w x.1 x.2 ∧ SlIn (fun k => ¬ A k ∧ k < w.heap.size) x.1 := by
 obtain ⟨L, h1, h2⟩ := h.map
 have key : ∀ (L : List (Int × Value)) (M : List (Int × C)), F2 (EntIs A w) L M → ∃ us : PoolL, F2 (CRel us) L M ∧ ∀ x ∈ us, Bytes w x.1 x.2 ∧ SlIn (fun k => ¬ A k ∧ k < w.heap.size) x.1 := by
  intro L M h
  induction h with
  | nil => exact ⟨[], .nil, by simp⟩
  | cons hab _ ih =>
   obtain ⟨us, q1, q2⟩ := ih
   obtain ⟨r1, a, c, r2, r3, r4⟩ := hab
   refine ⟨(Value.slice a _ c, _) :: us, .cons ⟨r1, a, c, r2, List.mem_cons_self⟩ (q1.mono (fun _ _ _ _ ⟨s1, a, c, s2, s3⟩ => ⟨s1, a, c, s2, List.mem_cons_of_mem _ s3⟩)), fun x hx => ?_⟩
   rcases List.mem_cons.1 hx with rfl | hx
   ·refine ⟨r3, fun p n cc hv => ?_⟩
    simp only [Value.slice.injEq] at hv
    exact r4 p hv.1
   ·exact q2 x hx
 obtain ⟨us, q1, q2⟩ := key L u.cells h2
 exact ⟨us, ⟨h.blk, ⟨L, h1, q1⟩, h.ok⟩, q2⟩
/-- behind a call with the unit that told its world anew -/
theorem Sep.unitCall {w0 w w' : World} {F Z : Nat → Prop} {bu bm : Nat} {u u' : U} {vs : PoolL} {L : List Asn} (h : Sep w0 F (Asn.unit bu bm u vs :: Asn.pool Z vs :: L) w) (hU : UnitAt (Off w Z) w' bu bm u') (hf : Fr (fun k => k = bu ∨ k = bm) w w') :
  ∃ Z' vs', (∀ x ∈ vs, x ∈ vs') ∧ Sep w0 F (Asn.unit bu bm u' vs' :: Asn.pool Z' vs' :: L) w' := by
 obtain ⟨us, q1, q2⟩ := unit_pool hU
 have hbu := h.lt' 0 rfl (b := bu) (.inl rfl)
 have hbm := h.lt' 0 rfl (b := bm) (.inr rfl)
 have hzu : ¬ Z bu := h.off 0 1 rfl rfl (by decide) bu (.inl rfl)
 have hzm : ¬ Z bm := h.off 0 1 rfl rfl (by decide) bm (.inr rfl)
 have hp := h.at 1 rfl
 have hp' : (Asn.pool Z vs).holds w' := (Asn.pool Z vs).keep w w' hp (fun b hb => hf.block b (hp.2 b hb) (by rintro (rfl | rfl); exact hzu hb; exact hzm hb))
 refine ⟨fun k => Z k ∨ (w.heap.size ≤ k ∧ k < w'.heap.size), vs ++ us, fun x hx => List.mem_append_left _ hx, ?_⟩
 have h1 : Sep w0 F ((Asn.unit bu bm u vs).sep (Asn.pool Z vs) :: L) w := h.join
 have h2 : Sep w0 F ((Asn.unit bu bm u' (vs ++ us)).sep (Asn.pool (fun k => Z k ∨ (w.heap.size ≤ k ∧ k < w'.heap.size)) (vs ++ us)) :: L) w' := by
  refine h1.fr1 (hf.mono (fun i hi => .inl hi)) ⟨Asn.unit_more q1 (fun x hx => List.mem_append_right _ hx), ⟨fun x hx => ?_, fun b hb => ?_⟩, fun b hb hc => ?_⟩ (fun b hb => ?_)
  ·rcases List.mem_append.1 hx with hx | hx
   ·exact ⟨(hp'.1 x hx).1, fun p n c hv => .inl ((hp'.1 x hx).2 p n c hv)⟩
   ·refine ⟨(q2 x hx).1, fun p n c hv => ?_⟩
    obtain ⟨r1, r2⟩ := (q2 x hx).2 p n c hv
    by_cases hz : Z p.block
    ·exact .inl hz
    ·exact .inr ⟨Nat.le_of_not_lt (fun hlt => r1 ⟨hlt, hz⟩), r2⟩
  ·rcases hb with hb | hb
   ·exact hp'.2 b hb
   ·exact hb.2
  ·rcases hb with rfl | rfl
   ·rcases hc with hc | hc
    ·exact hzu hc
    ·omega
   ·rcases hc with hc | hc
    ·exact hzm hc
    ·omega
  ·rcases hb with hb | hb | hb
   ·exact .inr (.inl hb)
   ·exact .inr (.inr hb)
   ·exact .inl hb.1
 exact h2.part
/-- a new unit, its bytes in the pool, or new -/
theorem Sep.unitNew {w0 w w' : World} {F Z : Nat → Prop} {bu bm : Nat} {u : U} {vs : PoolL} {L : List Asn} (h : Sep w0 F (Asn.pool Z vs :: L) w) (hb : Below w.heap.size w w') (h1 : w.heap.size ≤ bu) (h2 : w.heap.size ≤ bm) (hU : UnitAt (fun k => Off w Z k ∨ k = bu ∨ k = bm) w' bu bm u) :
  ∃ Z' vs', (∀ x ∈ vs, x ∈ vs') ∧ Sep w0 F (Asn.unit bu bm u vs' :: Asn.pool Z' vs' :: L) w' := by
 obtain ⟨us, q1, q2⟩ := unit_pool hU
 have hl1 := (Asn.unit bu bm u us).lt w' q1 bu (.inl rfl)
 have hl2 := (Asn.unit bu bm u us).lt w' q1 bm (.inr rfl)
 have hp := h.at 0 rfl
 have hp' : (Asn.pool Z vs).holds w' := (Asn.pool Z vs).keep w w' hp (fun b hb' => hb.block b (hp.2 b hb'))
 refine ⟨fun k => Z k ∨ ((w.heap.size ≤ k ∧ k < w'.heap.size) ∧ k ≠ bu ∧ k ≠ bm), vs ++ us, fun x hx => List.mem_append_left _ hx, ?_⟩
 have h3 : Sep w0 F ((Asn.unit bu bm u (vs ++ us)).sep (Asn.pool (fun k => Z k ∨ ((w.heap.size ≤ k ∧ k < w'.heap.size) ∧ k ≠ bu ∧ k ≠ bm)) (vs ++ us)) :: L) w' := by
  refine h.fr1 (Fr.of_below hb) ⟨Asn.unit_more q1 (fun x hx => List.mem_append_right _ hx), ⟨fun x hx => ?_, fun b hb => ?_⟩, fun b hb hc => ?_⟩ (fun b hb => ?_)
  ·rcases List.mem_append.1 hx with hx | hx
   ·exact ⟨(hp'.1 x hx).1, fun p n c hv => .inl ((hp'.1 x hx).2 p n c hv)⟩
   ·refine ⟨(q2 x hx).1, fun p n c hv => ?_⟩
    obtain ⟨r1, r2⟩ := (q2 x hx).2 p n c hv
    by_cases hz : Z p.block
    ·exact .inl hz
    ·exact .inr ⟨⟨Nat.le_of_not_lt (fun hlt => r1 (.inl ⟨hlt, hz⟩)), r2⟩, fun e => r1 (.inr (.inl e)), fun e => r1 (.inr (.inr e))⟩
  ·rcases hb with hb | hb
   ·exact hp'.2 b hb
   ·exact hb.1.2
  ·rcases hb with rfl | rfl
   ·rcases hc with hc | hc
    ·have := hp.2 b hc; omega
    ·exact hc.2.1 rfl
   ·rcases hc with hc | hc
    ·have := hp.2 b hc; omega
    ·exact hc.2.2 rfl
  ·rcases hb with (rfl | rfl) | hb | hb
   ·exact .inl h1
   ·exact .inl h2
   ·exact .inr hb
   ·exact .inl hb.1.1
 exact h3.part
end Go.Proofs.YtcpkeddgkpjioaaGreatDoor

namespace Go.Proofs.YtcpkeddgkpjioaaGreatDoor
open Go.RowKit

/-- a list of entries, and where their data lie -/
def EL (w : World) (a : Option Addr) (c : Nat) (E : List Ent) : Prop := SlV w (.slice a E.length c) E.length (E.flatMap entV) ∧ ∀ x ∈ E, Bytes w (.slice x.2.2.1 x.2.1.d.length x.2.2.2) x.2.1.d
theorem EL.below {w w' : World} {a : Option Addr} {c : Nat} {E : List Ent} (h : EL w a c E) {B : Nat} (hB : w.heap.size ≤ B) (hb : Below B w w') : EL w' a c E :=
 ⟨SlV.below h.1 hB hb, fun x hx => SlV.below (h.2 x hx) hB hb⟩
theorem EL.len {w : World} {a : Option Addr} {c : Nat} {E : List Ent} (h : EL w a c E) : E.length ≤ 9223372036854775807 := by
 obtain ⟨_, _, he, h1, h2, _⟩ := h.1; cases he; unfold maxLen at h2; omega
def withinN (l : Int) (E : List Ent) : Nat := if E.any (fun x => outE l (noAd x)) then 1 else 0
def docE (E : List Ent) : List (Int × C) := E.map noAd
theorem take_any {α : Type} (f : α → Bool) (L : List α) (k : Nat) (hk : k < L.length) : (L.take (k + 1)).any f = ((L.take k).any f || f L[k]) := by
 rw [List.take_succ_eq_append_getElem hk, List.any_append]; simp
set_option maxHeartbeats 1000000 in
theorem within_any (l : Int) (E : List Ent) (a : Option Addr) (c : Nat) (W : World) (h : EL W a c E) :
  Calls Tryz.prog 219 #[.int .i64 l, .slice a E.length c] W fun e w' => e = .returned (errV (withinN l E)) ∧ Below W.heap.size W w' := by
 have HS := Lib.hid' h
 have hlen := h.len
 clear h
 go_enter Tryz.func219, Tryz.ntmps219
 go_wp2_with fail
 go_loopw [9] (fun v9 wr => ∃ k : Nat, v9 = .int .i64 k ∧ k ≤ E.length ∧ (E.take k).any (fun x => outE l (noAd x)) = false ∧ Below W.heap.size W wr) (fun v9 _ => E.length - (intOf v9).toNat)
 case atStart => exact ⟨0, rfl, Nat.zero_le _, by simp, Below.refl _ _⟩
 case round =>
  obtain ⟨k, rfl, hk, hno, hbw⟩ := hrel
  have HNO := Lib.hid' hno
  have HBW := Lib.hid' hbw
  clear hno hbw
  by_cases hlt : k < E.length
  ·obtain ⟨hsl, hby⟩ := HS.out.below (Nat.le_refl _) HBW.out
   obtain ⟨b, off, rfl, hb, hc⟩ := SlV.row (s := 3) (fun _ => rfl) (by decide) hsl hlt
   have c0 := hc 0 _ rfl; have c1 := hc 1 _ rfl; have c2 := hc 2 _ rfl
   simp only [Nat.add_zero] at c0
   have HTK := Zh (take_any (fun x => outE l (noAd x)) E k hlt)
   have HMEM := Zh (List.getElem_mem hlt)
   clear hc hsl hby
   generalize E[k] = x at *
   obtain ⟨xa, xc, xd, xn⟩ := x
   by_cases hq : xa < l ∨ 1048576 ≤ xa
   ·have HF := Zh (show withinN l E = 1 from if_pos (List.any_eq_true.2 ⟨_, HMEM.out, by show (decide (xa < l) || decide (1048576 ≤ xa)) = true; simpa using hq⟩))
    have hq2 : xa < l ∨ (¬ xa < l ∧ xa ≥ 1048576) := by omega
    clear hq
    rcases hq2 with hq | ⟨hq1, hq⟩
    all_goals
     go_wp2_with fail
     go_ret
     exact ⟨ret_eq (by rw [HF.out]; rfl), HBW.out.trans ((show Below wr.heap.size wr _ by go_grown).mono HBW.out.size)⟩
   ·have HT := Zh (show (E.take (k + 1)).any (fun x => outE l (noAd x)) = false by
     rw [HTK.out, HNO.out]; show (false || (decide (xa < l) || decide (1048576 ≤ xa))) = false; rw [Bool.false_or, Bool.or_eq_false_iff, decide_eq_false_iff_not, decide_eq_false_iff_not]; omega)
    have q1 : ¬ xa < l := by omega
    have q2 : ¬ xa ≥ 1048576 := by omega
    clear hq HTK
    go_wp2_with fail
    go_roundw
    case rel => exact ⟨k + 1, by go_num, by omega, HT.out, HBW.out.trans ((show Below wr.heap.size wr _ by go_grown).mono HBW.out.size)⟩
    case measure => simp [intOf]; omega
  ·have HF := Zh (show withinN l E = 0 by
    have := HNO.out; rw [List.take_of_length_le (by omega)] at this; unfold withinN; rw [this]; rfl)
   go_wp2_with fail
   go_ret
   exact ⟨ret_eq (by rw [HF.out]; rfl), HBW.out⟩

end Go.Proofs.YtcpkeddgkpjioaaGreatDoor

namespace Go.Proofs.YtcpkeddgkpjioaaGreatDoor
open Go.RowKit

theorem risesB_iff : ∀ E : List (Int × C), risesB E = true ↔ ∀ j, 0 < j → (h : j < E.length) → (E[j - 1]'(by omega)).1 < E[j].1
 | [] => by simp [risesB]
 | [x] => by
  simp only [risesB, true_iff]
  intro j h0 h1; simp at h1; omega
 | x :: y :: E => by
  have ih := risesB_iff (y :: E)
  simp only [risesB, Bool.and_eq_true, decide_eq_true_eq, ih]
  constructor
  ·rintro ⟨h1, h2⟩ j h0 hj
   match j, h0 with
   | 1, _ => exact h1
   | j + 2, _ => have := h2 (j + 1) (by omega) (by simpa using hj); simpa using this
  ·intro h
   refine ⟨h 1 (by omega) (by simp), fun j h0 hj => ?_⟩
   obtain ⟨i, rfl⟩ : ∃ i, j = i + 1 := ⟨j - 1, by omega⟩
   have := h (i + 2) (by omega) (by simpa using hj)
   simpa using this
theorem right1_any (x y : Ent) (w : World) : Calls Tryz.prog 247 #[.agg #[.int .i64 x.1, .int .i64 x.2.1.k, .slice x.2.2.1 x.2.1.d.length x.2.2.2], .agg #[.int .i64 y.1, .int .i64 y.2.1.k, .slice y.2.2.1 y.2.1.d.length y.2.2.2]] w
  fun e w' => e = .returned (.int .i64 (if x.1 ≤ y.1 then -1 else 1)) ∧ Below w.heap.size w w' := by
 by_cases h : x.1 ≤ y.1
 ·rw [if_pos h]
  go_enter Tryz.func247, Tryz.ntmps247
  go_wp2
  go_ret
  exact ⟨rfl, by go_grown⟩
 ·rw [if_neg h]
  go_enter Tryz.func247, Tryz.ntmps247
  go_wp2
  go_ret
  exact ⟨rfl, by go_grown⟩
set_option maxHeartbeats 1000000 in
theorem rises_any (E : List Ent) (a : Option Addr) (c : Nat) (W : World) (h : EL W a c E) :
  Calls Tryz.prog 246 #[.slice a E.length c, .func (.func 247) #[] #[]] W fun e w' => e = .returned (.bool (risesB (docE E))) ∧ Below W.heap.size W w' := by
 have HS := Lib.hid' h
 have hlen := h.len
 clear h
 go_enter Tryz.func246, Tryz.ntmps246
 go_wp2_with fail
 go_loopw [5] (fun v5 wr => ∃ k : Int, v5 = .int .i64 k ∧ -1 ≤ k ∧ k < E.length ∧ (∀ j, k < (j : Nat) → (hj : j < E.length) → 0 < j → (E[j - 1]'(by omega)).1 < E[j].1) ∧ Below W.heap.size W wr) (fun v5 _ => (intOf v5 + 1).toNat)
 case atStart => exact ⟨(E.length : Int) - 1, rfl, by omega, by omega, fun j h1 h2 _ => by omega, Below.refl _ _⟩
 case round =>
  obtain ⟨k, rfl, hk0, hk1, hok, hbw⟩ := hrel
  have HOK := Lib.hid' hok
  have HBW := Lib.hid' hbw
  clear hok hbw
  by_cases hpos : 0 < k
  rotate_left
  ·have HF := Zh (show risesB (docE E) = true by
    rw [risesB_iff]
    intro j h0 hj
    have hj' : j < E.length := by simpa [docE] using hj
    have := HOK.out j (by omega) hj' h0
    simpa [docE, noAd] using this)
   go_wp2_with fail
   go_ret
   exact ⟨ret_eq (by rw [HF.out]; rfl), HBW.out⟩
  obtain ⟨n, rfl⟩ : ∃ n : Nat, k = (n : Int) + 1 := ⟨(k - 1).toNat, by omega⟩
  have hn : n + 1 < E.length := by omega
  have hn0 : n < E.length := by omega
  obtain ⟨hsl, hby⟩ := HS.out.below (Nat.le_refl _) HBW.out
  obtain ⟨b, off, hae, hb, hc⟩ := SlV.row (s := 3) (fun _ => rfl) (by decide) hsl hn
  obtain ⟨b', off', hae', _, hc'⟩ := SlV.row (s := 3) (fun _ => rfl) (by decide) hsl hn0
  subst hae
  simp only [Option.some.injEq, Addr.mk.injEq, and_true] at hae'
  obtain ⟨rfl, rfl⟩ := hae'
  have c0 := hc 0 _ rfl; have c1 := hc 1 _ rfl; have c2 := hc 2 _ rfl
  have e0 := hc' 0 _ rfl; have e1 := hc' 1 _ rfl; have e2 := hc' 2 _ rfl
  simp only [Nat.add_zero] at c0 e0
  have HX := Zh (show (E[n + 1 - 1]'(by omega)) = E[n] from rfl)
  clear hc hc' hsl hby
  generalize hx : E[n + 1] = x at *
  generalize hy : E[n] = y at *
  have HXE := Lib.hid' hx
  have HYE := Lib.hid' hy
  clear hx hy
  obtain ⟨xa, xc, xd, xn⟩ := x
  obtain ⟨ya, yc, yd, yn⟩ := y
  go_upto_region 4 with fail
  by_cases hle : xa ≤ ya
  ·refine wp_region_held_drew (S := (fun w' => w'.cell? ⟨b, off + (n + 1) * 3, none⟩ = some (.int .i64 xa) ∧ w'.cell? ⟨b, off + (n + 1) * 3 + 1, none⟩ = some (.int .i64 xc.k) ∧ w'.cell? ⟨b, off + (n + 1) * 3 + 2, none⟩ = some (.slice xd xc.d.length xn) ∧ w'.cell? ⟨b, off + n * 3, none⟩ = some (.int .i64 ya) ∧ w'.cell? ⟨b, off + n * 3 + 1, none⟩ = some (.int .i64 yc.k) ∧ w'.cell? ⟨b, off + n * 3 + 2, none⟩ = some (.slice yd yc.d.length yn))) (by kernel_rfl) ⟨by simpa using c0, by simpa using c1, by simpa using c2, by simpa using e0, by simpa using e1, by simpa using e2⟩ (fun hH0 => ?_)
   refine tA 0 (.func (.func 247) #[] #[]) rfl hH0 ?_ ?_
   ·intro w hSw; go_simp
   simp only [Act.put, gA, gZ, gS, sA, sZ, sS]
   refine tA 1 (.slice (some ⟨b, off, none⟩) E.length c) rfl hH0 ?_ ?_
   ·intro w hSw; go_simp
   simp only [Act.put, gA, gZ, gS, sA, sZ, sS]
   refine tA 2 (.int .i64 ((n : Int) + 1)) rfl hH0 ?_ ?_
   ·intro w hSw; go_simp
   simp only [Act.put, gA, gZ, gS, sA, sZ, sS]
   refine tA 3 (.pointer (some ⟨b, off + (n + 1) * 3, none⟩)) rfl hH0 ?_ ?_
   ·intro w hSw; go_simp; (try (intro h; exfalso; omega))
   simp only [Act.put, gA, gZ, gS, sA, sZ, sS]
   refine tA 4 (.agg #[.int .i64 xa, .int .i64 xc.k, .slice xd xc.d.length xn]) rfl hH0 ?_ ?_
   ·intro w hSw; go_simp
   simp only [Act.put, gA, gZ, gS, sA, sZ, sS]
   refine tA 5 (.slice (some ⟨b, off, none⟩) E.length c) rfl hH0 ?_ ?_
   ·intro w hSw; go_simp
   simp only [Act.put, gA, gZ, gS, sA, sZ, sS]
   refine tA 6 (.int .i64 ((n : Int) + 1)) rfl hH0 ?_ ?_
   ·intro w hSw; go_simp
   simp only [Act.put, gA, gZ, gS, sA, sZ, sS]
   refine tA 7 (.int .i64 (n : Int)) rfl hH0 ?_ ?_
   ·intro w hSw; go_simp; first | exact IntWalk.i64_in _ (by omega) | exact IntWalk.i64_in _ (by omega) (by omega)
   simp only [Act.put, gA, gZ, gS, sA, sZ, sS]
   refine tA 8 (.pointer (some ⟨b, off + n * 3, none⟩)) rfl hH0 ?_ ?_
   ·intro w hSw; go_simp
   simp only [Act.put, gA, gZ, gS, sA, sZ, sS]
   refine tA 9 (.agg #[.int .i64 ya, .int .i64 yc.k, .slice yd yc.d.length yn]) rfl hH0 ?_ ?_
   ·intro w hSw; go_simp
   simp only [Act.put, gA, gZ, gS, sA, sZ, sS]
   refine rD 10 rfl (fun K hK => ?_)
   go_simp
   refine (right1_any (xa, xc, xd, xn) (ya, yc, yd, yn) _).mono ?_
   rintro en w5 ⟨rfl, hb5'⟩
   have hb5 : Below wr.heap.size wr w5 := (Below.drew (Below.refl _ _)).trans hb5'
   clear hb5'
   rw [if_pos hle]
   have HB5 := Lib.hid' hb5
   have d0 := (hb5.cell (p := ⟨b, off + (n + 1) * 3, none⟩) hb).trans c0
   have d1 := (hb5.cell (p := ⟨b, off + (n + 1) * 3 + 1, none⟩) hb).trans c1
   have d2 := (hb5.cell (p := ⟨b, off + (n + 1) * 3 + 2, none⟩) hb).trans c2
   have d3 := (hb5.cell (p := ⟨b, off + n * 3, none⟩) hb).trans e0
   have d4 := (hb5.cell (p := ⟨b, off + n * 3 + 1, none⟩) hb).trans e1
   have d5 := (hb5.cell (p := ⟨b, off + n * 3 + 2, none⟩) hb).trans e2
   refine hK.out _ _ ?_ (fun hH1 => ?_)
   ·exact ⟨d0, d1, d2, d3, d4, d5⟩
   clear hK K
   refine tA 11 (.bool true) rfl hH1 ?_ ?_
   ·intro w hSw; go_simp
   simp only [Act.put, gA, gZ, gS, sA, sZ, sS]
   refine wpAnyH_done (by kernel_rfl) ?_ _
   have HF := Zh (show risesB (docE E) = false by
    rw [Bool.eq_false_iff]; intro hr
    have h5 := (risesB_iff _).1 hr (n + 1) (by omega) (by simpa [docE] using hn)
    simp only [docE, List.getElem_map, noAd, Nat.add_sub_cancel, HXE.out, HYE.out] at h5
    omega)
   go_wp2_with fail
   go_ret
   exact ⟨ret_eq (by rw [HF.out]; rfl), HBW.out.trans (HB5.out.mono HBW.out.size)⟩
  ·refine wp_region_held_drew (S := (fun w' => w'.cell? ⟨b, off + (n + 1) * 3, none⟩ = some (.int .i64 xa) ∧ w'.cell? ⟨b, off + (n + 1) * 3 + 1, none⟩ = some (.int .i64 xc.k) ∧ w'.cell? ⟨b, off + (n + 1) * 3 + 2, none⟩ = some (.slice xd xc.d.length xn) ∧ w'.cell? ⟨b, off + n * 3, none⟩ = some (.int .i64 ya) ∧ w'.cell? ⟨b, off + n * 3 + 1, none⟩ = some (.int .i64 yc.k) ∧ w'.cell? ⟨b, off + n * 3 + 2, none⟩ = some (.slice yd yc.d.length yn))) (by kernel_rfl) ⟨by simpa using c0, by simpa using c1, by simpa using c2, by simpa using e0, by simpa using e1, by simpa using e2⟩ (fun hH0 => ?_)
   refine tA 0 (.func (.func 247) #[] #[]) rfl hH0 ?_ ?_
   ·intro w hSw; go_simp
   simp only [Act.put, gA, gZ, gS, sA, sZ, sS]
   refine tA 1 (.slice (some ⟨b, off, none⟩) E.length c) rfl hH0 ?_ ?_
   ·intro w hSw; go_simp
   simp only [Act.put, gA, gZ, gS, sA, sZ, sS]
   refine tA 2 (.int .i64 ((n : Int) + 1)) rfl hH0 ?_ ?_
   ·intro w hSw; go_simp
   simp only [Act.put, gA, gZ, gS, sA, sZ, sS]
   refine tA 3 (.pointer (some ⟨b, off + (n + 1) * 3, none⟩)) rfl hH0 ?_ ?_
   ·intro w hSw; go_simp; (try (intro h; exfalso; omega))
   simp only [Act.put, gA, gZ, gS, sA, sZ, sS]
   refine tA 4 (.agg #[.int .i64 xa, .int .i64 xc.k, .slice xd xc.d.length xn]) rfl hH0 ?_ ?_
   ·intro w hSw; go_simp
   simp only [Act.put, gA, gZ, gS, sA, sZ, sS]
   refine tA 5 (.slice (some ⟨b, off, none⟩) E.length c) rfl hH0 ?_ ?_
   ·intro w hSw; go_simp
   simp only [Act.put, gA, gZ, gS, sA, sZ, sS]
   refine tA 6 (.int .i64 ((n : Int) + 1)) rfl hH0 ?_ ?_
   ·intro w hSw; go_simp
   simp only [Act.put, gA, gZ, gS, sA, sZ, sS]
   refine tA 7 (.int .i64 (n : Int)) rfl hH0 ?_ ?_
   ·intro w hSw; go_simp; first | exact IntWalk.i64_in _ (by omega) | exact IntWalk.i64_in _ (by omega) (by omega)
   simp only [Act.put, gA, gZ, gS, sA, sZ, sS]
   refine tA 8 (.pointer (some ⟨b, off + n * 3, none⟩)) rfl hH0 ?_ ?_
   ·intro w hSw; go_simp
   simp only [Act.put, gA, gZ, gS, sA, sZ, sS]
   refine tA 9 (.agg #[.int .i64 ya, .int .i64 yc.k, .slice yd yc.d.length yn]) rfl hH0 ?_ ?_
   ·intro w hSw; go_simp
   simp only [Act.put, gA, gZ, gS, sA, sZ, sS]
   refine rD 10 rfl (fun K hK => ?_)
   go_simp
   refine (right1_any (xa, xc, xd, xn) (ya, yc, yd, yn) _).mono ?_
   rintro en w5 ⟨rfl, hb5'⟩
   have hb5 : Below wr.heap.size wr w5 := (Below.drew (Below.refl _ _)).trans hb5'
   clear hb5'
   rw [if_neg hle]
   have HB5 := Lib.hid' hb5
   have d0 := (hb5.cell (p := ⟨b, off + (n + 1) * 3, none⟩) hb).trans c0
   have d1 := (hb5.cell (p := ⟨b, off + (n + 1) * 3 + 1, none⟩) hb).trans c1
   have d2 := (hb5.cell (p := ⟨b, off + (n + 1) * 3 + 2, none⟩) hb).trans c2
   have d3 := (hb5.cell (p := ⟨b, off + n * 3, none⟩) hb).trans e0
   have d4 := (hb5.cell (p := ⟨b, off + n * 3 + 1, none⟩) hb).trans e1
   have d5 := (hb5.cell (p := ⟨b, off + n * 3 + 2, none⟩) hb).trans e2
   refine hK.out _ _ ?_ (fun hH1 => ?_)
   ·exact ⟨d0, d1, d2, d3, d4, d5⟩
   clear hK K
   refine tA 11 (.bool false) rfl hH1 ?_ ?_
   ·intro w hSw; go_simp
   simp only [Act.put, gA, gZ, gS, sA, sZ, sS]
   refine wpAnyH_done (by kernel_rfl) ?_ _
   go_wp2_with fail
   go_roundw
   case rel =>
    refine ⟨(n : Int), by go_num, by omega, by omega, fun j h1 h2 h3 => ?_, HBW.out.trans (HB5.out.mono HBW.out.size)⟩
    by_cases hj : j = n + 1
    ·subst hj
     have h6 := HXE.out; have h7 := HYE.out
     rw [h6, show (E[n + 1 - 1]'(by omega)) = (ya, yc, yd, yn) from h7]
     show ya < xa
     omega
    ·exact HOK.out j (by omega) h2 h3
   case measure => simp [intOf]; omega

end Go.Proofs.YtcpkeddgkpjioaaGreatDoor

namespace Go.Proofs.YtcpkeddgkpjioaaGreatDoor
open Go.RowKit

theorem firstBad_take {L : List (Int × C)} {k : Nat} (hk : k < L.length) (h : firstBad (L.take k) = 0) : firstBad (L.take (k + 1)) = L[k].2.check ∧ (L[k].2.check ≠ 0 → firstBad L = L[k].2.check) := by
 induction L generalizing k with
 | nil => simp at hk
 | cons q L ih =>
  cases k with
  | zero =>
   refine ⟨?_, fun h0 => ?_⟩
   ·simp only [List.take_succ_cons, List.take_zero, firstBad, List.getElem_cons_zero]
    split <;> simp_all
   ·simp only [List.getElem_cons_zero] at h0 ⊢
    unfold firstBad; rw [if_pos h0]
  | succ k =>
   simp only [List.take_succ_cons, firstBad] at h
   split at h
   ·rename_i h1; exact absurd h h1
   ·rename_i h1
    obtain ⟨i1, i2⟩ := ih (by simpa using hk) h
    refine ⟨?_, fun h0 => ?_⟩
    ·simp only [List.take_succ_cons, firstBad, if_neg h1, List.getElem_cons_succ]; exact i1
    ·simp only [List.getElem_cons_succ] at h0 ⊢
     unfold firstBad; rw [if_neg h1]; exact i2 h0
theorem docE_get (E : List Ent) (k : Nat) (hk : k < E.length) : (docE E)[k]'(by simpa [docE] using hk) = (E[k].1, E[k].2.1) := by simp [docE, noAd]
theorem docE_len (E : List Ent) : (docE E).length = E.length := by simp [docE]
set_option maxHeartbeats 2000000 in
theorem right_any (E : List Ent) (a : Option Addr) (c : Nat) (W : World) (h : EL W a c E) :
  Calls Tryz.prog 220 #[.slice a E.length c] W fun e w' => e = .returned (errV (rightErr (docE E))) ∧ Below W.heap.size W w' := by
 have HS := Lib.hid' h
 have hlen := h.len
 clear h
 go_enter Tryz.func220, Tryz.ntmps220
 go_wp2_with fail
 go_loopw [11] (fun v11 wr => ∃ k : Nat, v11 = .int .i64 k ∧ k ≤ E.length ∧ firstBad ((docE E).take k) = 0 ∧ Below W.heap.size W wr) (fun v11 _ => E.length - (intOf v11).toNat)
 case atStart => exact ⟨0, rfl, Nat.zero_le _, by simp [firstBad], Below.refl _ _⟩
 case round =>
  obtain ⟨k, rfl, hk, hno, hbw⟩ := hrel
  have HNO := Lib.hid' hno
  have HBW := Lib.hid' hbw
  clear hno hbw
  by_cases hlt : k < E.length
  ·obtain ⟨hsl, hby⟩ := HS.out.below (Nat.le_refl _) HBW.out
   obtain ⟨b, off, rfl, hb, hc⟩ := SlV.row (s := 3) (fun _ => rfl) (by decide) hsl hlt
   have c0 := hc 0 _ rfl; have c1 := hc 1 _ rfl; have c2 := hc 2 _ rfl
   simp only [Nat.add_zero] at c0
   have hFB := firstBad_take (L := docE E) (k := k) (by rw [docE_len]; exact hlt) HNO.out
   rw [docE_get E k hlt] at hFB
   have HFB := Lib.hid' hFB
   have HY := Zh (hby _ (List.getElem_mem hlt))
   clear hc hsl hby hFB
   generalize E[k] = x at *
   obtain ⟨xa, xc, xd, xn⟩ := x
   simp only at HFB HY
   go_wp2_with fail
   have hg : Below wr.heap.size wr (wr.alloc (.cells #[.int .i64 xa, .int .i64 xc.k, .slice xd xc.d.length xn] 238)) := by go_grown
   refine (check_any _ xc _ ⟨xd, xn, rfl, SlV.below HY.out (Nat.le_refl _) hg⟩).mono ?_
   rintro en w5 ⟨rfl, hb5⟩
   have HB5 := Zh (HBW.out.trans ((hg.trans (hb5.mono hg.size)).mono HBW.out.size))
   clear hb5 hg
   by_cases hq : xc.check = 0
   ·have HT := Zh (show firstBad ((docE E).take (k + 1)) = 0 from HFB.out.1.trans hq)
    rw [hq, errV_0]
    clear hq
    go_wp2_with fail
    go_roundw
    case rel => exact ⟨k + 1, by go_num, by omega, HT.out, HB5.out⟩
    case measure => simp [intOf]; omega
   ·have HF := Zh (show rightErr (docE E) = xc.check by
     have h1 := HFB.out.2 hq
     unfold rightErr; rw [h1, if_pos hq])
    have HQ := Lib.hid' hq
    rw [errV_pos hq]
    clear hq
    go_wp2_with fail
    go_ret
    exact ⟨ret_eq (by rw [HF.out, errV_pos HQ.out]; rfl), HB5.out⟩
  ·have HFB := Zh (show firstBad (docE E) = 0 by have := HNO.out; rwa [List.take_of_length_le (by rw [docE_len]; omega)] at this)
   go_wp2_with fail
   have HB0 := HBW
   obtain ⟨wo, rfl⟩ : ∃ wo : World, wo = wr := ⟨_, rfl⟩
   go_loopw [24] (fun v24 wr => ∃ k : Nat, v24 = .int .i64 k ∧ k ≤ E.length ∧ (E.take k).any (fun x => noneE (noAd x)) = false ∧ Below W.heap.size W wr) (fun v24 _ => E.length - (intOf v24).toNat)
   case atStart => exact ⟨0, rfl, Nat.zero_le _, by simp, HB0.out⟩
   case round =>
    obtain ⟨j, rfl, hj, hno2, hbw2⟩ := hrel
    have HN2 := Lib.hid' hno2
    have HBW2 := Lib.hid' hbw2
    clear hno2 hbw2
    have hAny : E.any (fun x => noneE (noAd x)) = (docE E).any noneE := by simp [docE, List.any_map, Function.comp_def]
    have HANY := Lib.hid' hAny
    clear hAny
    by_cases hltj : j < E.length
    ·obtain ⟨hsl, hby⟩ := HS.out.below (Nat.le_refl _) HBW2.out
     obtain ⟨b, off, rfl, hb, hc⟩ := SlV.row (s := 3) (fun _ => rfl) (by decide) hsl hltj
     have c0 := hc 0 _ rfl; have c1 := hc 1 _ rfl; have c2 := hc 2 _ rfl
     simp only [Nat.add_zero] at c0
     have HTK := Zh (take_any (fun x => noneE (noAd x)) E j hltj)
     have HMEM := Zh (List.getElem_mem hltj)
     clear hc hsl hby
     generalize E[j] = x at *
     obtain ⟨xa, xc, xd, xn⟩ := x
     by_cases hq : xc.k = 0 ∨ xc.k = 3
     ·have HF := Zh (show rightErr (docE E) = 2 by
       unfold rightErr
       rw [HFB.out, if_neg (by decide), if_pos]
       rw [← HANY.out, List.any_eq_true]
       exact ⟨_, HMEM.out, by simp only [noneE, noAd, Bool.or_eq_true, beq_iff_eq]; exact hq⟩)
      have hq2 : (xc.k == 0) = true ∨ ((xc.k == 0) = false ∧ (xc.k == 3) = true) := by
       by_cases h0 : xc.k = 0
       ·left; simp [h0]
       ·right; exact ⟨by simpa using h0, by rcases hq with h | h; exact absurd h h0; simp [h]⟩
      clear hq
      rcases hq2 with hq | ⟨hq1, hq⟩
      all_goals
       go_wp2_with fail
       go_ret
       exact ⟨ret_eq (by rw [HF.out]; rfl), HBW2.out.trans ((show Below wr.heap.size wr _ by go_grown).mono HBW2.out.size)⟩
     ·have HT := Zh (show (E.take (j + 1)).any (fun x => noneE (noAd x)) = false by
       rw [HTK.out, HN2.out]; show (false || (xc.k == 0 || xc.k == 3)) = false
       rw [Bool.false_or, Bool.or_eq_false_iff, beq_eq_false_iff_ne, beq_eq_false_iff_ne]; omega)
      have q1 : (xc.k == 0) = false := by rw [beq_eq_false_iff_ne]; omega
      have q2 : (xc.k == 3) = false := by rw [beq_eq_false_iff_ne]; omega
      clear hq HTK
      go_wp2_with fail
      go_roundw
      case rel => exact ⟨j + 1, by go_num, by omega, HT.out, HBW2.out.trans ((show Below wr.heap.size wr _ by go_grown).mono HBW2.out.size)⟩
      case measure => simp [intOf]; omega
    ·have HNN := Zh (show (docE E).any noneE = false by
      have := HN2.out; rw [List.take_of_length_le (by omega)] at this; rw [← HANY.out]; exact this)
     go_wp2_with fail
     refine (rises_any E a c _ (HS.out.below (Nat.le_refl _) HBW2.out)).mono ?_
     rintro en w5 ⟨rfl, hb5⟩
     have HB5 := Zh (HBW2.out.trans (hb5.mono HBW2.out.size))
     clear hb5
     cases hr : risesB (docE E)
     ·have HF := Zh (show rightErr (docE E) = 13 by unfold rightErr; rw [HFB.out, if_neg (by decide), HNN.out, if_neg (by decide), hr, if_neg (by decide)])
      clear hr
      go_wp2_with fail
      go_ret
      exact ⟨ret_eq (by rw [HF.out]; rfl), HB5.out⟩
     ·have HF := Zh (show rightErr (docE E) = 0 by unfold rightErr; rw [HFB.out, if_neg (by decide), HNN.out, if_neg (by decide), hr, if_pos rfl])
      clear hr
      go_wp2_with fail
      go_ret
      exact ⟨ret_eq (by rw [HF.out]; rfl), HB5.out⟩
theorem withinN_doc (l : Int) (E : List Ent) : withinN l E = if (docE E).any (outE l) = true then 1 else 0 := by
 unfold withinN docE
 rw [List.any_map]; rfl
def OfR (e l : Int) (E : List Ent) (W : World) (en : Ending) (w' : World) : Prop :=
 ∃ bu bm, en = .returned (.tuple #[.pointer (some ⟨bu, 0, none⟩), .nilIface]) ∧ W.heap.size ≤ bu ∧ W.heap.size ≤ bm ∧ UnitAt (fun k => k = bu ∨ k = bm ∨ k < W.heap.size) w' bu bm ⟨e, l, docE E⟩ ∧ Below W.heap.size W w'
theorem ok_take {e l : Int} {L : List (Int × C)} (h : U.ok ⟨e, l, L⟩) (k : Nat) : U.ok ⟨e, l, L.take k⟩ :=
 ⟨h.e0, h.e1, h.l0, h.l1, fun p hp => h.addr p (List.mem_of_mem_take hp), fun p hp => h.kind p (List.mem_of_mem_take hp), h.nodup.sublist ((List.take_sublist _ _).map _)⟩
set_option maxHeartbeats 4000000 in
theorem of_good (e l : Int) (E : List Ent) (a : Option Addr) (c : Nat) (W : World) (h : EL W a c E) (hgood : ofErr e l (docE E) = 0) :
  Calls Tryz.prog 174 #[.int .i64 e, .int .i64 l, .slice a E.length c] W (OfR e l E W) := by
 have HS := Lib.hid' h
 have HOK := Zh (of_ok hgood)
 have hlen := h.len
 have hg0 := hgood
 unfold ofErr at hg0
 split at hg0; · cases hg0
 rename_i g1
 split at hg0; · cases hg0
 rename_i g2
 have h1 : inR e 1099511627776 = true := by simp [inR]; omega
 have h2 : inR l 1048576 = true := by simp [inR]; omega
 have HR0 := Lib.hid' hg0
 clear h hgood g1 hg0
 go_enter Tryz.func174, Tryz.ntmps174
 go_wp2_with (go_at_call 144; refine (in_any _ _ _).mono ?_; rintro en w' ⟨rfl, rfl⟩; first | rw [h1] | rw [h2])
 refine (within_any l E a c _ HS.out).mono ?_
 rintro en w1 ⟨rfl, hb1⟩
 have HB1 := Lib.hid' hb1
 rw [show errV (withinN l E) = .nilIface from by rw [withinN_doc, if_neg g2]; rfl]
 clear hb1 g2 h1 h2
 go_wp2_with fail
 refine (right_any E a c _ (HS.out.below (Nat.le_refl _) HB1.out)).mono ?_
 rintro en w2 ⟨rfl, hb2⟩
 have HB2 := Zh (HB1.out.trans (hb2.mono HB1.out.size))
 rw [HR0.out, errV_0]
 clear hb2 HB1
 go_wp2_with fail
 refine (new_any _).mono ?_
 rintro en w3 ⟨rfl, hb3, hz3, hu3⟩
 have HU3 := Zh (hu3 (fun k => k = w2.heap.size + 1 ∨ k = w2.heap.size ∨ k < W.heap.size) (.inr (.inl rfl)) (.inl rfl))
 have HB3 := Zh (HB2.out.trans (hb3.mono HB2.out.size))
 have HN := Lib.hid' HB2.out.size
 obtain ⟨q0, q1, q2⟩ := HU3.out.cell
 have qf0 := HU3.out.free 0; have qf1 := HU3.out.free 1
 have ql := HU3.out.lt.1
 clear hb3 hz3 hu3 HB2
 go_wp2_with fail
 have HU4 := Zh (show UnitAt (fun k => k = w2.heap.size + 1 ∨ k = w2.heap.size ∨ k < W.heap.size) ((w3.setCell ⟨w2.heap.size + 1, 0, none⟩ (.int .i64 e)).setCell ⟨w2.heap.size + 1, 1, none⟩ (.int .i64 l)) (w2.heap.size + 1) w2.heap.size ⟨e, l, (docE E).take 0⟩ from by
  have hk := ok_take HOK.out.1 0
  have h1 := HU3.out.set0 (e := e) ⟨hk.e0, hk.e1, by show (0 : Int) ≤ 0; decide, by show (0 : Int) ≤ 1048576; decide, by simp [U.new], by simp [U.new], by simp [U.new]⟩
  exact h1.set1 (l := l) hk)
 have HB4 := Zh (show Below W.heap.size W ((w3.setCell ⟨w2.heap.size + 1, 0, none⟩ (.int .i64 e)).setCell ⟨w2.heap.size + 1, 1, none⟩ (.int .i64 l)) from (HB3.out.setCell (p := ⟨w2.heap.size + 1, 0, none⟩) (by have := HN.out; show W.heap.size ≤ w2.heap.size + 1; omega) _).setCell (p := ⟨w2.heap.size + 1, 1, none⟩) (by have := HN.out; show W.heap.size ≤ w2.heap.size + 1; omega) _)
 generalize ((w3.setCell ⟨w2.heap.size + 1, 0, none⟩ (.int .i64 e)).setCell ⟨w2.heap.size + 1, 1, none⟩ (.int .i64 l)) = w4 at *
 clear q0 q1 q2 qf0 qf1 ql HU3 HB3
 generalize w2.heap.size = bm at *
 go_loopw [44] (fun v44 wr => ∃ k : Nat, v44 = .int .i64 k ∧ k ≤ E.length ∧ UnitAt (fun q => q = bm + 1 ∨ q = bm ∨ q < W.heap.size) wr (bm + 1) bm ⟨e, l, (docE E).take k⟩ ∧ Below W.heap.size W wr) (fun v44 _ => E.length - (intOf v44).toNat)
 case atStart => exact ⟨0, rfl, Nat.zero_le _, HU4.out, HB4.out⟩
 case round =>
  obtain ⟨k, rfl, hk, hu, hbw⟩ := hrel
  have HU := Lib.hid' hu
  have HBW := Lib.hid' hbw
  clear hu hbw HU4 HB4
  by_cases hlt : k < E.length
  rotate_left
  ·have HUE := Zh (show UnitAt (fun q => q = bm + 1 ∨ q = bm ∨ q < W.heap.size) wr (bm + 1) bm ⟨e, l, docE E⟩ by have := HU.out; rwa [List.take_of_length_le (by rw [docE_len]; omega)] at this)
   go_wp2_with fail
   go_ret2
   have := HN.out
   exact ⟨bm + 1, bm, rfl, by omega, HN.out, HUE.out, HBW.out⟩
  obtain ⟨hsl, hby⟩ := HS.out.below (Nat.le_refl _) HBW.out
  obtain ⟨b, off, rfl, hb, hc⟩ := SlV.row (s := 3) (fun _ => rfl) (by decide) hsl hlt
  have c0 := hc 0 _ rfl; have c1 := hc 1 _ rfl; have c2 := hc 2 _ rfl
  simp only [Nat.add_zero] at c0
  have HST := Zh (of_step HOK.out.2 (k := k) (by rw [docE_len]; exact hlt))
  rw [docE_get E k hlt] at HST
  have HKD := Zh (HOK.out.1.kind _ (List.getElem_mem (l := docE E) (n := k) (by rw [docE_len]; exact hlt)))
  rw [docE_get E k hlt] at HKD
  have HY := Zh (hby _ (List.getElem_mem hlt))
  clear hc hsl hby
  generalize E[k] = x at *
  obtain ⟨xa, xc, xd, xn⟩ := x
  simp only at HST HKD HY
  go_upto_region 14 with fail
  have HG := Zh (show Below wr.heap.size wr (wr.alloc (.cells #[.int .i64 xa, .int .i64 xc.k, .slice xd xc.d.length xn] 238)) by go_grown)
  have HX := Zh (show BoxW wr.heap.size [.int .i64 xa, .int .i64 xc.k, .slice xd xc.d.length xn] 238 (wr.alloc (.cells #[.int .i64 xa, .int .i64 xc.k, .slice xd xc.d.length xn] 238)) from BoxW.start wr [.int .i64 xa, .int .i64 xc.k, .slice xd xc.d.length xn] 238)
  generalize wr.alloc (.cells #[.int .i64 xa, .int .i64 xc.k, .slice xd xc.d.length xn] 238) = wy at *
  clear c0 c1 c2 hb
  have HUy := Zh (HU.out.below (Nat.le_refl _) HG.out)
  have x0 := HX.out.box.1 0 _ rfl; have x1 := HX.out.box.1 1 _ rfl; have x2 := HX.out.box.1 2 _ rfl
  have m2 := HUy.out.cell.2.2
  have hxl := HX.out.lt
  have hul := HUy.out.lt.1
  have HLT := Lib.hid' HU.out.lt
  refine wp_region_held_drew (S := (fun w' => w'.cell? ⟨bm + 1, 2, none⟩ = some (.map (some bm)) ∧ w'.cell? ⟨wr.heap.size, 0, none⟩ = some (.int .i64 xa) ∧ w'.cell? ⟨wr.heap.size, 1, none⟩ = some (.int .i64 xc.k) ∧ w'.cell? ⟨wr.heap.size, 2, none⟩ = some (.slice xd xc.d.length xn))) (by kernel_rfl) ⟨by simpa using m2, by simpa using x0, by simpa using x1, by simpa using x2⟩ (fun hH0 => ?_)
  refine tA 0 (.pointer (some ⟨bm + 1, 0, none⟩)) rfl hH0 ?_ ?_
  ·intro w hSw; go_simp
  simp only [Act.put, gA, gZ, gS, sA, sZ, sS]
  refine tA 1 (.pointer (some ⟨bm + 1, 0, none⟩)) rfl hH0 ?_ ?_
  ·intro w hSw; go_simp
  simp only [Act.put, gA, gZ, gS, sA, sZ, sS]
  refine tA 2 (.pointer (some ⟨bm + 1, 2, none⟩)) rfl hH0 ?_ ?_
  ·intro w hSw; go_simp
  simp only [Act.put, gA, gZ, gS, sA, sZ, sS]
  refine tA 3 (.map (some bm)) rfl hH0 ?_ ?_
  ·intro w hSw; go_simp
  simp only [Act.put, gA, gZ, gS, sA, sZ, sS]
  refine tA 4 (.pointer (some ⟨wr.heap.size, 0, none⟩)) rfl hH0 ?_ ?_
  ·intro w hSw; go_simp
  simp only [Act.put, gA, gZ, gS, sA, sZ, sS]
  refine tA 5 (.int .i64 xa) rfl hH0 ?_ ?_
  ·intro w hSw; go_simp
  simp only [Act.put, gA, gZ, gS, sA, sZ, sS]
  refine tA 6 (.pointer (some ⟨wr.heap.size, 1, none⟩)) rfl hH0 ?_ ?_
  ·intro w hSw; go_simp
  simp only [Act.put, gA, gZ, gS, sA, sZ, sS]
  refine tA 7 (.agg #[.int .i64 xc.k, .slice xd xc.d.length xn]) rfl hH0 ?_ ?_
  ·intro w hSw; go_simp
  simp only [Act.put, gA, gZ, gS, sA, sZ, sS]
  refine rD 8 rfl (fun K hK => ?_)
  go_simp
  refine (copy_any _ xc _ ⟨xd, xn, rfl, SlV.below (SlV.below HY.out (Nat.le_refl _) HG.out) (Nat.le_refl _) (by go_grown)⟩ (by have := HKD.out.2; omega)).mono ?_
  rintro en w6 ⟨a6, cp6, rfl, ho6, hb6'⟩
  have HO6 := Zh (show w6.ownsRow wy.heap.size 5 1 (.slice a6 xc.d.length cp6) xc.d.length (byteVs xc.d) from ho6)
  have hb6 : Below wy.heap.size wy w6 := (Below.drew (Below.refl _ _)).trans hb6'
  have HB6 := Lib.hid' hb6
  have HU6 := Zh (HUy.out.below (Nat.le_refl _) hb6)
  have z2 := (hb6.cell (p := ⟨bm + 1, 2, none⟩) hul).trans m2; have z3 := (hb6.cell (p := ⟨wr.heap.size, 0, none⟩) hxl).trans x0; have z4 := (hb6.cell (p := ⟨wr.heap.size, 1, none⟩) hxl).trans x1; have z5 := (hb6.cell (p := ⟨wr.heap.size, 2, none⟩) hxl).trans x2
  obtain ⟨L, hm, hL⟩ := HU6.out.map
  obtain ⟨ob, hrun, hm7⟩ := run_store mtCells hm xa (.agg #[.int .i64 xc.k, .slice a6 xc.d.length cp6])
  have HL := Lib.hid' hL
  have HM7 := Lib.hid' hm7
  have hne1 : ¬ bm + 1 = bm := by omega
  have hne2 : ¬ wr.heap.size = bm := by have := HLT.out.2; omega
  clear ho6 hb6' hb6 hL hm7
  refine hK.out _ _ ?_ (fun hH1 => ?_)
  ·exact ⟨z2, z3, z4, z5⟩
  clear hK K
  refine rD 9 rfl (fun K hK => ?_)
  go_simp
  refine hK.out _ _ ?_ (fun hH2 => ?_)
  ·exact ⟨(setBlk_fr _ _ _).cell z2 hne1, (setBlk_fr _ _ _).cell z3 hne2, (setBlk_fr _ _ _).cell z4 hne2, (setBlk_fr _ _ _).cell z5 hne2⟩
  clear hK K
  refine wpAnyH_done (by kernel_rfl) ?_ _
  have HF7 := Zh (show Fr (· = bm) w6 (setBlk w6 bm ob) from setBlk_fr _ _ _)
  have HBLK := Zh ((HF7.out.block (bm + 1) HU6.out.lt.1 hne1).trans HU6.out.blk)
  clear hrun hm
  generalize setBlk w6 bm ob = w7 at *
  go_wp2_with fail
  go_roundw
  case rel =>
   have hroom := HUy.out.lt
   have hcells := CellsAt.put (A := fun q => q = bm + 1 ∨ q = bm ∨ q < W.heap.size) (F := fun q => q = bm) (w := wy) (fun q hq => by rcases hq with rfl | rfl | hq; exact hroom.1; exact hroom.2; exact Nat.lt_of_lt_of_le hq (Nat.le_trans HBW.out.size HG.out.size)) HL.out HM7.out HF7.out (fun q hq => .inr (.inl hq)) (SlV.of_own HO6.out) (fun y hy => by have := own_in HO6.out y _ _ (by rw [hy]); simpa using this)
   rw [HST.out] at hcells
   refine ⟨k + 1, by go_num, by omega, ⟨HBLK.out, hcells, ok_take HOK.out.1 _, .inl rfl, .inr (.inl rfl)⟩, ?_⟩
   exact ((HBW.out.trans (HG.out.mono HBW.out.size)).trans (HB6.out.mono (Nat.le_trans HBW.out.size HG.out.size))).trans (HF7.out.below (Nat.le_trans (Nat.le_trans HBW.out.size HG.out.size) HB6.out.size) (fun q hq => by subst hq; exact HN.out))
  case measure => simp [intOf]; omega

end Go.Proofs.YtcpkeddgkpjioaaGreatDoor
