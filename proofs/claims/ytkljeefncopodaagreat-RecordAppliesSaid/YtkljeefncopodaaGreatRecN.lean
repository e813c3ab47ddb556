/- Cells and units as bytes, and back. Plain. -/
import Derived.Test.YtkljeefncopodaaGreatFmtM
import Derived.Test.YtkljeefncopodaaGreatUnitP
namespace Go.Proofs.YtkljeefncopodaaGreat
set_option linter.unusedSimpArgs false
set_option linter.unusedVariables false

def cellB (c : C) : List UInt8 := vb c.k.toNat ++ (if c.k = 1 then headB c.d else [])
def entsB : Int → List (Int × C) → List UInt8
  | _, [] => []
  | f, p :: L => vb (p.1 - f).toNat ++ (cellB p.2 ++ entsB (p.1 + 1) L)
def unitB (e l : Int) (L : List (Int × C)) : List UInt8 := vb e.toNat ++ (vb l.toNat ++ (vb L.length ++ entsB l L))
def RD.cell (r : RD) : C × RD :=
  if (if (r.within 3).1 = 1 then (r.within 3).2.text 64 else ([], (r.within 3).2)).2.bad ≠ 0 then (⟨0, []⟩, (if (r.within 3).1 = 1 then (r.within 3).2.text 64 else ([], (r.within 3).2)).2)
  else (⟨((r.within 3).1 : Nat), (if (r.within 3).1 = 1 then (r.within 3).2.text 64 else ([], (r.within 3).2)).1⟩, (if (r.within 3).1 = 1 then (r.within 3).2.text 64 else ([], (r.within 3).2)).2)
/-- the reader ahead of an entry's cell -/
def RD.by1 (r : RD) (f : Int) : RD := if (1048576 - f).toNat ≤ r.num.1 then r.num.2.fail 1 else r.num.2
def RD.ents : Nat → Int → RD → List (Int × C) → List (Int × C) × RD
  | 0, _, r, acc => (acc, r)
  | n + 1, f, r, acc => if (r.by1 f).cell.2.bad ≠ 0 then ([], (r.by1 f).cell.2) else RD.ents n (f + (r.num.1 : Nat) + 1) (r.by1 f).cell.2 (acc ++ [(f + (r.num.1 : Nat), (r.by1 f).cell.1)])
def readU (r : RD) : U × RD :=
  let e := r.within 1099511627776
  let l := e.2.within 1048576
  let m := l.2.num
  let x := RD.ents (min m.1 65536) (l.1 : Nat) (if 65536 < m.1 then m.2.fail 3 else m.2) []
  (⟨(e.1 : Nat), (l.1 : Nat), x.1⟩, x.2)
def U.zero : U := ⟨0, 0, []⟩
def takeU (b : List UInt8) : Nat × U :=
  if (fone b).1 ≠ 0 then ((fone b).1, U.zero) else
    if (readU ⟨(fone b).2, 0⟩).2.fin ≠ 0 then ((readU ⟨(fone b).2, 0⟩).2.fin, U.zero)
    else if (readU ⟨(fone b).2, 0⟩).1.cells.any noneE = true then (2, U.zero) else (0, (readU ⟨(fone b).2, 0⟩).1)
def putU (e l : Int) (L : List (Int × C)) : Nat × List UInt8 := if 65536 < (unitB e l L).length then (3, []) else (0, frameB (unitB e l L))
/- the document's -/
def RD.rEnts : Nat → Int → RD → List (Int × C) → Option (List (Int × C) × RD)
  | 0, _, r, acc => some (acc, r)
  | n + 1, f, r, acc => if r.bad = 0 then (if r.num.2.bad = 0 ∧ (1048576 - f).toNat ≤ r.num.1 then none else RD.rEnts n (f + (r.num.1 : Nat) + 1) r.num.2.cell.2 (acc ++ [(f + (r.num.1 : Nat), r.num.2.cell.1)])) else some (acc, r)
def rEndU (e l : Nat) (o : Option (List (Int × C) × RD)) : Nat × U := match o with
  | none => (1, U.zero)
  | some (L, r) => if r.fin ≠ 0 then (r.fin, U.zero) else if L.any noneE = true then (2, U.zero) else (0, ⟨e, l, L⟩)
def rTakeU (b : List UInt8) : Nat × U :=
  if (fone b).1 ≠ 0 then ((fone b).1, U.zero) else
    let e := RD.within ⟨(fone b).2, 0⟩ 1099511627776
    let l := e.2.within 1048576
    let m := l.2.num
    if m.2.bad = 0 ∧ 65536 < m.1 then (3, U.zero) else rEndU e.1 l.1 (RD.rEnts m.1 (l.1 : Nat) m.2 [])

theorem RD.cell_bad {r : RD} (h : r.bad ≠ 0) : r.cell = (⟨0, []⟩, r) := by
  unfold RD.cell
  rw [RD.within_bad h]
  simp [h]
theorem RD.fail_keep {r : RD} (h : r.bad ≠ 0) (n : Nat) : r.fail n = r := by unfold RD.fail; rw [if_neg h]
theorem RD.fail_set {r : RD} (h : r.bad = 0) (n : Nat) : (r.fail n).bad = n := by unfold RD.fail; rw [if_pos h]
theorem RD.rEnts_bad (n : Nat) (f : Int) {r : RD} (h : r.bad ≠ 0) (acc : List (Int × C)) : RD.rEnts n f r acc = some (acc, r) := by
  cases n with
  | zero => rfl
  | succ n => unfold RD.rEnts; rw [if_neg h]
theorem RD.ents_bad {n : Nat} (hn : 0 < n) (f : Int) {r : RD} (h : r.bad ≠ 0) (acc : List (Int × C)) : RD.ents n f r acc = ([], r) := by
  cases n with
  | zero => omega
  | succ n =>
    have h1 : r.by1 f = r := by
      unfold RD.by1
      rw [RD.num_bad h]
      split
      · exact RD.fail_keep h 1
      · rfl
    unfold RD.ents
    rw [h1, RD.cell_bad h, if_pos h]
def SameEnd (x : List (Int × C) × RD) : Option (List (Int × C) × RD) → Prop
  | none => x.2.bad = 1
  | some y => (y.2.bad = 0 → x = y) ∧ (y.2.bad ≠ 0 → x.2.bad = y.2.bad)
theorem RD.ents_ref : ∀ (n : Nat) (f : Int) (r : RD) (acc : List (Int × C)), r.bad = 0 → SameEnd (RD.ents n f r acc) (RD.rEnts n f r acc)
  | 0, f, r, acc, h => ⟨fun _ => rfl, fun _ => rfl⟩
  | n + 1, f, r, acc, h => by
    unfold RD.rEnts RD.ents
    rw [if_pos (show r.bad = 0 from h)]
    by_cases hb : r.num.2.bad = 0
    · by_cases hr : (1048576 - f).toNat ≤ r.num.1
      · rw [if_pos (show r.num.2.bad = 0 ∧ (1048576 - f).toNat ≤ r.num.1 from ⟨hb, hr⟩)]
        have h1 : (r.by1 f).bad = 1 := by unfold RD.by1; rw [if_pos hr]; exact RD.fail_set hb 1
        rw [RD.cell_bad (by rw [h1]; decide), if_pos (by rw [h1]; decide)]
        exact h1
      · rw [if_neg (show ¬ (r.num.2.bad = 0 ∧ (1048576 - f).toNat ≤ r.num.1) from fun h => hr h.2)]
        have h1 : r.by1 f = r.num.2 := by unfold RD.by1; rw [if_neg hr]
        rw [h1]
        by_cases hc : r.num.2.cell.2.bad = 0
        · rw [if_neg (show ¬ r.num.2.cell.2.bad ≠ 0 from fun h => h hc)]
          exact RD.ents_ref n _ _ _ hc
        · rw [if_pos (show r.num.2.cell.2.bad ≠ 0 from hc), RD.rEnts_bad _ _ hc]
          exact ⟨fun h => absurd h hc, fun _ => rfl⟩
    · rw [if_neg (show ¬ (r.num.2.bad = 0 ∧ (1048576 - f).toNat ≤ r.num.1) from fun h => hb h.1)]
      have h1 : r.by1 f = r.num.2 := by
        unfold RD.by1
        split
        · exact RD.fail_keep hb 1
        · rfl
      rw [h1, RD.cell_bad hb, if_pos (show r.num.2.bad ≠ 0 from hb), RD.rEnts_bad _ _ hb]
      exact ⟨fun h => absurd h hb, fun _ => rfl⟩
theorem RD.num_zero {r : RD} (h : r.num.2.bad ≠ 0) : r.num.1 = 0 := by
  unfold RD.num at h ⊢
  split
  · rfl
  · rename_i hb
    rw [if_neg hb] at h
    split
    · rfl
    · rename_i n k hk
      rw [hk] at h
      simp only at h
      exact absurd (by simpa using hb) h
theorem takeU_ref (b : List UInt8) : rTakeU b = takeU b := by
  unfold rTakeU takeU
  split
  · rfl
  unfold readU
  simp only
  generalize RD.within ⟨(fone b).2, 0⟩ 1099511627776 = e
  obtain ⟨ev, er⟩ := e
  simp only
  generalize er.within 1048576 = l
  obtain ⟨lv, lr⟩ := l
  simp only
  by_cases hb : lr.num.2.bad = 0
  · by_cases hm : 65536 < lr.num.1
    · rw [if_pos ⟨hb, hm⟩, if_pos hm]
      have h3 : (lr.num.2.fail 3).bad = 3 := RD.fail_set hb 3
      rw [RD.ents_bad (by omega) _ (by rw [h3]; decide)]
      simp only
      rw [RD.fin_bad (by rw [h3]; decide), h3, if_pos (by decide)]
    · rw [if_neg (fun h => hm h.2), if_neg hm, show min lr.num.1 65536 = lr.num.1 by omega]
      have hs := RD.ents_ref lr.num.1 (lv : Nat) lr.num.2 [] hb
      generalize RD.ents lr.num.1 (lv : Nat) lr.num.2 [] = x at *
      cases ho : RD.rEnts lr.num.1 (lv : Nat) lr.num.2 [] with
      | none =>
        rw [ho] at hs
        have hs : x.2.bad = 1 := hs
        unfold rEndU
        simp only
        rw [RD.fin_bad (by rw [hs]; decide), hs, if_pos (by decide)]
      | some y =>
        rw [ho] at hs
        obtain ⟨h1, h2⟩ := hs
        unfold rEndU
        obtain ⟨L, r⟩ := y
        simp only at h1 h2 ⊢
        by_cases hr : r.bad = 0
        · rw [h1 hr]
        · rw [RD.fin_bad hr, if_pos hr, RD.fin_bad (by rw [h2 hr]; exact hr), h2 hr, if_pos hr]
  · rw [if_neg (fun h => hb h.1), RD.num_zero hb]
    simp only [Nat.not_lt_zero, if_false, show ¬ 65536 < 0 by decide, Nat.zero_min]
    unfold RD.rEnts RD.ents rEndU
    simp only

/- there and back -/
theorem check_parts {c : C} (h : c.check = 0) : 0 ≤ c.k ∧ c.k ≤ 3 ∧ c.d.length ≤ 64 ∧ (c.k ≠ 1 → c.d = []) := by
  unfold C.check at h
  split at h; · cases h
  split at h; · cases h
  split at h; · cases h
  rename_i h1 h2 h3
  refine ⟨by omega, by omega, by omega, fun hk => ?_⟩
  cases hd : c.d with
  | nil => rfl
  | cons b l => exact absurd ⟨by rw [hd]; simp, hk⟩ h3
theorem check_mk {k : Int} {d : List UInt8} (h1 : 0 ≤ k) (h2 : k ≤ 3) (h3 : d.length ≤ 64) (h4 : k ≠ 1 → d = []) : (⟨k, d⟩ : C).check = 0 := by
  unfold C.check
  simp only
  rw [if_neg (by omega), if_neg (by omega), if_neg]
  rintro ⟨h5, h6⟩
  rw [h4 h6] at h5
  simp at h5
theorem RD.cell_put {c : C} (h : c.check = 0) (t : List UInt8) : RD.cell ⟨cellB c ++ t, 0⟩ = (c, ⟨t, 0⟩) := by
  obtain ⟨h1, h2, h3, h4⟩ := check_parts h
  obtain ⟨k, d⟩ := c
  simp only at h1 h2 h3 h4
  unfold RD.cell cellB
  simp only [List.append_assoc]
  rw [RD.within_put k.toNat 3 (by omega) (by omega)]
  simp only
  by_cases hk : k = 1
  · subst hk
    simp only [if_true, show Int.toNat 1 = 1 from rfl]
    rw [RD.text_put d 64 h3 (by omega)]
    simp
  · have hk' : ¬ k.toNat = 1 := by omega
    rw [h4 hk]
    simp only [if_neg hk', if_neg hk, List.nil_append, ne_eq, not_true_eq_false, if_false]
    rw [show ((k.toNat : Nat) : Int) = k by omega]
theorem RD.cell_ok {r : RD} (h : r.cell.2.bad = 0) : r.bad = 0 ∧ r.rest = cellB r.cell.1 ++ r.cell.2.rest ∧ r.cell.1.check = 0 := by
  unfold RD.cell at h ⊢
  generalize hw : r.within 3 = p at h ⊢
  obtain ⟨k, s⟩ := p
  simp only at h ⊢
  generalize hx : (if k = 1 then s.text 64 else ([], s)) = x at h ⊢
  obtain ⟨d, s2⟩ := x
  simp only at h ⊢
  by_cases hb : s2.bad = 0
  · rw [if_neg (by simpa using hb)]
    simp only
    by_cases hk : k = 1
    · rw [if_pos hk] at hx
      have h2 := RD.text_ok (r := s) (most := 64) (by rw [hx]; exact hb)
      rw [hx] at h2
      have h1 := RD.within_ok (r := r) (most := 3) (by rw [hw]; exact h2.1)
      rw [hw] at h1
      simp only at h1 h2
      subst hk
      refine ⟨h1.1, ?_, check_mk (by decide) (by decide) h2.2.2 (fun h => absurd rfl h)⟩
      unfold cellB
      simp only [if_true, show (((1 : Nat) : Int)) = 1 from rfl, show Int.toNat 1 = 1 from rfl]
      rw [h1.2.1, h2.2.1, List.append_assoc]
    · rw [if_neg hk] at hx
      simp only [Prod.mk.injEq] at hx
      obtain ⟨rfl, rfl⟩ := hx
      have h1 := RD.within_ok (r := r) (most := 3) (by rw [hw]; exact hb)
      rw [hw] at h1
      simp only at h1
      refine ⟨h1.1, ?_, check_mk (by omega) (by omega) (by simp) (fun _ => rfl)⟩
      unfold cellB
      simp only
      rw [if_neg (by omega), List.append_nil, h1.2.1, Int.toNat_natCast]
  · rw [if_pos hb] at h
    exact absurd h hb
def RightL (f : Int) (L : List (Int × C)) : Prop := (∀ p ∈ L, f ≤ p.1 ∧ p.1 < 1048576 ∧ p.2.check = 0) ∧ Rise L
theorem RightL.tail {f : Int} {p : Int × C} {L : List (Int × C)} (h : RightL f (p :: L)) : RightL (p.1 + 1) L := by
  obtain ⟨h1, h2⟩ := h
  obtain ⟨h3, h4⟩ := List.pairwise_cons.1 h2
  exact ⟨fun q hq => ⟨by have := h3 q hq; omega, (h1 q (List.mem_cons_of_mem _ hq)).2⟩, h4⟩
theorem RD.ents_put : ∀ (L : List (Int × C)) (f : Int) (acc : List (Int × C)) (t : List UInt8), 0 ≤ f → RightL f L → RD.ents L.length f ⟨entsB f L ++ t, 0⟩ acc = (acc ++ L, ⟨t, 0⟩)
  | [], f, acc, t, h0, h => by simp [RD.ents, entsB]
  | p :: L, f, acc, t, h0, h => by
    obtain ⟨h1, h2, h3⟩ := h.1 p List.mem_cons_self
    simp only [List.length_cons, entsB, List.append_assoc]
    unfold RD.ents
    have hn : RD.num ⟨vb (p.1 - f).toNat ++ (cellB p.2 ++ (entsB (p.1 + 1) L ++ t)), 0⟩ = ((p.1 - f).toNat, ⟨cellB p.2 ++ (entsB (p.1 + 1) L ++ t), 0⟩) := RD.num_put _ (by omega) _
    have hb : RD.by1 ⟨vb (p.1 - f).toNat ++ (cellB p.2 ++ (entsB (p.1 + 1) L ++ t)), 0⟩ f = ⟨cellB p.2 ++ (entsB (p.1 + 1) L ++ t), 0⟩ := by
      unfold RD.by1
      rw [hn]
      simp only
      rw [if_neg (by omega)]
    rw [hb, hn, RD.cell_put h3]
    simp only [ne_eq, not_true_eq_false, if_false]
    rw [show f + ((p.1 - f).toNat : Nat) = p.1 by omega, RD.ents_put L (p.1 + 1) _ t (by omega) h.tail]
    simp
theorem RD.ents_ok : ∀ (n : Nat) (f : Int) (r : RD) (acc : List (Int × C)), 0 ≤ f → f ≤ 1048576 → (RD.ents n f r acc).2.bad = 0 →
    ∃ L, (RD.ents n f r acc).1 = acc ++ L ∧ L.length = n ∧ r.bad = 0 ∧ r.rest = entsB f L ++ (RD.ents n f r acc).2.rest ∧ RightL f L
  | 0, f, r, acc, h0, h1, h => ⟨[], by simp [RD.ents], rfl, h, by simp [RD.ents, entsB], ⟨by simp, List.Pairwise.nil⟩⟩
  | n + 1, f, r, acc, h0, h1, h => by
    unfold RD.ents at h ⊢
    by_cases hc : (r.by1 f).cell.2.bad = 0
    · rw [if_neg (by simpa using hc)] at h ⊢
      obtain ⟨g1, g2, g3⟩ := RD.cell_ok hc
      have hr : ¬ (1048576 - f).toNat ≤ r.num.1 := by
        intro hr
        unfold RD.by1 at g1
        rw [if_pos hr] at g1
        exact RD.fail_bad _ (by decide) g1
      have hb : r.by1 f = r.num.2 := by unfold RD.by1; rw [if_neg hr]
      rw [hb] at g1 g2 g3 h hc ⊢
      obtain ⟨k1, k2⟩ := RD.num_ok g1
      obtain ⟨L, e1, e2, e3, e4, e5⟩ := RD.ents_ok n (f + (r.num.1 : Nat) + 1) r.num.2.cell.2 (acc ++ [(f + (r.num.1 : Nat), r.num.2.cell.1)]) (by omega) (by omega) h
      refine ⟨(f + (r.num.1 : Nat), r.num.2.cell.1) :: L, by rw [e1]; simp, by simp [e2], k1, ?_, ?_⟩
      · rw [k2, g2, e4]
        simp only [entsB, List.append_assoc]
        rw [show (f + (r.num.1 : Nat) - f).toNat = r.num.1 by omega]
      · refine ⟨fun p hp => ?_, List.pairwise_cons.2 ⟨fun q hq => ?_, e5.2⟩⟩
        · rcases List.mem_cons.1 hp with rfl | hp
          · exact ⟨by show f ≤ f + _; omega, by show f + _ < _; omega, g3⟩
          · obtain ⟨a1, a2, a3⟩ := e5.1 p hp
            exact ⟨by omega, a2, a3⟩
        · have := (e5.1 q hq).1
          show f + ((r.num.1 : Nat) : Int) < q.1
          omega
    · rw [if_pos hc] at h
      exact absurd h hc
theorem rise_rises : ∀ {L : List (Int × C)}, Rise L → risesB L = true
  | [], _ => rfl
  | [_], _ => rfl
  | x :: y :: L, h => by
    obtain ⟨h1, h2⟩ := List.pairwise_cons.1 h
    simp only [risesB, Bool.and_eq_true, decide_eq_true_eq]
    exact ⟨h1 y List.mem_cons_self, rise_rises h2⟩
theorem firstBad_none : ∀ {L : List (Int × C)}, (∀ p ∈ L, p.2.check = 0) → firstBad L = 0
  | [], _ => rfl
  | p :: L, h => by
    unfold firstBad
    rw [if_neg (by simpa using h p List.mem_cons_self)]
    exact firstBad_none (fun q hq => h q (List.mem_cons_of_mem _ hq))
theorem of_right {e l : Int} {L : List (Int × C)} (h1 : 0 ≤ e) (h2 : e ≤ 1099511627776) (h3 : 0 ≤ l) (h4 : l ≤ 1048576) (hR : RightL l L) (hn : ¬ L.any noneE = true) : ofErr e l L = 0 := by
  unfold ofErr rightErr
  rw [if_neg (by omega), if_neg, firstBad_none (fun p hp => (hR.1 p hp).2.2)]
  · simp only [ne_eq, not_true_eq_false, if_false]
    rw [if_neg hn, if_pos (rise_rises hR.2)]
  · rw [List.any_eq_true]
    rintro ⟨p, hp, hx⟩
    obtain ⟨a1, a2, _⟩ := hR.1 p hp
    unfold outE at hx
    simp only [Bool.or_eq_true, decide_eq_true_eq] at hx
    omega
theorem right_of {e l : Int} {L : List (Int × C)} (h : ofErr e l L = 0) : 0 ≤ e ∧ e ≤ 1099511627776 ∧ 0 ≤ l ∧ l ≤ 1048576 ∧ RightL l L ∧ ¬ L.any noneE = true := by
  unfold ofErr at h
  split at h; · cases h
  rename_i h1
  split at h; · cases h
  rename_i h2
  unfold rightErr at h
  split at h
  · rename_i h3; exact absurd h h3
  rename_i h3
  split at h; · cases h
  rename_i h4
  split at h
  rotate_left
  · cases h
  rename_i h5
  refine ⟨by omega, by omega, by omega, by omega, ⟨fun p hp => ?_, risesB_rise h5⟩, h4⟩
  have : outE l p = false := by
    cases hq : outE l p with
    | false => rfl
    | true => exact absurd (List.any_eq_true.2 ⟨p, hp, hq⟩) h2
  unfold outE at this
  rw [Bool.or_eq_false_iff, decide_eq_false_iff_not, decide_eq_false_iff_not] at this
  exact ⟨by omega, by omega, firstBad_zero (by simpa using h3) p hp⟩
/-- what is put is taken as it was -/
theorem takeU_put {e l : Int} {L : List (Int × C)} (h : ofErr e l L = 0) (hn : L.length ≤ 65536) (hl : (unitB e l L).length ≤ 65536) : takeU (frameB (unitB e l L)) = (0, ⟨e, l, L⟩) := by
  obtain ⟨h1, h2, h3, h4, hR, hN⟩ := right_of h
  have hr : readU ⟨unitB e l L, 0⟩ = (⟨e, l, L⟩, ⟨[], 0⟩) := by
    unfold readU unitB
    rw [RD.within_put e.toNat _ (by omega) (by omega)]
    simp only
    rw [RD.within_put l.toNat _ (by omega) (by omega)]
    simp only
    rw [RD.num_put _ (by omega)]
    simp only
    rw [if_neg (by omega), show min L.length 65536 = L.length by omega]
    have hp := RD.ents_put L l [] [] h3 hR
    rw [List.append_nil] at hp
    rw [show ((l.toNat : Nat) : Int) = l by omega, show ((e.toNat : Nat) : Int) = e by omega, hp]
    rfl
  unfold takeU
  rw [fone_frame _ hl]
  simp only [ne_eq, not_true_eq_false, if_false]
  rw [hr]
  simp only [RD.fin, List.length_nil, Nat.lt_irrefl, and_false, if_false, ne_eq, not_true_eq_false]
  rw [if_neg hN]
/-- what is taken is right, and has just those bytes -/
theorem takeU_ok {b : List UInt8} {u : U} (h : takeU b = (0, u)) : ofErr u.e u.l u.cells = 0 ∧ frameB (unitB u.e u.l u.cells) = b ∧ (unitB u.e u.l u.cells).length ≤ 65536 ∧ u.cells.length ≤ 65536 := by
  unfold takeU at h
  split at h
  · rename_i h1; simp only [Prod.mk.injEq] at h; exact absurd h.1 h1
  rename_i h1
  have hf : fone b = (0, (fone b).2) := by have : (fone b).1 = 0 := by simpa using h1
                                           rw [← this]
  obtain ⟨g1, g2⟩ := fone_ok hf
  generalize (fone b).2 = t at *
  split at h
  · rename_i h2; simp only [Prod.mk.injEq] at h; exact absurd h.1 h2
  rename_i h2
  split at h
  · cases h
  rename_i h3
  simp only [Prod.mk.injEq, true_and] at h
  subst h
  obtain ⟨b1, b2⟩ := RD.fin_ok (by simpa using h2)
  unfold readU at b1 b2 h3 ⊢
  simp only at b1 b2 h3 ⊢
  generalize hw : RD.within ⟨t, 0⟩ 1099511627776 = e at *
  obtain ⟨ev, er⟩ := e
  simp only at b1 b2 h3 ⊢
  generalize hw2 : er.within 1048576 = l at *
  obtain ⟨lv, lr⟩ := l
  simp only at b1 b2 h3 ⊢
  have hlv : lv ≤ 1048576 := by
    have : (er.within 1048576).1 = lv := by rw [hw2]
    rw [← this]
    unfold RD.within
    split
    · simp
    · omega
  obtain ⟨L, e1, e2, e3, e4, e5⟩ := RD.ents_ok _ (lv : Nat) _ [] (by omega) (by omega) b1
  have hm : ¬ 65536 < lr.num.1 := by
    intro hm
    rw [if_pos hm] at e3
    exact RD.fail_bad _ (by decide) e3
  rw [if_neg hm] at e3 e4 e1 h3 b2 ⊢
  rw [show min lr.num.1 65536 = lr.num.1 by omega] at e1 e2 e4 h3 b2 ⊢
  rw [List.nil_append] at e1
  rw [e1] at h3 ⊢
  rw [b2, List.append_nil] at e4
  obtain ⟨k1, k2⟩ := RD.num_ok e3
  have k3 := RD.within_ok (r := er) (most := 1048576) (by rw [hw2]; exact k1)
  rw [hw2] at k3
  have k4 := RD.within_ok (r := ⟨t, 0⟩) (most := 1099511627776) (by rw [hw]; exact k3.1)
  rw [hw] at k4
  simp only at k3 k4
  have ht : unitB (ev : Nat) (lv : Nat) L = t := by
    unfold unitB
    rw [k4.2.1, k3.2.1, k2, e4, e2]
    simp
  refine ⟨of_right (by omega) (by have := k4.2.2; omega) (by omega) (by omega) e5 h3, by rw [ht]; exact g1, by rw [ht]; exact g2, by omega⟩
theorem entsB_len : ∀ (L : List (Int × C)) (f : Int), 0 ≤ f → RightL f L → (entsB f L).length ≤ 90 * L.length
  | [], _, _, _ => by simp [entsB]
  | p :: L, f, h0, h => by
    obtain ⟨h1, h2, h3⟩ := h.1 p List.mem_cons_self
    obtain ⟨c1, c2, c3, c4⟩ := check_parts h3
    have ih := entsB_len L (p.1 + 1) (by omega) h.tail
    have g1 := vb_len_le (n := (p.1 - f).toNat) (k := 3) (by decide) (by omega)
    have g2 := vb_len_le (n := p.2.k.toNat) (k := 1) (by decide) (by omega)
    have g3 := vb_len_le (n := p.2.d.length) (k := 1) (by decide) (by omega)
    simp only [entsB, cellB, List.length_append, List.length_cons]
    split
    · unfold headB; simp only [List.length_append]; omega
    · simp only [List.length_nil]; omega
theorem unitB_len {e l : Int} {L : List (Int × C)} (h : ofErr e l L = 0) (hn : L.length ≤ 700) : (unitB e l L).length ≤ 65536 := by
  obtain ⟨h1, h2, h3, h4, hR, hN⟩ := right_of h
  have g1 := vb_len_le (n := e.toNat) (k := 10) (by decide) (by omega)
  have g2 := vb_len_le (n := l.toNat) (k := 10) (by decide) (by omega)
  have g3 := vb_len_le (n := L.length) (k := 10) (by decide) (by omega)
  have g4 := entsB_len L l h3 hR
  unfold unitB
  simp only [List.length_append]
  omega
end Go.Proofs.YtkljeefncopodaaGreat
