/- Projections as bytes, and back. Plain. -/
import Derived.Test.YtkljeefncopodaaGreatPrjB
import Derived.Test.YtkljeefncopodaaGreatFrmM
namespace Go.Proofs.YtkljeefncopodaaGreat
set_option linter.unusedSimpArgs false
set_option linter.unusedVariables false

def chainB (c : List Int) : List UInt8 := vb c.length ++ (c.map (fun u => vb u.toNat)).flatten
def Pj.text (p : Pj) : List UInt8 := vb p.e.toNat ++ vb p.cs.length ++ (p.cs.map chainB).flatten
def Pj.put (p : Pj) : List UInt8 := frameB p.text
def RD.nums : Nat → RD → List Nat → List Nat × RD
  | 0, r, acc => (acc, r)
  | k + 1, r, acc => if r.num.2.bad ≠ 0 then ([], r.num.2) else RD.nums k r.num.2 (acc ++ [r.num.1])
def RD.list (r : RD) (most : Nat) : List Nat × RD := RD.nums (r.count most).1 (r.count most).2 []
def RD.chain (r : RD) : List Int × RD := ((r.list 4).1.map (fun n => ((min n 8 : Nat) : Int)), (r.list 4).2)
/-- chains, as many as told: also behind an error -/
def RD.chains : Nat → RD → List (List Int) → List (List Int) × RD
  | 0, r, acc => (acc, r)
  | k + 1, r, acc => RD.chains k r.chain.2 (acc ++ [r.chain.1])
def Pj.read (r : RD) : Pj × RD :=
  let e := r.within 1099511627776
  let m := e.2.num
  let r2 := if 4 < m.1 then m.2.fail 3 else m.2
  let c := RD.chains (min m.1 4) r2 []
  (⟨e.1, c.1⟩, c.2)
def Pj.take (b : List UInt8) : Nat × Pj :=
  if (fone b).1 ≠ 0 then ((fone b).1, Pj.zero) else
    if (Pj.read ⟨(fone b).2, 0⟩).2.fin ≠ 0 then ((Pj.read ⟨(fone b).2, 0⟩).2.fin, Pj.zero)
    else if (Pj.read ⟨(fone b).2, 0⟩).1.check ≠ 0 then ((Pj.read ⟨(fone b).2, 0⟩).1.check, Pj.zero) else (0, (Pj.read ⟨(fone b).2, 0⟩).1)
/- the document's: it stops at an error -/
def RD.rChains : Nat → RD → List (List Int) → List (List Int) × RD
  | 0, r, acc => (acc, r)
  | k + 1, r, acc => if r.bad = 0 then RD.rChains k r.chain.2 (acc ++ [r.chain.1]) else (acc, r)
def Pj.rTake (b : List UInt8) : Pj × Nat :=
  if (fone b).1 ≠ 0 then (Pj.zero, (fone b).1) else
    let e := RD.within ⟨(fone b).2, 0⟩ 1099511627776
    let m := e.2.num
    if m.2.bad = 0 ∧ 4 < m.1 then (Pj.zero, 3) else
      let c := RD.rChains m.1 m.2 []
      if c.2.fin ≠ 0 then (Pj.zero, c.2.fin) else if (⟨e.1, c.1⟩ : Pj).check ≠ 0 then (Pj.zero, (⟨e.1, c.1⟩ : Pj).check) else (⟨e.1, c.1⟩, 0)
theorem RD.list_bad {r : RD} (h : r.bad ≠ 0) (most : Nat) : r.list most = ([], r) := by
  unfold RD.list; rw [RD.count_bad h]; rfl
theorem RD.chain_bad {r : RD} (h : r.bad ≠ 0) : r.chain = ([], r) := by unfold RD.chain; rw [RD.list_bad h]; rfl
theorem RD.chains_bad (k : Nat) {r : RD} (h : r.bad ≠ 0) (acc : List (List Int)) : (RD.chains k r acc).2 = r := by
  induction k generalizing acc with
  | zero => rfl
  | succ k ih => unfold RD.chains; rw [RD.chain_bad h]; exact ih _
theorem RD.rChains_bad (k : Nat) {r : RD} (h : r.bad ≠ 0) (acc : List (List Int)) : RD.rChains k r acc = (acc, r) := by
  cases k with
  | zero => rfl
  | succ k => unfold RD.rChains; rw [if_neg h]
theorem RD.rChains_eq (k : Nat) (r : RD) (acc : List (List Int)) : (RD.rChains k r acc).2 = (RD.chains k r acc).2 ∧ ((RD.chains k r acc).2.bad = 0 → (RD.rChains k r acc).1 = (RD.chains k r acc).1) := by
  induction k generalizing r acc with
  | zero => exact ⟨rfl, fun _ => rfl⟩
  | succ k ih =>
    by_cases h : r.bad = 0
    · unfold RD.rChains RD.chains
      rw [if_pos h]
      exact ih _ _
    · rw [RD.rChains_bad _ h, RD.chains_bad _ h]
      exact ⟨rfl, fun h' => absurd h' h⟩
theorem RD.fin_zero_bad {r : RD} (h : ¬ r.fin ≠ 0) : r.bad = 0 := (RD.fin_ok (by simpa using h)).1
theorem Pj.take_ref (b : List UInt8) : Pj.rTake b = ((Pj.take b).2, (Pj.take b).1) := by
  unfold Pj.rTake Pj.take
  split
  · rfl
  rename_i hf
  unfold Pj.read
  simp only
  generalize RD.within ⟨(fone b).2, 0⟩ 1099511627776 = e
  obtain ⟨ev, er⟩ := e
  simp only
  generalize er.num = m
  obtain ⟨mn, mr⟩ := m
  simp only
  by_cases hb : mr.bad = 0
  · by_cases h4 : 4 < mn
    · have hx : (mr.fail 3).bad = 3 := by simp [RD.fail, hb]
      have h5 : (RD.chains (min mn 4) (mr.fail 3) []).2 = mr.fail 3 := RD.chains_bad _ (by rw [hx]; decide) _
      rw [if_pos ⟨hb, h4⟩, if_pos h4, h5, RD.fin_bad (by rw [hx]; decide), hx, if_pos (by decide)]
    · rw [if_neg (fun h => h4 h.2), if_neg h4, show min mn 4 = mn from by omega]
      obtain ⟨h1, h2⟩ := RD.rChains_eq mn mr []
      rw [h1]
      split
      · rfl
      · rename_i hfin
        have h3 := h2 (RD.fin_zero_bad hfin)
        rw [h3]
        split <;> rfl
  · have e1 := RD.rChains_bad mn hb []
    have hx : ∀ x : RD, x = mr ∨ x = mr.fail 3 → x.bad = mr.bad ∧ x.bad ≠ 0 := by
      rintro x (rfl | rfl)
      · exact ⟨rfl, hb⟩
      · simp [RD.fail, hb]
    have h5 : (RD.chains (min mn 4) (if 4 < mn then mr.fail 3 else mr) []).2 = mr := by
      have : (if 4 < mn then mr.fail 3 else mr) = mr := by split <;> simp [RD.fail, hb]
      rw [this]; exact RD.chains_bad _ hb _
    rw [if_neg (fun h => hb h.1), e1, h5]
    simp only
    rw [RD.fin_bad hb, if_pos hb, if_pos hb]

theorem RD.nums_put (c : List Nat) (hc : ∀ x ∈ c, x < 18446744073709551616) (l : List UInt8) (acc : List Nat) : RD.nums c.length ⟨(c.map vb).flatten ++ l, 0⟩ acc = (acc ++ c, ⟨l, 0⟩) := by
  induction c generalizing acc with
  | nil => simp [RD.nums]
  | cons x c ih =>
    simp only [List.map_cons, List.flatten_cons, List.length_cons, RD.nums, List.append_assoc]
    rw [RD.num_put x (hc x List.mem_cons_self)]
    simp only [ne_eq, not_true_eq_false, if_false]
    rw [ih (fun y hy => hc y (List.mem_cons_of_mem _ hy))]
    simp
theorem RD.list_put (c : List Nat) (most : Nat) (h : c.length ≤ most) (hm : c.length ≤ 4611686018427387904) (hc : ∀ x ∈ c, x < 18446744073709551616) (l : List UInt8) : RD.list ⟨vb c.length ++ ((c.map vb).flatten ++ l), 0⟩ most = (c, ⟨l, 0⟩) := by
  unfold RD.list
  rw [RD.count_put _ _ h hm]
  have := RD.nums_put c hc l []
  simpa using this
theorem RD.chain_put (c : List Int) (h : c.length ≤ 4) (hc : ∀ x ∈ c, 0 ≤ x ∧ x < 8) (l : List UInt8) : RD.chain ⟨chainB c ++ l, 0⟩ = (c, ⟨l, 0⟩) := by
  unfold RD.chain chainB
  have e : (vb c.length ++ (c.map (fun u => vb u.toNat)).flatten) ++ l = vb (c.map Int.toNat).length ++ (((c.map Int.toNat).map vb).flatten ++ l) := by
    simp [List.map_map, Function.comp_def]
  rw [e, RD.list_put _ 4 (by simpa using h) (by rw [List.length_map]; omega) (by
    intro x hx
    obtain ⟨y, hy, rfl⟩ := List.mem_map.1 hx
    have := hc y hy
    omega)]
  refine Prod.ext ?_ rfl
  simp only [List.map_map]
  conv => rhs; rw [← List.map_id c]
  refine List.map_congr_left fun x hx => ?_
  have := hc x hx
  simp only [Function.comp_apply, id_eq]
  omega
theorem RD.chains_put (cs : List (List Int)) (h : ∀ c ∈ cs, c.length ≤ 4 ∧ ∀ x ∈ c, 0 ≤ x ∧ x < 8) (l : List UInt8) (acc : List (List Int)) : RD.chains cs.length ⟨(cs.map chainB).flatten ++ l, 0⟩ acc = (acc ++ cs, ⟨l, 0⟩) := by
  induction cs generalizing acc with
  | nil => simp [RD.chains]
  | cons c cs ih =>
    obtain ⟨h1, h2⟩ := h c List.mem_cons_self
    simp only [List.map_cons, List.flatten_cons, List.length_cons, RD.chains, List.append_assoc]
    rw [RD.chain_put c h1 h2]
    simp only
    rw [ih (fun d hd => h d (List.mem_cons_of_mem _ hd))]
    simp
theorem flatB_len {α : Type} (f : α → List UInt8) (k : Nat) : ∀ l : List α, (∀ x ∈ l, (f x).length ≤ k) → ((l.map f).flatten).length ≤ l.length * k
  | [], _ => by simp
  | x :: l, h => by
    have h1 := h x List.mem_cons_self
    have h2 := flatB_len f k l (fun y hy => h y (List.mem_cons_of_mem _ hy))
    simp only [List.map_cons, List.flatten_cons, List.length_append, List.length_cons, Nat.succ_mul]; omega
theorem Pj.Ok.text_len {p : Pj} (h : p.Ok) : p.text.length ≤ 65536 := by
  have h0 := h.e0; have h1 := h.e1; have h2 := h.n1
  have g1 := vb_len 10 p.e.toNat (by decide) (by omega)
  have g2 := vb_len 10 p.cs.length (by decide) (by omega)
  have g3 := flatB_len chainB 50 p.cs (fun c hc => by
    have h4 := h.c c hc
    have g4 := vb_len 10 c.length (by decide) (by omega)
    have g5 := flatB_len (fun u : Int => vb u.toNat) 10 c (fun u hu => by
      have := h.u u (List.mem_flatten.2 ⟨c, hc, hu⟩)
      exact vb_len 10 u.toNat (by decide) (by omega))
    unfold chainB
    rw [List.length_append]; omega)
  unfold Pj.text
  simp only [List.length_append]; omega
theorem Pj.take_put {p : Pj} (h : p.Ok) : Pj.take p.put = (0, p) := by
  have h0 := h.e0; have h1 := h.e1; have h2 := h.n1
  unfold Pj.take Pj.put
  rw [fone_frame _ h.text_len]
  simp only [ne_eq, not_true_eq_false, if_false]
  have hr : Pj.read ⟨p.text, 0⟩ = (p, ⟨[], 0⟩) := by
    unfold Pj.read Pj.text
    simp only [List.append_assoc]
    rw [RD.within_put p.e.toNat _ (by omega) (by omega)]
    simp only
    rw [RD.num_put p.cs.length (by omega)]
    simp only
    rw [if_neg (by omega), show min p.cs.length 4 = p.cs.length from by omega]
    have := RD.chains_put p.cs (fun c hc => ⟨(h.c c hc).2, fun x hx => h.u x (List.mem_flatten.2 ⟨c, hc, hx⟩)⟩) [] []
    rw [List.append_nil] at this
    rw [this]
    simp only [List.nil_append]
    rw [show ((p.e.toNat : Nat) : Int) = p.e from by omega]
  rw [hr]
  simp [RD.fin, h.check]
end Go.Proofs.YtkljeefncopodaaGreat
