/- Layers 16, 21: which manifests are a chain; which part has an address; a plan's items: plain. -/
import Derived.Test.YtinbcehlpfnlaaaGreatDoorChnO
import Derived.Test.YtinbcehlpfnlaaaGreatDoorIdx
namespace Go.Proofs.YtinbcehlpfnlaaaGreatDoor
open Go.RowKit
set_option linter.unusedSimpArgs false
set_option linter.unusedVariables false
set_option maxRecDepth 20000

def beginM (X : List MfP) : Int := (X.head?.getD zeroMP).1.f
def headN (X : List MfP) : Nat := if X.length = 0 then 0 else (lastM X).1.check
def headD (X : List MfP) : List UInt8 := if X.length = 0 then zero32B else mdigB (lastM X).1
/-- does a manifest follow others -/
def folB (A : List MfP) (x : Mf) : Bool :=
  (x.n == (A.length : Int)) && (A.length == 0 || ((headN A == 0) && (x.p == headD A) && (x.f == (lastM A).1.t) && decide ((lastM A).1.r ≤ x.r)))
/-- which manifests are a chain: the place, the error -/
def chk : List MfP → List MfP → Nat × Nat
  | A, [] => (A.length, 0)
  | A, x :: L => if x.1.check ≠ 0 then (A.length, x.1.check) else if folB A x.1 = false then (A.length, 12) else chk (A ++ [x]) L
def chkM (X : List MfP) : Nat × Nat := chk [] X
theorem chk_next {X : List MfP} {k : Nat} (hk : k < X.length) : chk (X.take k) (X.drop k) = if X[k].1.check ≠ 0 then (k, X[k].1.check) else if folB (X.take k) X[k].1 = false then (k, 12) else chk (X.take (k + 1)) (X.drop (k + 1)) := by
  have h1 : (X.take k).length = k := by rw [List.length_take]; omega
  rw [List.drop_eq_getElem_cons hk]
  show (if _ then _ else _) = _
  rw [h1, List.take_append_getElem hk]
theorem chk_end (X : List MfP) : chk (X.take X.length) (X.drop X.length) = (X.length, 0) := by rw [List.drop_length, List.take_length]; rfl
/-- what follows A is a chain behind it -/
inductive Good : List MfP → List MfP → Prop
  | nil (A : List MfP) : Good A []
  | cons {A : List MfP} {x : MfP} {L : List MfP} (hc : x.1.check = 0) (hf : folB A x.1 = true) (h : Good (A ++ [x]) L) : Good A (x :: L)
theorem good_of_chk : ∀ {L A : List MfP}, (chk A L).2 = 0 → Good A L
  | [], A, _ => .nil A
  | x :: L, A, h => by
    unfold chk at h
    split at h
    · rename_i h1; exact absurd h h1
    · rename_i h1
      split at h
      · cases h
      · rename_i h2
        exact .cons (Classical.byContradiction h1) (by simpa using h2) (good_of_chk h)
theorem chk_of_good : ∀ {L A : List MfP}, Good A L → chk A L = (A.length + L.length, 0)
  | [], A, _ => rfl
  | x :: L, A, h => by
    cases h with
    | cons hc hf h =>
      unfold chk
      rw [if_neg (by simpa using hc), if_neg (by simp [hf]), chk_of_good h]
      simp; omega
theorem folB_n {A : List MfP} {x : Mf} (h : folB A x = true) : x.n = (A.length : Int) := by
  unfold folB at h
  rw [Bool.and_eq_true] at h
  exact beq_iff_eq.1 h.1
theorem folB_last {A : List MfP} {y : MfP} {x : Mf} (h : folB (A ++ [y]) x = true) : x.n = ((A.length + 1 : Nat) : Int) ∧ y.1.check = 0 ∧ x.p = mdigB y.1 ∧ x.f = y.1.t ∧ y.1.r ≤ x.r := by
  have hl : lastM (A ++ [y]) = y := by unfold lastM; simp
  have hn := folB_n h
  unfold folB headN headD at h
  rw [hl] at h
  simp only [List.length_append, List.length_cons, List.length_nil, Bool.and_eq_true, Bool.or_eq_true, beq_iff_eq, Nat.add_eq_zero_iff, decide_eq_true_eq] at h
  obtain ⟨_, h | ⟨⟨⟨h1, h2⟩, h3⟩, h4⟩⟩ := h
  · omega
  · rw [if_neg (by simp)] at h1 h2
    exact ⟨by rw [hn]; simp, h1, h2, h3, h4⟩

/-- does a part have an address -/
def inPt (a : Int) (p : Pt) : Bool := decide (p.f ≤ a) && (decide (wrap64 (a - p.f) < p.m) && decide (0 ≤ wrap64 (a - p.f)))
def mfind (x : Mf) (a : Int) : Int := idxB (inPt a) x.ps
def findM : Nat → List MfP → Int → Option (Nat × Nat)
  | _, [], _ => none
  | i, x :: L, a => if 0 ≤ mfind x.1 a then some (i, (mfind x.1 a).toNat) else findM (i + 1) L a
theorem findM_next {X : List MfP} {k : Nat} (hk : k < X.length) (a : Int) : findM k (X.drop k) a = if 0 ≤ mfind X[k].1 a then some (k, (mfind X[k].1 a).toNat) else findM (k + 1) (X.drop (k + 1)) a := by
  rw [List.drop_eq_getElem_cons hk]; rfl
theorem inPt_in {a : Int} {p : Pt} (h0 : 0 ≤ p.f) (h1 : p.f ≤ 1048576) (h2 : 0 ≤ a) (h3 : a ≤ 1048576) : inPt a p = decide (p.f ≤ a ∧ a < p.f + p.m) := by
  unfold inPt
  rw [show wrap64 (a - p.f) = a - p.f by unfold wrap64; omega]
  rw [Bool.eq_iff_iff]
  simp
  omega

structure It where
  n : Int
  i : Int
  a : Int
  b : Int
def itV (x : It) : List Value := [.int .i64 x.n, .int .i64 x.i, .int .i64 x.a, .int .i64 x.b]
theorem itV_len (x : It) : (itV x).length = 4 := rfl
def partItem (n mk num : Int) (i : Nat) (p : Pt) : List It := if max p.f mk < min (p.f + p.m) n then [⟨num, i, max p.f mk, min (p.f + p.m) n⟩] else []
def partItems (n mk num : Int) : Nat → List Pt → List It
  | _, [] => []
  | i, p :: L => partItem n mk num i p ++ partItems n mk num (i + 1) L
def planItems (n mk : Int) (X : List MfP) : List It := X.flatMap (fun m => partItems n mk m.1.n 0 m.1.ps)
/-- the mark up to an address: that of the first manifest that reaches it -/
def markAt (X : List MfP) (n : Int) : Int := min ((X.find? (fun m => decide (n ≤ m.1.t))).getD zeroMP).1.r n

/-- items one behind the other, from an address to another -/
def Run (P : It → Prop) : Int → List It → Int → Prop
  | a, [], e => a = e
  | a, x :: L, e => x.a = a ∧ x.a < x.b ∧ P x ∧ Run P x.b L e
theorem Run.append {P : It → Prop} : ∀ {L : List It} {a b : Int} {M : List It} {e : Int}, Run P a L b → Run P b M e → Run P a (L ++ M) e
  | [], a, b, _, _, h, k => by have h' : a = b := h; subst h'; exact k
  | x :: L, _, _, _, _, h, k => ⟨h.1, h.2.1, h.2.2.1, Run.append h.2.2.2 k⟩
def cl (mk n a : Int) : Int := max mk (min a n)
theorem partItem_run {P : It → Prop} {n mk num : Int} {i : Nat} {p : Pt} (hk : mk ≤ n) (hm : 1 ≤ p.m) (hP : max p.f mk < min (p.f + p.m) n → P ⟨num, i, max p.f mk, min (p.f + p.m) n⟩) :
    Run P (cl mk n p.f) (partItem n mk num i p) (cl mk n (p.f + p.m)) := by
  unfold partItem cl
  by_cases h : max p.f mk < min (p.f + p.m) n
  · rw [if_pos h]
    refine ⟨?_, h, hP h, ?_⟩
    · show max p.f mk = _; omega
    · show min (p.f + p.m) n = _; omega
  · rw [if_neg h]
    show _ = _
    omega
/-- parts one behind the other -/
def PC : Int → List Pt → Int → Prop
  | a, [], e => a = e
  | a, p :: L, e => p.f = a ∧ 1 ≤ p.m ∧ PC (a + p.m) L e
theorem pc_of_check : ∀ {L : List Pt} {a e : Int}, partsCheck L a = (0, e) → PC a L e
  | [], a, e, h => (Prod.mk.inj h).2
  | p :: L, a, e, h => by
    unfold partsCheck at h
    split at h
    · rename_i h1; rw [Prod.mk.injEq] at h; exact absurd h.1 h1
    · rename_i h1
      obtain ⟨h2, _, h3⟩ := Pt.check_0 (Classical.byContradiction h1)
      exact ⟨h3, h2, pc_of_check h⟩
theorem PC.le : ∀ {L : List Pt} {a e : Int}, PC a L e → a ≤ e
  | [], a, e, h => by have : a = e := h; omega
  | p :: L, a, e, h => by have := PC.le h.2.2; have := h.2.1; omega
/-- parts that lie below an address -/
def Low (c : Int) (B : List Pt) : Prop := ∀ y ∈ B, 0 ≤ y.f ∧ y.f ≤ 1048576 ∧ y.f + y.m ≤ c
theorem Low.mono {c d : Int} {B : List Pt} (h : Low c B) (hd : c ≤ d) : Low d B := fun y hy => by have := h y hy; omega
theorem Low.no {c : Int} {B : List Pt} (h : Low c B) (h0 : 0 ≤ c) (h1 : c ≤ 1048576) : ∀ y ∈ B, inPt c y = false := fun y hy => by
  obtain ⟨a, b, d⟩ := h y hy
  rw [inPt_in a b h0 h1, decide_eq_false_iff_not]; omega
theorem Low.find {c : Int} {x : Mf} (h : Low c x.ps) (h0 : 0 ≤ c) (h1 : c ≤ 1048576) : mfind x c = -1 := idxB_none (h.no h0 h1)
def LowM (c : Int) (A : List MfP) : Prop := ∀ m ∈ A, Low c m.1.ps
theorem findM_low {c : Int} {A L : List MfP} (h : LowM c A) (h0 : 0 ≤ c) (h1 : c ≤ 1048576) : ∀ i, findM i (A ++ L) c = findM (i + A.length) L c := by
  induction A with
  | nil => intro i; rfl
  | cons x A ih =>
    intro i
    show (if 0 ≤ mfind x.1 c then some (i, (mfind x.1 c).toNat) else findM (i + 1) (A ++ L) c) = _
    rw [(h x List.mem_cons_self).find h0 h1, if_neg (by decide), ih (fun m hm => h m (List.mem_cons_of_mem _ hm))]
    rw [List.length_cons, show i + 1 + A.length = i + (A.length + 1) by omega]
theorem find_at {A R : List MfP} {m : MfP} {B L : List Pt} {p : Pt} {c : Int} (hA : LowM c A) (hB : Low c B) (hm : m.1.ps = B ++ p :: L) (h1 : p.f ≤ c) (h2 : c < p.f + p.m) (h3 : 0 ≤ p.f) (h4 : c ≤ 1048576) :
    findM 0 (A ++ m :: R) c = some (A.length, B.length) := by
  have hf : mfind m.1 c = (B.length : Int) := by
    unfold mfind
    rw [hm]
    refine idxB_hit (by simp) ?_ ?_
    · rw [List.take_left' rfl]; exact hB.no (by omega) h4
    · rw [List.getElem_append_right (Nat.le_refl _)]
      simp only [Nat.sub_self, List.getElem_cons_zero]
      rw [inPt_in h3 (by omega) (by omega) h4, decide_eq_true_eq]; exact ⟨h1, h2⟩
  rw [findM_low hA (by omega) h4, Nat.zero_add]
  show (if _ then _ else _) = _
  rw [hf, if_pos (by omega)]; simp
/-- an item lies in the part that it tells -/
def InX (X : List MfP) (x : It) : Prop := ∃ u v : Nat, x.n = u ∧ x.i = v ∧ findM 0 X x.a = some (u, v) ∧ findM 0 X (x.b - 1) = some (u, v)
theorem parts_run {A R : List MfP} {m : MfP} {mk n : Int} (hk : mk ≤ n) {num : Int} (hn : num = (A.length : Int)) {lo : Int} (hA : LowM lo A) (hlo : 0 ≤ lo) {e : Int} (he : e ≤ 1048576) :
    ∀ (L B : List Pt) (a : Int), m.1.ps = B ++ L → Low a B → lo ≤ a → PC a L e → Run (InX (A ++ m :: R)) (cl mk n a) (partItems n mk num B.length L) (cl mk n e)
  | [], B, a, _, _, _, h => by have : a = e := h; subst this; rfl
  | p :: L, B, a, hm, hB, ha, h => by
    obtain ⟨h1, h2, h3⟩ := h
    have hle := h3.le
    have ih := parts_run (R := R) hk hn hA hlo he L (B ++ [p]) (a + p.m) (by rw [hm]; simp) (by
      intro y hy
      rcases List.mem_append.1 hy with hy | hy
      · exact hB.mono (by omega) y hy
      · simp only [List.mem_singleton] at hy; subst hy; omega) (by omega) h3
    rw [List.length_append, List.length_singleton] at ih
    subst h1
    refine Run.append (partItem_run hk h2 (fun hlt => ⟨A.length, B.length, hn, rfl, ?_, ?_⟩)) ih
    · exact find_at (fun q hq => (hA q hq).mono (by show lo ≤ max p.f mk; omega)) (hB.mono (by show p.f ≤ max p.f mk; omega)) hm (by show p.f ≤ max p.f mk; omega) (by show max p.f mk < _; omega) (by omega) (by show max p.f mk ≤ _; omega)
    · exact find_at (fun q hq => (hA q hq).mono (by show lo ≤ min (p.f + p.m) n - 1; omega)) (hB.mono (by show p.f ≤ min (p.f + p.m) n - 1; omega)) hm (by show p.f ≤ min (p.f + p.m) n - 1; omega) (by show min (p.f + p.m) n - 1 < _; omega) (by omega) (by show min (p.f + p.m) n - 1 ≤ _; omega)
theorem PC.low : ∀ {L : List Pt} {a e : Int}, PC a L e → 0 ≤ a → e ≤ 1048576 → Low e L
  | [], _, _, _, _, _ => fun y hy => by cases hy
  | p :: L, a, e, h, h0, he => by
    obtain ⟨h1, h2, h3⟩ := h
    have hl := h3.le
    intro y hy
    rcases List.mem_cons.1 hy with rfl | hy
    · omega
    · exact h3.low (by omega) he y hy
theorem lastM_cons2 (x y : MfP) (L : List MfP) : lastM (x :: y :: L) = lastM (y :: L) := by
  unfold lastM; rw [List.getLast?_cons_cons]
theorem lastM_one (x : MfP) : lastM [x] = x := rfl
theorem good_run {X : List MfP} {mk n : Int} (hk : mk ≤ n) : ∀ (L A : List MfP) (x : MfP), Good A (x :: L) → X = A ++ x :: L → LowM x.1.f A → Run (InX X) (cl mk n x.1.f) (planItems n mk (x :: L)) (cl mk n (lastM (x :: L)).1.t)
  | L, A, x, h, hX, hA => by
    cases h with
    | cons hc hf h =>
      obtain ⟨b1, b2, b3, b4, b5, b6, b7, b8⟩ := mcheck_0 hc
      have hpc := pc_of_check b8
      have h1 := parts_run (A := A) (R := L) (m := x) hk (folB_n hf) hA b2.1 b3.2 x.1.ps [] x.1.f rfl (fun y hy => by cases hy) (Int.le_refl _) hpc
      rw [← hX] at h1
      have e1 : planItems n mk (x :: L) = partItems n mk x.1.n 0 x.1.ps ++ planItems n mk L := rfl
      rw [e1]
      refine Run.append h1 ?_
      cases L with
      | nil => rw [lastM_one]; rfl
      | cons y L =>
        have hyf : y.1.f = x.1.t := by
          cases h with
          | cons _ hf2 _ => exact (folB_last hf2).2.2.2.1
        rw [lastM_cons2, ← hyf]
        refine good_run hk L (A ++ [x]) y h (by rw [hX]; simp) ?_
        intro q hq
        rw [hyf]
        rcases List.mem_append.1 hq with hq | hq
        · exact (hA q hq).mono (by omega)
        · simp only [List.mem_singleton] at hq; subst hq; exact hpc.low b2.1 b3.2
theorem good_facts : ∀ (L A : List MfP) (x : MfP), Good A (x :: L) → 0 ≤ x.1.f ∧ x.1.f ≤ (lastM (x :: L)).1.t ∧ (lastM (x :: L)).1.t ≤ 1048576 ∧ ∀ y ∈ x :: L, 0 ≤ y.1.r ∧ y.1.r ≤ (lastM (x :: L)).1.r
  | [], A, x, h => by
    cases h with
    | cons hc hf h =>
      obtain ⟨b1, b2, b3, b4, b5, b6, b7, b8⟩ := mcheck_0 hc
      rw [lastM_one]
      refine ⟨b2.1, b5, b3.2, fun y hy => ?_⟩
      simp only [List.mem_singleton] at hy; subst hy; exact ⟨b4.1, Int.le_refl _⟩
  | y :: L, A, x, h => by
    cases h with
    | cons hc hf h =>
      obtain ⟨b1, b2, b3, b4, b5, b6, b7, b8⟩ := mcheck_0 hc
      obtain ⟨i1, i2, i3, i4⟩ := good_facts L (A ++ [x]) y h
      cases h with
      | cons _ hf2 _ =>
        obtain ⟨_, _, _, q1, q2⟩ := folB_last hf2
        rw [lastM_cons2]
        refine ⟨b2.1, by omega, i3, fun z hz => ?_⟩
        have i5 := i4 y List.mem_cons_self
        rcases List.mem_cons.1 hz with rfl | hz
        · omega
        · exact i4 z hz
theorem lastM_mem (x : MfP) (L : List MfP) : lastM (x :: L) ∈ x :: L := by
  unfold lastM
  rw [List.getLast?_eq_getElem?, List.getElem?_eq_getElem (by simp)]
  exact List.getElem_mem _
theorem markAt_le (X : List MfP) (n : Int) : markAt X n ≤ n := by unfold markAt; omega
theorem markAt_good {X : List MfP} (h : Good [] X) (hne : X ≠ []) {n : Int} (hn : n ≤ (lastM X).1.t) (h0 : 0 ≤ n) : 0 ≤ markAt X n ∧ markAt X n ≤ (lastM X).1.r := by
  cases X with
  | nil => exact absurd rfl hne
  | cons x L =>
    obtain ⟨_, _, _, h4⟩ := good_facts L [] x h
    unfold markAt
    cases hq : (x :: L).find? (fun m => decide (n ≤ m.1.t)) with
    | none =>
      rw [List.find?_eq_none] at hq
      have := hq _ (lastM_mem x L)
      simp only [decide_eq_true_eq] at this; exact absurd hn this
    | some m =>
      have := h4 m (List.mem_of_find?_eq_some hq)
      show 0 ≤ min m.1.r n ∧ min m.1.r n ≤ _
      omega
/-- the plan's items, of a chain that reaches n -/
theorem plan_run {X : List MfP} (h : Good [] X) (hne : X ≠ []) {n : Int} (h1 : beginM X ≤ n) (h2 : n ≤ (lastM X).1.t) :
    Run (InX X) (max (beginM X) (markAt X n)) (planItems n (markAt X n) X) n := by
  cases X with
  | nil => exact absurd rfl hne
  | cons x L =>
    have hb : beginM (x :: L) = x.1.f := rfl
    rw [hb] at h1 ⊢
    have hk := markAt_le (x :: L) n
    have hr := good_run hk L [] x h rfl (fun m hm => by cases hm)
    have e1 : cl (markAt (x :: L) n) n x.1.f = max x.1.f (markAt (x :: L) n) := by unfold cl; omega
    have e2 : cl (markAt (x :: L) n) n (lastM (x :: L)).1.t = n := by unfold cl; omega
    rw [e1, e2] at hr
    exact hr
def sizeI : List It → Int
  | [] => 0
  | x :: L => (x.b - x.a) + sizeI L
theorem Run.size {P : It → Prop} : ∀ {L : List It} {a e : Int}, Run P a L e → sizeI L = e - a
  | [], a, e, h => by have : a = e := h; show 0 = _; omega
  | x :: L, a, e, h => by
    have := Run.size h.2.2.2
    have h1 := h.1
    show (x.b - x.a) + sizeI L = _
    omega
theorem Run.le {P : It → Prop} : ∀ {L : List It} {a e : Int}, Run P a L e → a ≤ e
  | [], a, e, h => by have : a = e := h; omega
  | x :: L, a, e, h => by have := Run.le h.2.2.2; have := h.1; have := h.2.1; omega
theorem Run.in {P : It → Prop} : ∀ {L : List It} {a e : Int}, Run P a L e → ∀ x ∈ L, a ≤ x.a ∧ x.a < x.b ∧ x.b ≤ e
  | [], _, _, _, x, hx => by cases hx
  | y :: L, a, e, h, x, hx => by
    have h1 := Run.le h.2.2.2
    have h2 := h.1
    have h3 := h.2.1
    rcases List.mem_cons.1 hx with rfl | hx
    · omega
    · have := Run.in h.2.2.2 x hx; omega
theorem plan_begin {X : List MfP} (h : Good [] X) (hne : X ≠ []) : 0 ≤ beginM X ∧ beginM X ≤ (lastM X).1.t ∧ (lastM X).1.t ≤ 1048576 := by
  cases X with
  | nil => exact absurd rfl hne
  | cons x L => obtain ⟨a, b, c, _⟩ := good_facts L [] x h; exact ⟨a, b, c⟩
end Go.Proofs.YtinbcehlpfnlaaaGreatDoor
