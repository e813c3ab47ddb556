/- Layer 11 (proj): Check, Units, Home, Same. -/
import Derived.Test.YtkljeefncopodaaGreatSlY
import Derived.Test.YtkljeefncopodaaGreatPrjB
namespace Go.Proofs.YtkljeefncopodaaGreat
open Go.RowKit
set_option linter.unusedSimpArgs false
set_option linter.unusedVariables false
set_option maxRecDepth 20000

@[go_sem] theorem field_pj0 (w : World) (x y : Value) : (Instr.field 25 (.agg #[x, y]) 0).run Tryz.prog w = .ok x w := by kernel_rfl
@[go_sem] theorem field_pj1 (w : World) (x y : Value) : (Instr.field 25 (.agg #[x, y]) 1).run Tryz.prog w = .ok y w := by kernel_rfl
/-- a projection's value -/
def pjV (e : Int) (a : Option Addr) (c : Nat) (X : List Ch) : Value := .agg #[.int .i64 e, .slice a X.length c]
def docJ (e : Int) (X : List Ch) : Pj := ⟨e, X.map (·.1)⟩
theorem docJ_all (e : Int) (X : List Ch) : (docJ e X).all = flatC X := rfl

theorem punit_any (u : Int) (w : World) : Calls Tryz.prog 146 #[.int .i64 u] w fun e w' => e = .returned (.bool (decide (0 ≤ u) && decide (u < 8))) ∧ w = w' := by
  by_cases h : 0 ≤ u
  · by_cases h2 : u < 8
    · have H := Lib.hid' (And.intro h h2)
      go_enter Tryz.func146, Tryz.ntmps146
      go_wp2
      go_ret
      exact ⟨ret_eq (by simp [H.out.1, H.out.2]), rfl⟩
    · have H := Lib.hid' (And.intro h h2)
      go_enter Tryz.func146, Tryz.ntmps146
      go_wp2
      go_ret
      exact ⟨ret_eq (by simp [H.out.1, H.out.2]), rfl⟩
  · have H := Lib.hid' h
    go_enter Tryz.func146, Tryz.ntmps146
    go_wp2
    go_ret
    exact ⟨ret_eq (by simp; omega), rfl⟩
theorem podd_any (u : Int) (w : World) : Calls Tryz.prog 95 #[.int .i64 u] w fun e w' => e = .returned (.bool (oddU u)) ∧ w = w' := by
  have HC := Lib.hid' (punit_any u w)
  have HF := Lib.hid' (show oddU u = !(decide (0 ≤ u) && decide (u < 8)) from rfl)
  go_enter Tryz.func95, Tryz.ntmps95
  go_wp2_with fail
  refine HC.out.mono ?_
  rintro e w' ⟨rfl, rfl⟩
  generalize (decide (0 ≤ u) && decide (u < 8)) = b at *
  cases b
  all_goals
    go_wp2
    go_ret
    exact ⟨ret_eq (by rw [HF.out]; rfl), rfl⟩
theorem cf_odd (args : Array Value) (w : World) : (callFunc 95 args).run Tryz.prog w = .ok (.enter 95 args) w := by kernel_rfl
theorem pred_odd (w : World) : PredZ 95 #[] oddU w := fun w' x _ => (podd_any x w').mono fun e w'' ⟨he, hw⟩ => ⟨he, hw ▸ Below.refl _ _⟩
def wrongN (n : Nat) : Bool := decide (n < 1) || decide (4 < n)
theorem cf_wrong (args : Array Value) (w : World) : (callFunc 104 args).run Tryz.prog w = .ok (.enter 104 args) w := by kernel_rfl
theorem pred_wrong : PredN 104 wrongN := by
  intro a n c w hn
  by_cases h : n < 1
  · have H := Lib.hid' h
    go_enter Tryz.func104, Tryz.ntmps104
    go_wp2
    go_ret
    exact ⟨ret_eq (by simp [wrongN, H.out]), rfl⟩
  · by_cases h2 : 4 < n
    · have H := Lib.hid' (And.intro h h2)
      go_enter Tryz.func104, Tryz.ntmps104
      go_wp2
      go_ret
      exact ⟨ret_eq (by show Value.bool (decide ((n : Int) < 1) || decide ((4 : Int) < n)) = Value.bool (wrongN n); congr 1; rw [Bool.eq_iff_iff]; simp [wrongN]; omega), rfl⟩
    · have H := Lib.hid' (And.intro h h2)
      go_enter Tryz.func104, Tryz.ntmps104
      go_wp2
      go_ret
      exact ⟨ret_eq (by show Value.bool (decide ((n : Int) < 1) || decide ((4 : Int) < n)) = Value.bool (wrongN n); congr 1; rw [Bool.eq_iff_iff]; simp [wrongN]; omega), rfl⟩

theorem Fr.row0 {base e size n B : Nat} {a : Option Addr} {c : Nat} {xs : List Value} {W w w' : World} (h : Fr (fun k => (Value.slice a 0 c).ownBlock = some k) w w') (hown : w.ownsRow base e size (.slice a n c) n xs) (hB : B ≤ base) (hs : B ≤ w.heap.size) (hb : Below B W w) : Below B W w' :=
  Fr.row (v := .slice a n c) (h.mono (fun k hk => by rw [← hk]; cases a <;> rfl)) hown hB hs hb
/-- all units, in a row of the call's own -/
def UnitsR (l : List Int) (w : World) : Ending → World → Prop := OwnR w.heap.size 3 1 (unitsOf l).length (zVs (unitsOf l)) w
theorem sortI_len (l : List Int) : (sortI l).length = l.length := List.length_mergeSort _
set_option maxHeartbeats 1000000 in
theorem punits_any (e : Int) (a : Option Addr) (c : Nat) (X : List Ch) (w : World) (h : Chs w a c X) (ht : (flatC X).length ≤ 1099511627776) :
    Calls Tryz.prog 97 #[pjV e a c X] w (UnitsR (flatC X) w) := by
  have HS := Lib.hid' h
  have hlen := h.len
  clear h
  unfold pjV
  go_enter Tryz.func97, Tryz.ntmps97
  go_wp2_with fail
  refine (concatZ_any X a c _ (HS.out.below (Nat.le_refl _) (by go_grown)) ht).mono ?_
  rintro en w1 ⟨a1, c1, rfl, ho, hb⟩
  have hz : w.heap.size ≤ w1.heap.size := by have := hb.size; simp at this; omega
  have HO := Lib.hid' (own_base (B' := w.heap.size) ho (by simp))
  have HB := Lib.hid' (show Below w.heap.size w w1 from below_call (by go_grown) (by simp) hb)
  clear ho hb
  generalize flatC X = l at *
  go_wp2_with fail
  refine (sortZ_any l a1 c1 w1 HO.out ht).mono ?_
  rintro en w2 ⟨rfl, ho2, hf2⟩
  have HO2 := Lib.hid' (show w2.ownsRow w.heap.size 3 1 (.slice a1 (sortI l).length c1) (sortI l).length (zVs (sortI l)) by rw [sortI_len]; exact ho2)
  have HB2 := Lib.hid' (hf2.row HO.out (Nat.le_refl _) hz HB.out)
  have hz2 : w.heap.size ≤ w2.heap.size := Nat.le_trans hz hf2.size
  clear ho2 hf2
  go_wp2_with fail
  rw [show (Value.slice a1 l.length c1) = .slice a1 (sortI l).length c1 from by rw [sortI_len]]
  refine (compactZ_any (sortI l) a1 c1 w2 HO2.out (by rw [sortI_len]; exact ht)).mono ?_
  rintro en w3 ⟨rfl, ho3, hf3⟩
  have HO3 := Lib.hid' ho3
  have HB3 := Lib.hid' (hf3.row0 HO2.out (Nat.le_refl _) hz2 HB2.out)
  clear ho3 hf3
  go_wp2_with fail
  go_ret
  exact ⟨a1, c1, rfl, HO3.out, HB3.out⟩

theorem any_wrong (e : Int) (X : List Ch) : X.any (fun x => wrongN x.1.length) = (docJ e X).cs.any wrongC := by
  unfold docJ; rw [List.any_map]; rfl
theorem check_1 {p : Pj} (h : p.e < 0 ∨ 1099511627776 < p.e) : p.check = 1 := by unfold Pj.check; rw [if_pos h]
theorem check_2 {p : Pj} (h : ¬ (p.e < 0 ∨ 1099511627776 < p.e)) (h2 : p.cs.length < 1 ∨ 4 < p.cs.length ∨ p.cs.any wrongC = true) : p.check = 2 := by unfold Pj.check; rw [if_neg h, if_pos h2]
theorem check_3 {p : Pj} (h : ¬ (p.e < 0 ∨ 1099511627776 < p.e)) (h2 : ¬ (p.cs.length < 1 ∨ 4 < p.cs.length ∨ p.cs.any wrongC = true)) (h3 : p.all.any oddU = true) : p.check = 1 := by unfold Pj.check; rw [if_neg h, if_neg h2, if_pos h3]
theorem check_4 {p : Pj} (h : ¬ (p.e < 0 ∨ 1099511627776 < p.e)) (h2 : ¬ (p.cs.length < 1 ∨ 4 < p.cs.length ∨ p.cs.any wrongC = true)) (h3 : ¬ p.all.any oddU = true) (h4 : (unitsOf p.all).length < p.all.length) : p.check = 2 := by unfold Pj.check; rw [if_neg h, if_neg h2, if_neg h3, if_pos h4]
theorem check_5 {p : Pj} (h : ¬ (p.e < 0 ∨ 1099511627776 < p.e)) (h2 : ¬ (p.cs.length < 1 ∨ 4 < p.cs.length ∨ p.cs.any wrongC = true)) (h3 : ¬ p.all.any oddU = true) (h4 : ¬ (unitsOf p.all).length < p.all.length) : p.check = 0 := by unfold Pj.check; rw [if_neg h, if_neg h2, if_neg h3, if_neg h4]
set_option maxHeartbeats 2000000 in
theorem pcheck_any (e : Int) (a : Option Addr) (c : Nat) (X : List Ch) (w : World) (h : Chs w a c X) (ht : (flatC X).length ≤ 1099511627776) :
    Calls Tryz.prog 42 #[pjV e a c X] w fun en w' => en = .returned (errV (docJ e X).check) ∧ Below w.heap.size w w' := by
  have HS := Lib.hid' h
  have hlen := h.len
  have hcf1 := cf_wrong
  have hcf2 := cf_odd
  clear h
  unfold pjV
  go_enter Tryz.func42, Tryz.ntmps42
  go_wp2_with fail
  refine (concatZ_any X a c _ (HS.out.below (Nat.le_refl _) (by go_grown)) ht).mono ?_
  rintro en w1 ⟨a1, c1, rfl, ho, hb⟩
  have hz : w.heap.size < w1.heap.size := by have := hb.size; simp at this; omega
  have HO := Lib.hid' (own_base (B' := w.heap.size) ho (by simp))
  have HB := Lib.hid' (show Below w.heap.size w w1 from below_call (by go_grown) (by simp) hb)
  have d0 : w1.cell? ⟨w.heap.size, 0, none⟩ = some (.int .i64 e) := ((bcell hb).1 _ _ (by simp)).trans (by simp [go_sem])
  have d1 : w1.cell? ⟨w.heap.size, 1, none⟩ = some (.slice a X.length c) := ((bcell hb).1 _ _ (by simp)).trans (by simp [go_sem])
  clear ho hb
  by_cases h1 : e < 0 ∨ 1099511627776 < e
  · have HC := Lib.hid' (check_1 (p := docJ e X) h1)
    have h1' : e < 0 ∨ (¬ e < 0 ∧ 1099511627776 < e) := by omega
    clear h1
    rcases h1' with h1 | ⟨h1, h1b⟩
    all_goals
      go_wp2
      go_ret
      exact ⟨ret_eq (by rw [HC.out]; rfl), HB.out⟩
  have H1 := Lib.hid' h1
  have e0 : 0 ≤ e := by omega
  have e1 : e ≤ 1099511627776 := by omega
  clear h1
  by_cases h2 : X.length < 1 ∨ 4 < X.length
  · have HC := Lib.hid' (check_2 (p := docJ e X) H1.out (by unfold docJ; simp only [List.length_map]; omega))
    have h2' : X.length < 1 ∨ (¬ X.length < 1 ∧ 4 < X.length) := by omega
    clear h2
    rcases h2' with h2 | ⟨h2, h2b⟩
    all_goals
      go_wp2
      go_ret
      exact ⟨ret_eq (by rw [HC.out]; rfl), HB.out⟩
  have h2a : ¬ X.length < 1 := by omega
  have h2b : ¬ 4 < X.length := by omega
  clear h2
  have HW := Lib.hid' (any_wrong e X)
  go_wp2_with fail
  refine (containsFR_any 104 wrongN X a c w1 (HS.out.below (Nat.le_refl _) HB.out) hcf1 (Lib.hid' pred_wrong)).mono ?_
  rintro en w2 ⟨rfl, rfl⟩
  rw [HW.out]
  cases hw : (docJ e X).cs.any wrongC with
  | true =>
    have HC := Lib.hid' (check_2 (p := docJ e X) H1.out (.inr (.inr hw)))
    clear hw
    go_wp2
    go_ret
    exact ⟨ret_eq (by rw [HC.out]; rfl), HB.out⟩
  | false =>
  have H2 := Lib.hid' (show ¬ ((docJ e X).cs.length < 1 ∨ 4 < (docJ e X).cs.length ∨ (docJ e X).cs.any wrongC = true) by
    rw [hw]; unfold docJ; simp only [List.length_map]; rintro (h | h | h)
    · omega
    · omega
    · cases h)
  clear hw HW
  go_wp2_with fail
  refine (containsFZ_any 95 #[] oddU (flatC X) a1 c1 w1 (SlV.of_own HO.out) hcf2 (Lib.hid' (pred_odd _))).mono ?_
  rintro en w3 ⟨rfl, hb3⟩
  have HB3 := Lib.hid' (HB.out.trans (hb3.mono (by omega)))
  have d30 := (hb3.cell (p := ⟨w.heap.size, 0, none⟩) hz).trans d0
  have d31 := (hb3.cell (p := ⟨w.heap.size, 1, none⟩) hz).trans d1
  have hz3 : w.heap.size < w3.heap.size := Nat.lt_of_lt_of_le hz hb3.size
  clear hb3 d0 d1
  cases ho : (flatC X).any oddU with
  | true =>
    have HC := Lib.hid' (check_3 (p := docJ e X) H1.out H2.out ho)
    clear ho
    go_wp2
    go_ret
    exact ⟨ret_eq (by rw [HC.out]; rfl), HB3.out⟩
  | false =>
  have H3 := Lib.hid' (show ¬ (docJ e X).all.any oddU = true by rw [docJ_all, ho]; decide)
  clear ho
  go_wp2_with fail
  refine (punits_any e a c X w3 (HS.out.below (Nat.le_refl _) HB3.out) ht).mono ?_
  rintro en w4 ⟨a4, c4, rfl, ho4, hb4⟩
  have HB4 := Lib.hid' (HB3.out.trans (hb4.mono (by omega)))
  clear ho4 hb4
  have hul := unitsOf_len (flatC X)
  by_cases h4 : (unitsOf (flatC X)).length < (flatC X).length
  · have HC := Lib.hid' (check_4 (p := docJ e X) H1.out H2.out H3.out h4)
    go_wp2
    go_ret
    exact ⟨ret_eq (by rw [HC.out]; rfl), HB4.out⟩
  · have HC := Lib.hid' (check_5 (p := docJ e X) H1.out H2.out H3.out h4)
    go_wp2
    go_ret
    exact ⟨ret_eq (by rw [HC.out]; rfl), HB4.out⟩

/-- where an address is at home -/
def sameJ (p q : Pj) : Bool := p.e == q.e && p.cs == q.cs
set_option maxHeartbeats 1000000 in
theorem psame_any (e f : Int) (a b : Option Addr) (c d : Nat) (X Y : List Ch) (w : World) (h : Chs w a c X) (h' : Chs w b d Y) :
    Calls Tryz.prog 14 #[pjV e a c X, pjV f b d Y] w fun en w' => en = .returned (.bool (sameJ (docJ e X) (docJ f Y))) ∧ Below w.heap.size w w' := by
  have HS := Lib.hid' h
  have HM := Lib.hid' h'
  have HF := Lib.hid' (show sameJ (docJ e X) (docJ f Y) = (e == f && X.map (·.1) == Y.map (·.1)) from rfl)
  clear h h'
  unfold pjV
  cases he : (e == f) with
  | false =>
    go_enter Tryz.func14, Tryz.ntmps14
    go_wp2
    go_ret
    exact ⟨ret_eq (by rw [HF.out, he]; rfl), by go_grown⟩
  | true =>
    have HE := Lib.hid' he
    go_enter Tryz.func14, Tryz.ntmps14
    go_wp2_with fail
    refine (equalR_any X Y a b c d _ (HS.out.below (Nat.le_refl _) (by go_grown)) (HM.out.below (Nat.le_refl _) (by go_grown))).mono ?_
    rintro en w1 ⟨rfl, hb⟩
    have HB := Lib.hid' (show Below w.heap.size w w1 from below_call (by go_grown) (by simp; omega) hb)
    clear hb
    generalize (X.map (·.1) == Y.map (·.1)) = r at *
    cases r
    all_goals
      go_wp2
      go_ret
      exact ⟨ret_eq (by rw [HF.out, HE.out]; rfl), HB.out⟩
end Go.Proofs.YtkljeefncopodaaGreat
