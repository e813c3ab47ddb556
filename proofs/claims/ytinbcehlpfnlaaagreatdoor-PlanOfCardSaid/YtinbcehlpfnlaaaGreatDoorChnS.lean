/- manifest.Same, chain.Common; what a chain is bound to. -/
import Derived.Test.YtinbcehlpfnlaaaGreatDoorFld
import Derived.Deep.DeepCutAuto
import Derived.Deep.CutBlock
import Derived.Test.YtinbcehlpfnlaaaGreatDoorColS
import Derived.Test.YtinbcehlpfnlaaaGreatDoorChnG
namespace Go.Proofs.YtinbcehlpfnlaaaGreatDoor
open Go.RowKit
set_option linter.unusedSimpArgs false
set_option linter.unusedVariables false
set_option maxRecDepth 100000

deriving instance DecidableEq for Pt
deriving instance DecidableEq for Mf
theorem eqFields_cons {P : Program} {w : World} {d : Nat} {xs ys : Array Value} {f : Field} {fs : List Field} {a b : Value} {r s : Bool} (hn : f.name ≠ "_") (ha : (part f.type xs f.offset).run P w = .ok a w) (hb : (part f.type ys f.offset).run P w = .ok b w)
    (hr : (Op.equalIn d f.type a b).run P w = .ok r w) (hs : (Op.eqFields d xs ys fs).run P w = .ok s w) : (Op.eqFields d xs ys (f :: fs)).run P w = .ok (r && s) w := by
  rw [Op.eqFields, if_pos hn]
  simp only [Sem.run_bind, ha, hb, hr, Result.andThen_ok]
  cases r
  · rfl
  · exact hs
theorem pt_d' (x : Pt) (h : x.ok) (w : World) : (part 45 (ptV x).toArray 3).run Tryz.prog w = .ok (.agg (byteVs x.d).toArray) w := by
  refine (part_arr w Tryz.underlying45 dig_size _ _).trans ?_
  have := ext_in (A := [.int .i64 x.f, .int .i64 x.m, .int .i64 x.s]) (B := byteVs x.d) (C := []) (i := 3) (j := 32) rfl (by rw [byteVs_length, h.d])
  rw [List.append_nil] at this
  exact congrArg (fun q => Result.ok (Value.agg q) w) this
theorem eqPt (x y : Pt) (hx : x.ok) (hy : y.ok) (w : World) : (Op.equalIn 10000 53 (.agg (ptV x).toArray) (.agg (ptV y).toArray)).run Tryz.prog w = .ok (decide (x = y)) w := by
  rw [run_equalIn_agg w 9999 53 _ _ (by kernel_rfl) (by kernel_rfl)]
  have hF : Tryz.prog.fieldsOf 53 = (match Tryz.prog.underlying 53 with | some (.struct fs) => fs | _ => #[]) := rfl
  rw [hF, Tryz.underlying53]
  have h4 : (Op.equalIn 9999 45 (.agg (byteVs x.d).toArray) (.agg (byteVs y.d).toArray)).run Tryz.prog w = .ok (x.d == y.d) w :=
    run_equalIn_bytes w 9997 32 45 5 Tryz.underlying45 Tryz.underlying5 u8_size x.d y.d hx.d hy.d
  have hi : ∀ a b : Int, (Op.equalIn 9999 3 (.int .i64 a) (.int .i64 b)).run Tryz.prog w = .ok (a == b) w := fun a b => run_equalIn_int w 9998 3 .i64 .i64 a b Tryz.underlying3
  refine Eq.trans (eqFields_cons (by decide) (part_one w Tryz.underlying3 rfl (toArr_get rfl)) (part_one w Tryz.underlying3 rfl (toArr_get rfl)) (hi x.f y.f)
    (eqFields_cons (by decide) (part_one w Tryz.underlying3 rfl (toArr_get rfl)) (part_one w Tryz.underlying3 rfl (toArr_get rfl)) (hi x.m y.m)
      (eqFields_cons (by decide) (part_one w Tryz.underlying3 rfl (toArr_get rfl)) (part_one w Tryz.underlying3 rfl (toArr_get rfl)) (hi x.s y.s)
        (eqFields_cons (by decide) (pt_d' x hx w) (pt_d' y hy w) h4 (rfl : (Op.eqFields 9999 (ptV x).toArray (ptV y).toArray []).run Tryz.prog w = .ok true w))))) ?_
  refine congrArg (fun q => Result.ok q w) ?_
  obtain ⟨a1, a2, a3, a4⟩ := x
  obtain ⟨b1, b2, b3, b4⟩ := y
  rw [Bool.eq_iff_iff]
  simp
attribute [-go_sem] run_equalIn_agg
theorem ptV_row {x : Pt} (h : x.ok) : (Tryz.prog.info? 53).map (·.size) = some (ptV x).length := by rw [ptV_len h]; kernel_rfl
theorem take_same {α : Type} [DecidableEq α] {X Y : List α} {k : Nat} (h : X.take k = Y.take k) (hk : k < X.length) (hy : k < Y.length) (he : X[k] = Y[k]) : X.take (k + 1) = Y.take (k + 1) := by
  rw [List.take_add_one, List.take_add_one, h, List.getElem?_eq_getElem hk, List.getElem?_eq_getElem hy, he]
end Go.Proofs.YtinbcehlpfnlaaaGreatDoor

namespace Go.Proofs.YtinbcehlpfnlaaaGreatDoor
open Go.RowKit
set_option linter.unusedSimpArgs false
set_option linter.unusedVariables false
set_option maxRecDepth 100000

theorem mf_ne {x y : Mf} (h : x.n ≠ y.n ∨ x.f ≠ y.f ∨ x.t ≠ y.t ∨ x.r ≠ y.r ∨ x.p ≠ y.p ∨ x.ps ≠ y.ps) : decide (x = y) = false := decide_eq_false (fun e => by
  subst e
  rcases h with h | h | h | h | h | h <;> exact h rfl)
theorem mf_eq {x y : Mf} (h0 : x.n = y.n) (h1 : x.f = y.f) (h2 : x.t = y.t) (h3 : x.r = y.r) (h4 : x.p = y.p) : decide (x = y) = decide (x.ps = y.ps) := by
  obtain ⟨a0, a1, a2, a3, a4, a5⟩ := x
  obtain ⟨b0, b1, b2, b3, b4, b5⟩ := y
  cases h0; cases h1; cases h2; cases h3; cases h4
  rw [Bool.eq_iff_iff]; simp
end Go.Proofs.YtinbcehlpfnlaaaGreatDoor

namespace Go.Proofs.YtinbcehlpfnlaaaGreatDoor
open Go.RowKit
set_option linter.unusedSimpArgs false
set_option linter.unusedVariables false
set_option maxRecDepth 100000

/-- how many manifests two lists have in common, from the first on -/
def comM : List MfP → List MfP → Nat
  | x :: X, y :: Y => if x.1 = y.1 then comM X Y + 1 else 0
  | _, _ => 0
theorem com_step {X Y : List MfP} {k : Nat} (hx : k < X.length) (hy : k < Y.length) (h : X[k].1 = Y[k].1) : k + comM (X.drop k) (Y.drop k) = (k + 1) + comM (X.drop (k + 1)) (Y.drop (k + 1)) := by
  rw [List.drop_eq_getElem_cons hx, List.drop_eq_getElem_cons hy, comM, if_pos h]; omega
theorem com_stop {X Y : List MfP} {k : Nat} (hx : k < X.length) (hy : k < Y.length) (h : X[k].1 ≠ Y[k].1) : k + comM (X.drop k) (Y.drop k) = k := by
  rw [List.drop_eq_getElem_cons hx, List.drop_eq_getElem_cons hy, comM, if_neg h]; omega
theorem com_end {X Y : List MfP} {k : Nat} (h : X.length ≤ k ∨ Y.length ≤ k) : k + comM (X.drop k) (Y.drop k) = k := by
  rcases h with h | h
  · rw [List.drop_eq_nil_of_le h]; simp [comM]
  · rw [List.drop_eq_nil_of_le h]; cases X.drop k <;> simp [comM]
end Go.Proofs.YtinbcehlpfnlaaaGreatDoor

namespace Go.Proofs.YtinbcehlpfnlaaaGreatDoor
open Go.RowKit
set_option linter.unusedSimpArgs false
set_option linter.unusedVariables false
set_option maxRecDepth 20000

theorem vb_cancel {a b : Nat} (ha : a < 18446744073709551616) (hb : b < 18446744073709551616) {R S : List UInt8} (h : vb a ++ R = vb b ++ S) : a = b ∧ R = S := by
  have h1 := vtake_vb a ha R
  rw [h, vtake_vb b hb S] at h1
  have h2 : b = a := by simpa using congrArg (fun o => o.map (·.1)) h1
  subst h2
  exact ⟨rfl, List.append_cancel_left h⟩
theorem pt_first {x : Pt} {a : Int} (h : x.check a = 0) : x.f = a := by
  unfold Pt.check at h
  split at h
  · cases h
  · split at h
    · cases h
    · rename_i h2; exact Classical.byContradiction h2
theorem parts_inj : ∀ {L M : List Pt} {a e e' : Int}, partsCheck L a = (0, e) → partsCheck M a = (0, e') → (∀ y ∈ L, y.ok) → (∀ y ∈ M, y.ok) → L.length = M.length → L.flatMap partB = M.flatMap partB → L = M
  | [], [], _, _, _, _, _, _, _, _, _ => rfl
  | x :: L, [], _, _, _, _, _, _, _, hl, _ => by simp at hl
  | [], y :: M, _, _, _, _, _, _, _, hl, _ => by simp at hl
  | x :: L, y :: M, a, e, e', h1, h2, o1, o2, hl, hb => by
    have i1 := parts_in h1 x List.mem_cons_self
    have i2 := parts_in h2 y List.mem_cons_self
    unfold partsCheck at h1 h2
    by_cases hx : x.check a = 0
    rotate_left
    · rw [if_pos hx] at h1; exact absurd (congrArg Prod.fst h1) hx
    by_cases hy : y.check a = 0
    rotate_left
    · rw [if_pos hy] at h2; exact absurd (congrArg Prod.fst h2) hy
    rw [if_neg (by simpa using hx)] at h1
    rw [if_neg (by simpa using hy)] at h2
    simp only [List.flatMap_cons, partB, List.append_assoc] at hb
    obtain ⟨e1, hb1⟩ := vb_cancel (by omega) (by omega) hb
    obtain ⟨e2, hb2⟩ := vb_cancel (by omega) (by omega) hb1
    obtain ⟨e3, hb3⟩ := List.append_inj hb2 (by rw [(o1 x List.mem_cons_self).d, (o2 y List.mem_cons_self).d])
    have exy : x = y := by
      have f1 := pt_first hx
      have f2 := pt_first hy
      obtain ⟨xf, xm, xs, xd⟩ := x
      obtain ⟨yf, ym, ys, yd⟩ := y
      simp only at f1 f2 e1 e2 e3 i1 i2
      rw [Pt.mk.injEq]
      exact ⟨by omega, by omega, by omega, e3⟩
    subst exy
    rw [parts_inj h1 h2 (fun z hz => o1 z (List.mem_cons_of_mem _ hz)) (fun z hz => o2 z (List.mem_cons_of_mem _ hz)) (by simpa using hl) hb3]
theorem put_inj {x y : Mf} (kx : x.check = 0) (ky : y.check = 0) (ox : x.ok) (oy : y.ok) (h : x.put = y.put) : x = y := by
  have tx := text_len kx ox
  have ty := text_len ky oy
  have ht : x.text = y.text := by
    have h1 := ftake_frame x.text (by omega) []
    have h2 := ftake_frame y.text (by omega) []
    unfold Mf.put at h
    rw [h, h2] at h1
    exact (congrArg (fun q => q.2.1) h1).symm
  obtain ⟨a1, a2, a3, a4, a5, a6, a7, a8⟩ := mcheck_0 kx
  obtain ⟨b1, b2, b3, b4, b5, b6, b7, b8⟩ := mcheck_0 ky
  unfold Mf.text at ht
  simp only [List.append_assoc] at ht
  obtain ⟨e1, ht⟩ := vb_cancel (by omega) (by omega) ht
  obtain ⟨e2, ht⟩ := vb_cancel (by omega) (by omega) ht
  obtain ⟨e3, ht⟩ := vb_cancel (by omega) (by omega) ht
  obtain ⟨e4, ht⟩ := vb_cancel (by omega) (by omega) ht
  obtain ⟨e5, ht⟩ := List.append_inj ht (by rw [ox.p, oy.p])
  obtain ⟨e6, ht⟩ := vb_cancel (by omega) (by omega) ht
  have ef : x.f = y.f := by omega
  have e7 : x.ps = y.ps := parts_inj a8 (by rw [ef]; exact b8) ox.ps oy.ps e6 ht
  obtain ⟨xn, xf, xt, xr, xp, xps⟩ := x
  obtain ⟨yn, yf, yt, yr, yp, yps⟩ := y
  simp only at e1 e2 e3 e4 e5 e7 a1 a2 a3 a4 b1 b2 b3 b4
  rw [Mf.mk.injEq]
  exact ⟨by omega, by omega, by omega, by omega, e5, e7⟩
theorem good_all {L A : List MfP} (h : Good A L) : ∀ y ∈ L, y.1.check = 0 := good_each h
theorem good_app : ∀ {P A L : List MfP}, Good A (P ++ L) → Good A P ∧ Good (A ++ P) L
  | [], A, L, h => ⟨.nil A, by simpa using h⟩
  | x :: P, A, L, h => by
    cases h with
    | cons hc hf h =>
      obtain ⟨h1, h2⟩ := good_app h
      exact ⟨.cons hc hf h1, by simpa using h2⟩
theorem good_cat : ∀ {P A L : List MfP}, Good A P → Good (A ++ P) L → Good A (P ++ L)
  | [], A, L, _, h => by simpa using h
  | x :: P, A, L, h, h2 => by
    cases h with
    | cons hc hf h => exact .cons hc hf (good_cat h (by simpa using h2))
theorem chk_app : ∀ {P A L : List MfP}, Good A P → chk A (P ++ L) = chk (A ++ P) L
  | [], A, L, _ => by simp
  | x :: P, A, L, h => by
    cases h with
    | cons hc hf h =>
      show chk A (x :: (P ++ L)) = _
      rw [chk, if_neg (by simpa using hc), if_neg (by simp [hf]), chk_app h]
      simp
theorem fol_congr {A B : List MfP} (h1 : A.length = B.length) (h2 : (lastM A).1 = (lastM B).1) (x : Mf) : folB A x = folB B x := by
  unfold folB headN headD
  rw [h1, h2]
theorem last_snoc (A : List MfP) (y : MfP) : lastM (A ++ [y]) = y := by unfold lastM; simp
theorem good_congr : ∀ {L A B : List MfP}, A.length = B.length → (lastM A).1 = (lastM B).1 → Good A L → Good B L
  | [], A, B, _, _, _ => .nil B
  | x :: L, A, B, h1, h2, h => by
    cases h with
    | cons hc hf h =>
      exact .cons hc (by rw [← fol_congr h1 h2]; exact hf) (good_congr (by simp [h1]) (by rw [last_snoc, last_snoc]) h)
/-- a chain with one manifest changed, another behind it: it breaks there, or right behind -/
theorem break_at {P S : List MfP} {x y m : MfP} (h : Good [] (P ++ x :: y :: S)) (he : (chkM (P ++ m :: y :: S)).2 ≠ 0) : (chkM (P ++ m :: y :: S)).1 ≤ P.length + 1 := by
  obtain ⟨h1, h2⟩ := good_app h
  unfold chkM at he ⊢
  rw [chk_app h1] at he ⊢
  simp only [List.nil_append] at he ⊢ h2
  cases h2 with
  | cons _ _ h2 =>
    cases h2 with
    | cons _ _ h2 =>
      unfold chk at he ⊢
      split
      · simp
      · rename_i c1
        rw [if_neg c1] at he
        split
        · simp
        · rename_i c2
          rw [if_neg c2] at he
          unfold chk at he ⊢
          split
          · simp
          · rename_i c3
            rw [if_neg c3] at he
            split
            · simp
            · rename_i c4
              rw [if_neg c4] at he
              have hg : Good (P ++ [m] ++ [y]) S := good_congr (by simp) (by rw [last_snoc, last_snoc]) h2
              rw [chk_of_good hg] at he
              exact absurd rfl he
theorem col_at : ∀ {X Y : List MfP} {k : Nat} (hx : k < X.length) (hy : k < Y.length), X[k].1.put ≠ Y[k].1.put → shaB X[k].1.put = shaB Y[k].1.put → colM X Y = true
  | [], _, k, hx, _, _, _ => by simp at hx
  | x :: X, [], k, _, hy, _, _ => by simp at hy
  | x :: X, y :: Y, 0, _, _, h1, h2 => by
    unfold colM
    rw [Bool.or_eq_true]
    refine .inl ?_
    rw [Bool.and_eq_true, bne_iff_ne, beq_iff_eq]
    exact ⟨h1, h2⟩
  | x :: X, y :: Y, k + 1, hx, hy, h1, h2 => by
    unfold colM
    rw [Bool.or_eq_true]
    exact .inr (col_at (k := k) (by simpa using hx) (by simpa using hy) (by simpa using h1) (by simpa using h2))
theorem col_app : ∀ {X Y P Q : List MfP}, P.length = Q.length → colM P Q = true → colM (P ++ X) (Q ++ Y) = true
  | X, Y, [], [], _, h => by cases h
  | X, Y, p :: P, [], hl, _ => by simp at hl
  | X, Y, [], q :: Q, hl, _ => by simp at hl
  | X, Y, p :: P, q :: Q, hl, h => by
    show colM (p :: (P ++ X)) (q :: (Q ++ Y)) = true
    unfold colM at h ⊢
    rw [Bool.or_eq_true] at h ⊢
    rcases h with h | h
    · exact .inl h
    · exact .inr (col_app (by simpa using hl) h)
theorem mdig_put {x : Mf} (h : x.check = 0) : mdigB x = shaB x.put := by unfold mdigB; rw [if_pos h]; rfl
/-- a chain that is unbroken with one manifest changed: two texts with one digest -/
theorem unbroken {P S : List MfP} {x y m : MfP} (h : Good [] (P ++ x :: y :: S)) (h2 : Good [] (P ++ m :: y :: S)) (hne : x.1 ≠ m.1) (ox : x.1.ok) (om : m.1.ok) : colM (P ++ x :: y :: S) (P ++ m :: y :: S) = true := by
  have g1 := (good_app h).2
  have g2 := (good_app h2).2
  simp only [List.nil_append] at g1 g2
  cases g1 with
  | cons cx _ g1 =>
    cases g2 with
    | cons cm _ g2 =>
      cases g1 with
      | cons _ f1 _ =>
        cases g2 with
        | cons _ f2 _ =>
          have e1 := (folB_last f1).2.2.1
          have e2 := (folB_last f2).2.2.1
          rw [mdig_put cx] at e1
          rw [mdig_put cm] at e2
          refine col_at (k := P.length) (by simp) (by simp) ?_ ?_
          · simp only [List.getElem_append_right (Nat.le_refl _), Nat.sub_self, List.getElem_cons_zero]
            exact fun hh => hne (put_inj cx cm ox om hh)
          · simp only [List.getElem_append_right (Nat.le_refl _), Nat.sub_self, List.getElem_cons_zero]
            rw [← e1, ← e2]
theorem com_refl : ∀ {X Y : List MfP}, X.map (·.1) = Y.map (·.1) → comM X Y = X.length
  | [], _, _ => by cases ‹List MfP› <;> rfl
  | x :: X, [], h => by simp at h
  | x :: X, y :: Y, h => by
    simp only [List.map_cons, List.cons.injEq] at h
    unfold comM
    rw [if_pos h.1, com_refl h.2]
    simp
/-- the lists turned: the last ahead -/
theorem heads_rev : ∀ (n : Nat) {X Y : List MfP}, X.length = n → Y.length = n → Good [] X → Good [] Y → (∀ x ∈ X, x.1.ok) → (∀ y ∈ Y, y.1.ok) → headD X = headD Y → X.map (·.1) = Y.map (·.1) ∨ colM X Y = true
  | 0, X, Y, hx, hy, _, _, _, _, _ => by
    rw [List.eq_nil_of_length_eq_zero hx, List.eq_nil_of_length_eq_zero hy]; exact .inl rfl
  | n + 1, X, Y, hx, hy, gx, gy, ox, oy, hh => by
    obtain ⟨P, x, rfl⟩ : ∃ P x, X = P ++ [x] := ⟨X.dropLast, X.getLast (by intro e; rw [e] at hx; simp at hx), (List.dropLast_concat_getLast _).symm⟩
    obtain ⟨Q, y, rfl⟩ : ∃ Q y, Y = Q ++ [y] := ⟨Y.dropLast, Y.getLast (by intro e; rw [e] at hy; simp at hy), (List.dropLast_concat_getLast _).symm⟩
    have lp : P.length = n := by simpa using hx
    have lq : Q.length = n := by simpa using hy
    obtain ⟨gp, gx2⟩ := good_app gx
    obtain ⟨gq, gy2⟩ := good_app gy
    simp only [List.nil_append] at gx2 gy2
    cases gx2 with
    | cons cx fx _ =>
      cases gy2 with
      | cons cy fy _ =>
        have hd : mdigB x.1 = mdigB y.1 := by
          unfold headD at hh
          rw [last_snoc, last_snoc, if_neg (by simp), if_neg (by simp)] at hh
          exact hh
        rw [mdig_put cx, mdig_put cy] at hd
        by_cases hp : x.1.put = y.1.put
        · have exy := put_inj cx cy (ox x (by simp)) (oy y (by simp)) hp
          have hpd : headD P = headD Q := by
            cases n with
            | zero => rw [List.eq_nil_of_length_eq_zero lp, List.eq_nil_of_length_eq_zero lq]
            | succ n =>
              unfold folB at fx fy
              simp only [Bool.and_eq_true, Bool.or_eq_true, beq_iff_eq, lp, lq] at fx fy
              have p1 : x.1.p = headD P := by
                rcases fx.2 with h | h
                · omega
                · exact h.1.1.2
              have p2 : y.1.p = headD Q := by
                rcases fy.2 with h | h
                · omega
                · exact h.1.1.2
              rw [← p1, ← p2, exy]
          rcases heads_rev n lp lq gp gq (fun z hz => ox z (by simp [hz])) (fun z hz => oy z (by simp [hz])) hpd with h | h
          · refine .inl ?_
            rw [List.map_append, List.map_append, h]
            simp [exy]
          · exact .inr (col_app (by rw [lp, lq]) h)
        · refine .inr (col_at (k := n) (by simp [lp]) (by simp [lq]) ?_ ?_)
          · simp only [List.getElem_append_right (show P.length ≤ n by omega), List.getElem_append_right (show Q.length ≤ n by omega), lp, lq, Nat.sub_self, List.getElem_cons_zero]
            exact hp
          · simp only [List.getElem_append_right (show P.length ≤ n by omega), List.getElem_append_right (show Q.length ≤ n by omega), lp, lq, Nat.sub_self, List.getElem_cons_zero]
            exact hd
theorem heads_same {X Y : List MfP} (hl : X.length = Y.length) (gx : Good [] X) (gy : Good [] Y) (ox : ∀ x ∈ X, x.1.ok) (oy : ∀ y ∈ Y, y.1.ok) (hh : headD X = headD Y) : comM X Y = X.length ∨ colM X Y = true := by
  rcases heads_rev X.length rfl hl.symm gx gy ox oy hh with h | h
  · exact .inl (com_refl h)
  · exact .inr h
theorem next_chk {X : List MfP} {f r : Int} {ps : List Pt} (h : (nextM X f r ps).1 = 0) (q : Option Addr × Nat) : chkM (X ++ [((nextM X f r ps).2, q)]) = (X.length + 1, 0) := by
  unfold nextM at h ⊢
  split at h
  · rename_i h1; exact absurd h h1
  · rename_i h1
    rw [if_neg h1]
    split at h
    · cases h
    · rename_i h2
      rw [if_neg h2]
      split at h
      · rename_i h3; exact absurd h h3
      · rename_i h3
        rw [if_neg h3]
        have hg : Good [] X := good_of_chk (A := []) (Classical.byContradiction h1)
        have hf : folB X (nextX X f r ps) = true := by
          unfold folB
          by_cases h0 : X.length = 0
          · simp [nextX, h0]
          · have hn : headN X = 0 := by unfold headN; rw [if_neg h0]; exact good_last hg h0
            have e1 : f = (lastM X).1.t := Classical.byContradiction (fun hh => h2 ⟨h0, .inl hh⟩)
            have e2 : (lastM X).1.r ≤ r := by
              rcases Int.lt_or_le r (lastM X).1.r with hh | hh
              · exact absurd ⟨h0, .inr hh⟩ h2
              · exact hh
            simp only [nextX, hn, e1, e2, decide_true, Bool.and_true, beq_self_eq_true, Bool.or_true]
        unfold chkM
        rw [chk_of_good (good_cat hg (.cons (Classical.byContradiction h3) (by simpa using hf) (.nil _)))]
        simp
end Go.Proofs.YtinbcehlpfnlaaaGreatDoor
