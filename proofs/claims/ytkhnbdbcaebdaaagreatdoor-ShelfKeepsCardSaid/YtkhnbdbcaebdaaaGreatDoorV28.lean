/- Proved here: a part of the proof (28 of 28). -/
import Derived.Test.YtkhnbdbcaebdaaaGreatDoorV27
import Derived.Lib.SlBytesConst
namespace Go.Proofs.YtkhnbdbcaebdaaaGreatDoor
open Go.RowKit
set_option linter.unusedSimpArgs false
set_option linter.unusedVariables false
set_option maxRecDepth 100000
namespace SH
open DK
theorem bytes_one (w : World) (b : UInt8) (n : Nat) (hn : n = 1) : Bytes (w.alloc (.cells #[byteV b] 5 (1, 2))) (.slice (some ⟨w.heap.size, 0, none⟩) n n) [b] := by
  subst hn
  refine ⟨_, _, rfl, Nat.le_refl _, by unfold maxLen; decide, by simp, fun j u hu => ⟨_, rfl, ?_⟩⟩
  have e1 : (Addr.add ⟨w.heap.size, 0, none⟩ j) = ⟨w.heap.size, j, none⟩ := by unfold Addr.add; split <;> simp_all
  rw [e1]
  have e2 : (w.alloc (.cells #[byteV b] 5 (1, 2))).heap[w.heap.size]? = some (.cells #[byteV b] 5 (1, 2)) := by show (w.heap.push _)[w.heap.size]? = _; simp
  simp only [World.cell?, e2, Option.isSome_none, Bool.false_eq_true, if_false]
  simpa [byteVs] using hu
/-- the table is kept by what is done with parts laid since -/
theorem pow_kept {w0 w : World} {G : Nat → Prop} {L : List Asn} {A : Asn} (hp : Pow w0) (H : Sep w0 NoF (A :: L) w) (hA : A.foot = G) : ∀ wq, (∃ L, Sep w G L wq) → Pow wq := fun wq ⟨K, k⟩ => hp.below (H.call1 hA k).toBelow
set_option maxHeartbeats 4000000 in
theorem alive10_any (w : World) (hp : Pow w) : Calls Tryz.prog 5 #[] w fun e w' => e = .returned (.bool true) ∧ Below w.heap.size w w' := by
  have HP := Lib.hid' hp
  clear hp
  obtain ⟨D1, v, D2, q1, q2, q3, q4, q5, q6⟩ := alive_plain
  have Q1 := Lib.hid' q1
  have Q2 := Lib.hid' q2
  have Q3 := Lib.hid' q3
  have Q4 := Lib.hid' q4
  have Q5 := Lib.hid' q5
  have Q6 := Lib.hid' q6
  clear q1 q2 q3 q4 q5 q6
  have kc := fun (w : World) (C : Array Value) (n c : Nat) => Lib.run_convert_bytes_const (P := Tryz.prog) w 32 5 C n c Tryz.underlying32 Tryz.underlying5
  go_enter Tryz.func5, Tryz.ntmps5
  go_wp2_with fail
  refine (dnew_any 1000 w (by decide)).mono ?_
  rintro e w1 ⟨N, G1, rfl, h1⟩
  have H1 := Lib.hid' h1
  clear h1
  go_wp2_with fail
  refine (shopen_any (m := 0) w1 (H1.out.at 0 rfl) (HP.out.below H1.out.toBelow) (Ok.new (by decide)) (by decide) (by decide) (pow_kept HP.out H1.out rfl)).mono ?_
  rintro e w2 hE
  have hE2 : ∃ q us, e = .returned (.tuple #[ptrV q, .nilIface]) ∧ ShAt q N ⟨U.new, 0, false⟩ (newD 1000) us [] G1 w1 w2 := by
    rcases hE with ⟨h0, _⟩ | ⟨_, q, us, he, hs⟩
    · rw [openS_new] at h0; exact absurd rfl h0
    · rw [openS_new] at hs; exact ⟨q, us, he, hs⟩
  clear hE
  obtain ⟨q, us, rfl, hs⟩ := hE2
  obtain ⟨G2, G3, Z, h2⟩ := hs
  have H2 := Lib.hid' (H1.out.call1 rfl h2)
  clear h2
  go_wp2_with fail
  have hA3 : ShAt q N ⟨U.new, 0, false⟩ (newD 1000) us [] NoF w (w2.alloc (.cells #[byteV 120] 5 (1, 2))) := ⟨G2, G3, Z, H2.out.below (by go_grown)⟩
  have hB3 := bytes_one w2 120 1 rfl
  have hz3 : w2.alloc (Obj.cells #[Value.int IntKind.u8 120] 5 (1, 2)) = w2.alloc (.cells #[byteV 120] 5 (1, 2)) := rfl
  rw [hz3]
  clear hz3
  generalize w2.alloc (.cells #[byteV 120] 5 (1, 2)) = w3 at *
  have hp3 : Pow w3 := by
    obtain ⟨_, _, _, h⟩ := hA3
    exact HP.out.below h.toBelow
  obtain ⟨F3, hA3', hback⟩ := hA3.enter
  refine (sdo_any (m := 0) A10 (some ⟨w2.heap.size, 0, none⟩) 1 w3 hA3' hp3 (Ok.new (by decide)) (by decide) (by decide) hB3).mono ?_
  rintro e w4 hE
  unfold SDoR ShR at hE
  rw [Q1.out] at hE
  obtain ⟨rfl, us4, _, h4⟩ := hE
  have H4 := Lib.hid' (hback _ _ _ _ _ h4)
  clear h4 hback hA3 hA3' hB3 hp3
  obtain ⟨G4, G4', Z4, h4⟩ := H4.out
  have H4 := Lib.hid' h4
  clear h4
  simp only [errV_0]
  have hb4 := HP.out.below H4.out.toBelow
  go_wp2_with fail
  refine (cut_any6 (m := 1) [] none 0 w4 (H4.out.at 0 rfl) Q2.out (by rw [Q3.out]; decide) (SlV.empty _ _ _ (Nat.zero_le _) (fun _ => rfl)) (fun k _ _ h => by cases h)).mono ?_
  rintro e w5 ⟨rfl, G5, k5⟩
  have H5 := Lib.hid' (H4.out.call1 rfl k5)
  clear k5
  go_wp2_with fail
  refine (start_any (m := 1) w5 (H5.out.at 0 rfl) (Q2.out.cut []) (Nat.zero_le _)).mono ?_
  rintro e w6 ⟨rfl, G6, k6⟩
  have H6 := Lib.hid' (H5.out.call1 rfl k6)
  clear k6
  have ho6 := (Q2.out.cut []).start
  have hp6 : (upD (cutD D1 [])).pend = [] := rfl
  have Q4' := Q4.out
  generalize upD (cutD D1 []) = D6 at *
  go_wp2_with fail
  refine (shopen_any (m := 1) w6 (H6.out.at 0 rfl) (HP.out.below H6.out.toBelow) ho6 (by decide) (by rw [hp6]; decide) (pow_kept HP.out H6.out rfl)).mono ?_
  rintro e w7 hE
  have hE7 : ∃ q us, e = .returned (.tuple #[ptrV q, .nilIface]) ∧ ShAt q N ⟨v, 1, false⟩ D2 us [] G6 w6 w7 := by
    rcases hE with ⟨h0, _⟩ | ⟨_, q, us, he, hs⟩
    · rw [Q4'] at h0; exact absurd rfl h0
    · rw [Q4'] at hs; exact ⟨q, us, he, hs⟩
  clear hE
  obtain ⟨q7, us7, rfl, hs⟩ := hE7
  obtain ⟨G7, G7', Z7, h7⟩ := hs
  have hA7 : ShAt q7 N ⟨v, 1, false⟩ D2 us7 [Asn.shelf q N ⟨u10, 1, false⟩ us4 G4', Asn.pool Z4 us4] NoF w w7 := ⟨G7, G7', Z7, H6.out.call1 rfl h7⟩
  clear h7
  obtain ⟨F7, hA7', _⟩ := hA7.enter
  have HA7 := Lib.hid' hA7
  have HR7 := Lib.hid' (sread_any 0 2 w7 hA7')
  obtain ⟨p7, bu7, bm7, G8, Z8, hin⟩ := sh_open hA7'
  have HN7 := Lib.hid' (sh_in hin)
  clear hA7 hA7' hin
  rw [Q6.out] at HR7
  go_wp2_with fail
  refine HR7.out.mono ?_
  rintro e w8 ⟨a8, c8, rfl, ho, hb8⟩
  have HB8 := Lib.hid' (show Bytes w8 (.slice a8 1 c8) [120] from SlV.of_own ho)
  have HB7 := Lib.hid' (HP.out)
  have hlw : Below w.heap.size w w8 := by
    obtain ⟨_, _, _, h⟩ := HA7.out
    exact below_call h.toBelow h.toBelow.size hb8
  have HLW := Lib.hid' hlw
  have HN8 := Lib.hid' (fun wq (hb : Below w8.heap.size w8 wq) => snext_any (S := ⟨v, 1, false⟩) wq (HN7.out.below (below_call hb8 hb8.size hb)))
  clear ho hb8 hlw
  rw [errV_0]
  go_upto_region 12 with fail
  have hs := run_string_of (P := Tryz.prog) 32 5 9 Tryz.underlying32 Tryz.underlying5 Tryz.underlying9 (w := w8.alloc (.cells #[.int .i64 1, .slice a8 1 c8] 57)) (SlV.below HB8.out (Nat.le_refl _) (by go_grown))
  have hso : strOf [120] = ⟨#[120]⟩ := rfl
  rw [hso] at hs
  clear hso
  go_wp2_with (go_at_call 10; refine (HN8.out _ (by go_grown)).mono ?_; rintro e w9 ⟨rfl, rfl⟩)
  go_ret
  refine ⟨?_, HLW.out.trans ((Below.refl w8.heap.size w8).alloc (Nat.le_refl _) _ |>.mono HLW.out.size)⟩
  rfl
end SH
end Go.Proofs.YtkhnbdbcaebdaaaGreatDoor

namespace Go.Proofs.YtkhnbdbcaebdaaaGreatDoor
open Go.RowKit
set_option linter.unusedSimpArgs false
set_option linter.unusedVariables false
set_option maxRecDepth 100000
namespace SH
open DK
/-- an act in memory -/
abbrev AcS := Ac × Option Addr × Nat
def acV (x : AcS) : List Value := [.int .i64 x.1.k, .int .i64 x.1.e, .int .i64 x.1.a, .slice x.2.1 x.1.d.length x.2.2]
def ActsAt (w : World) (v : Value) (X : List AcS) : Prop := SlV w v X.length (X.flatMap acV) ∧ ∀ x ∈ X, Bytes w (.slice x.2.1 x.1.d.length x.2.2) x.1.d
theorem ActsAt.below {w w' : World} {v : Value} {X : List AcS} (h : ActsAt w v X) {B : Nat} (hB : w.heap.size ≤ B) (hb : Below B w w') : ActsAt w' v X :=
  ⟨SlV.below h.1 hB hb, fun x hx => SlV.below (h.2 x hx) hB hb⟩
theorem ShAt.toBelow {q N : Nat} {S : Sf} {D : Dk} {vs : PoolL} {L : List Asn} {w w' : World} (h : ShAt q N S D vs L NoF w w') : Below w.heap.size w w' := by
  obtain ⟨_, _, _, H⟩ := h
  exact H.toBelow
theorem pend_put (D : Dk) (n : Nm) (d : List UInt8) : (putD D n d).2.pend.length ≤ D.pend.length + 2 := by
  have hw : ∀ D : Dk, (worksD D).2.pend = D.pend := fun D => by unfold worksD; repeat' split
                                                                all_goals rfl
  have h1 : ∀ (D : Dk) n d, (writeD D n d).2.pend.length ≤ D.pend.length + 1 := fun D n d => by
    have := hw D
    unfold writeD
    simp only
    repeat' split
    all_goals first | (rw [this]; omega) | (unfold addD; simp only [List.length_append, List.length_singleton]; rw [this]; exact Nat.le_refl _) | (rw [this]; exact Nat.le_refl _)
  have h2 : ∀ (D : Dk), (syncD D).2.pend.length ≤ D.pend.length := fun D => by
    have := hw D
    unfold syncD
    simp only
    split
    · rw [this]; omega
    · simp
  have h3 : ∀ (D : Dk) n d, (renameD D n d).2.pend.length ≤ D.pend.length + 1 := fun D n d => by
    have := hw D
    unfold renameD
    simp only
    repeat' split
    all_goals first | (rw [this]; omega) | (unfold addD; simp only [List.length_append, List.length_singleton]; rw [this]; exact Nat.le_refl _) | (rw [this]; exact Nat.le_refl _)
  have g1 := h1 D (tilde ++ n) d
  have g2 := h2 (writeD D (tilde ++ n) d).2
  have g3 := h3 (syncD (writeD D (tilde ++ n) d).2).2 (tilde ++ n) n
  have g4 := h2 (renameD (syncD (writeD D (tilde ++ n) d).2).2 (tilde ++ n) n).2
  unfold putD
  repeat' split
  all_goals first | exact Nat.le_add_right _ _ | exact Nat.le_trans g1 (by omega) | omega
end SH
end Go.Proofs.YtkhnbdbcaebdaaaGreatDoor

namespace Go.Proofs.YtkhnbdbcaebdaaaGreatDoor
open Go.RowKit
set_option linter.unusedSimpArgs false
set_option linter.unusedVariables false
set_option maxRecDepth 100000
namespace SH
open DK
/-- the parts with the unit and the pool ahead -/
theorem sh_unit {q N : Nat} {S : Sf} {D : Dk} {us vs : PoolL} {L : List Asn} {F : Nat → Prop} {W w : World} {bu bm : Nat} {v : U} (h : ShAt q N S D us (.unit bu bm v vs :: L) F W w) (hs : ∀ x ∈ vs, x ∈ us) :
    ∃ G1 G2 Z, Sep W F (.unit bu bm v us :: Asn.pool Z us :: Asn.disk N D G1 :: Asn.shelf q N S us G2 :: L) w := by
  obtain ⟨G1, G2, Z, H⟩ := h
  have h1 : Sep W F (.unit bu bm v vs :: Asn.disk N D G1 :: Asn.shelf q N S us G2 :: Asn.pool Z us :: L) w := H.focus 3 rfl
  have h2 := h1.turn (B := .unit bu bm v us) (Asn.unit_more (h1.at 0 rfl) hs) (fun _ h => h)
  have h3 : Sep W F (Asn.pool Z us :: .unit bu bm v us :: Asn.disk N D G1 :: Asn.shelf q N S us G2 :: L) w := h2.focus 3 rfl
  exact ⟨G1, G2, Z, h3.swap1⟩
theorem sh_back {q N : Nat} {S : Sf} {D : Dk} {us vs : PoolL} {L : List Asn} {F G1 G2 Z : Nat → Prop} {W w : World} (h : Sep W F (Asn.pool Z vs :: Asn.disk N D G1 :: Asn.shelf q N S us G2 :: L) w) (hs : ∀ x ∈ us, x ∈ vs) : ShAt q N S D vs L F W w := by
  have h1 : Sep W F (Asn.shelf q N S us G2 :: Asn.pool Z vs :: Asn.disk N D G1 :: L) w := h.focus 2 rfl
  obtain ⟨G3, h2⟩ := shelf_more h1 hs
  exact ⟨G1, G3, Z, h2.focus 2 rfl⟩
theorem kcopy_any {q N : Nat} {S : Sf} {D : Dk} {us vs : PoolL} {L : List Asn} {W : World} {bu bm : Nat} {v : U} (w : World) (h : ShAt q N S D us (.unit bu bm v vs :: L) NoF W w) (hs : ∀ x ∈ vs, x ∈ us) :
    Calls Tryz.prog 16 #[ptrV bu] w fun e w' => ∃ b2 m2 us', e = .returned (ptrV b2) ∧ (∀ x ∈ us, x ∈ us') ∧ ShAt q N S D us' (.unit b2 m2 v us' :: .unit bu bm v us' :: L) NoF W w' := by
  obtain ⟨G1, G2, Z, H⟩ := sh_unit h hs
  refine (ucopy_any w (Sep.unitAt H)).mono ?_
  rintro e w' ⟨rfl, hb, hz, hu⟩
  have hU := hu (fun k => Off w Z k ∨ k = w.heap.size + 1 ∨ k = w.heap.size) (fun k hk => by rcases hk with hk | hk | hk; exact .inl hk; exact .inr (by omega); exact .inr (by omega)) (.inr (.inr rfl)) (.inr (.inl rfl))
  obtain ⟨Z', us', q1, h1⟩ := Sep.unitNew (show Sep W NoF (Asn.pool Z us :: .unit bu bm v us :: Asn.disk N D G1 :: Asn.shelf q N S us G2 :: L) w from H.swap1) hb (by omega) (by omega) hU
  have h2 : Sep W NoF (.unit bu bm v us :: .unit (w.heap.size + 1) w.heap.size v us' :: Asn.pool Z' us' :: Asn.disk N D G1 :: Asn.shelf q N S us G2 :: L) w' := h1.focus 2 rfl
  have h3 := h2.turn (B := .unit bu bm v us') (Asn.unit_more (h2.at 0 rfl) q1) (fun _ h => h)
  have h4 : Sep W NoF (.unit (w.heap.size + 1) w.heap.size v us' :: .unit bu bm v us' :: Asn.pool Z' us' :: Asn.disk N D G1 :: Asn.shelf q N S us G2 :: L) w' := h3.swap1
  have h5 : Sep W NoF (Asn.shelf q N S us G2 :: .unit (w.heap.size + 1) w.heap.size v us' :: .unit bu bm v us' :: Asn.pool Z' us' :: Asn.disk N D G1 :: L) w' := h4.focus 4 rfl
  have h6 : Sep W NoF (Asn.disk N D G1 :: Asn.shelf q N S us G2 :: .unit (w.heap.size + 1) w.heap.size v us' :: .unit bu bm v us' :: Asn.pool Z' us' :: L) w' := h5.focus 4 rfl
  have h7 : Sep W NoF (Asn.pool Z' us' :: Asn.disk N D G1 :: Asn.shelf q N S us G2 :: .unit (w.heap.size + 1) w.heap.size v us' :: .unit bu bm v us' :: L) w' := h6.focus 4 rfl
  exact ⟨_, _, us', rfl, q1, sh_back h7 q1⟩
theorem kapply_any {q N : Nat} {S : Sf} {D : Dk} {us vs : PoolL} {L : List Asn} {W : World} {bu bm : Nat} {v : U} (x : Ac) (a : Option Addr) (c : Nat) (w : World) (h : ShAt q N S D us (.unit bu bm v vs :: L) NoF W w) (hs : ∀ x ∈ vs, x ∈ us) (hl : v.cells.length ≤ 1048576) (hB : Bytes w (.slice a x.d.length c) x.d) :
    Calls Tryz.prog 17 #[ptrV bu, ac9V x a c] w fun e w' => e = .returned (.tuple #[.int .i64 (apU v x).2.1, errV (apU v x).1]) ∧ ∃ us', (∀ x ∈ us, x ∈ us') ∧ ShAt q N S D us' (.unit bu bm (apU v x).2.2 us' :: L) NoF W w' := by
  obtain ⟨G1, G2, Z, H⟩ := sh_unit h hs
  refine (rapply_any x a c w (Sep.unitAt H) (fun k hk => hk.1) hl hB).mono ?_
  rintro e w' ⟨rfl, hU, hf⟩
  obtain ⟨Z', us', q1, h1⟩ := Sep.unitCall H hU hf
  have h5 : Sep W NoF (Asn.shelf q N S us G2 :: .unit bu bm (apU v x).2.2 us' :: Asn.pool Z' us' :: Asn.disk N D G1 :: L) w' := h1.focus 3 rfl
  have h6 : Sep W NoF (Asn.disk N D G1 :: Asn.shelf q N S us G2 :: .unit bu bm (apU v x).2.2 us' :: Asn.pool Z' us' :: L) w' := h5.focus 3 rfl
  have h7 : Sep W NoF (Asn.pool Z' us' :: Asn.disk N D G1 :: Asn.shelf q N S us G2 :: .unit bu bm (apU v x).2.2 us' :: L) w' := h6.focus 3 rfl
  exact ⟨rfl, us', q1, sh_back h7 q1⟩
theorem kdo_any {m q N : Nat} {S : Sf} {D : Dk} {vs : PoolL} {L : List Asn} {W : World} (x : Ac) (a : Option Addr) (c : Nat) (w : World) (hp : Pow W) (h : ShAt q N S D vs L NoF W w) (ho : Ok m D) (hm : m ≤ 1000) (hpd : D.pend.length ≤ 1) (hB : Bytes w (.slice a x.d.length c) x.d) :
    Calls Tryz.prog 8 #[ptrV q, ac9V x a c] w fun e w' => e = .returned (.tuple #[.int .i64 (doS S D x).2.1, errV (doS S D x).1]) ∧ ∃ us, (∀ x ∈ vs, x ∈ us) ∧ ShAt q N (doS S D x).2.2.1 (doS S D x).2.2.2 us L NoF W w' := by
  obtain ⟨F', h1, hback⟩ := h.enter
  refine (sdo_any (m := m) x a c w h1 (hp.below h.toBelow) ho (by omega) (by omega) hB).mono ?_
  intro e w' hE
  obtain ⟨rfl, us, q1, h2⟩ := hE
  exact ⟨rfl, us, q1, hback _ _ _ _ _ h2⟩
theorem kcomp_any {m q N : Nat} {S : Sf} {D : Dk} {vs : PoolL} {L : List Asn} {W : World} (w : World) (hp : Pow W) (h : ShAt q N S D vs L NoF W w) (ho : Ok m D) (hm : m ≤ 1000) (hpd : D.pend.length ≤ 1) (hc : S.u.cells.length ≤ 65536) :
    Calls Tryz.prog 11 #[ptrV q] w fun e w' => e = .returned (errV (compS S D).1) ∧ ShAt q N (compS S D).2.1 (compS S D).2.2 vs L NoF W w' := by
  obtain ⟨F', h1, hback⟩ := h.enter
  have hpp := pend_put D (nameN 98 S.n) (putU S.u.e S.u.l (sortC S.u.cells)).2
  refine (comp_any (m := m) w h1 (hp.below h.toBelow) ho (by omega) (by omega) hc (by omega)).mono ?_
  intro e w' hE
  obtain ⟨rfl, h2⟩ := hE
  exact ⟨rfl, hback _ _ _ _ _ h2⟩
theorem kunit_any {q N : Nat} {S : Sf} {D : Dk} {vs : PoolL} {L : List Asn} {W : World} (w : World) (h : ShAt q N S D vs L NoF W w) :
    Calls Tryz.prog 9 #[ptrV q] w fun e w' => ∃ bu bm us, e = .returned (ptrV bu) ∧ (∀ x ∈ vs, x ∈ us) ∧ ShAt q N S D us (.unit bu bm S.u us :: L) NoF W w' := by
  obtain ⟨F', h1, hback⟩ := h.enter
  refine (sunit_any w h1).mono ?_
  rintro e w' ⟨bu, bm, us, rfl, hs, h2⟩
  exact ⟨bu, bm, us, rfl, hs, hback _ _ _ _ _ h2⟩
theorem kdown_any {q N : Nat} {S : Sf} {D : Dk} {vs : PoolL} {L : List Asn} {W : World} (w : World) (h : ShAt q N S D vs L NoF W w) :
    Calls Tryz.prog 22 #[ptrV N] w fun e w' => e = .returned (.bool D.down) ∧ w = w' := by
  obtain ⟨_, _, _, H⟩ := h
  exact Down_any w (H.at 0 rfl)
theorem kfuse_any {q N : Nat} {S : Sf} {D : Dk} {vs : PoolL} {L : List Asn} {W : World} (x : Int) (w : World) (h : ShAt q N S D vs L NoF W w) (hx : 0 ≤ x) :
    Calls Tryz.prog 20 #[ptrV N, .int .i64 x] w fun e w' => e = .returned .nilIface ∧ ShAt q N S { D with fuse := x } vs L NoF W w' := by
  obtain ⟨G1, G2, Z, H⟩ := h
  refine (fuse_any x w (H.at 0 rfl) hx).mono ?_
  rintro e w' ⟨rfl, G', k⟩
  exact ⟨rfl, G', G2, Z, H.call1 rfl k⟩
end SH
end Go.Proofs.YtkhnbdbcaebdaaaGreatDoor

namespace Go.Proofs.YtkhnbdbcaebdaaaGreatDoor
open Go.RowKit
set_option linter.unusedSimpArgs false
set_option linter.unusedVariables false
set_option maxRecDepth 100000
namespace SH
open DK
theorem ints_flat : ∀ B : List Int, B.flatMap (fun x => [Value.int .i64 x]) = B.map (Value.int .i64)
  | [] => rfl
  | x :: B => by rw [List.flatMap_cons, ints_flat B]; rfl
theorem fuse_ok (y : Int) : 0 ≤ wrap64 ((IntKind.u64.wrap (y.tdiv 3)).tmod 9) ∧ wrap64 ((IntKind.u64.wrap (y.tdiv 3)).tmod 9) < 9223372036854775808 := by
  have h0 : 0 ≤ IntKind.u64.wrap (y.tdiv 3) := by
    unfold IntKind.wrap
    simp [IntKind.signed, IntKind.bits]
    try omega
  generalize IntKind.u64.wrap (y.tdiv 3) = t at *
  have h1 : 0 ≤ t.tmod 9 ∧ t.tmod 9 < 9 := ⟨Int.tmod_nonneg _ h0, Int.tmod_lt_of_pos _ (by decide)⟩
  unfold wrap64
  omega
/-- what the loop keeps -/
def K1 (W : World) (q N bu k : Nat) (w : World) : Prop := ∃ S D us vs bm, KAt (2 * k) k S D ∧ (∀ x ∈ vs, x ∈ us) ∧ ShAt q N S D us [.unit bu bm S.u vs] NoF W w
set_option maxHeartbeats 16000000 in
theorem shelfKeeps_any (X : List AcS) (B : List Int) (ks : List Bool) (a b g : Option Addr) (c d h : Nat) (W : World) (hp : Pow W) (hX : ActsAt W (.slice a X.length c) X)
    (hB : SlV W (.slice b B.length d) B.length (B.map (Value.int .i64))) (hBr : ∀ x ∈ B, -9223372036854775808 ≤ x ∧ x < 9223372036854775808) (hK : SlV W (.slice g ks.length h) ks.length (bools ks)) (hKi : SlIn (fun k => k < W.heap.size) (.slice g ks.length h)) :
    Calls Tryz.prog 4 #[.slice a X.length c, .slice b B.length d, .slice g ks.length h] W fun en w' => en = .returned (.bool true) ∧ Below W.heap.size W w' := by
  have HP := Lib.hid' hp
  have HX := Lib.hid' hX
  have HBB := Lib.hid' hB
  have HBr := Lib.hid' hBr
  have HK := Lib.hid' hK
  have HKi := Lib.hid' hKi
  have hlX : X.length ≤ 9223372036854775807 := by obtain ⟨_, _, he, h1, h2, _⟩ := hX.1; cases he; unfold maxLen at h2; omega
  have hlB : B.length ≤ 9223372036854775807 := by obtain ⟨_, _, he, h1, h2, _⟩ := hB; cases he; unfold maxLen at h2; omega
  have hlK : ks.length ≤ 9223372036854775807 := by obtain ⟨_, _, he, h1, h2, _⟩ := hK; cases he; unfold maxLen at h2; omega
  clear hp hX hB hBr hK hKi
  go_enter Tryz.func4, Tryz.ntmps4
  go_wp2_with fail
  refine (alive10_any _ HP.out).mono ?_
  rintro en w1 ⟨rfl, hb1⟩
  have HB1 := Lib.hid' hb1
  clear hb1
  by_cases hx : 30 < X.length
  · have hxd : (30 : Int) < (X.length : Int) := by omega
    go_wp2
    go_ret
    exact ⟨rfl, HB1.out⟩
  have hxd : ¬ (30 : Int) < (X.length : Int) := by omega
  by_cases hy : 30 < B.length
  · have hyd : (30 : Int) < (B.length : Int) := by omega
    go_wp2
    go_ret
    exact ⟨rfl, HB1.out⟩
  have hyd : ¬ (30 : Int) < (B.length : Int) := by omega
  by_cases hz : 60 < ks.length
  · have hzd : (60 : Int) < (ks.length : Int) := by omega
    go_wp2
    go_ret
    exact ⟨rfl, HB1.out⟩
  have hzd : ¬ (60 : Int) < (ks.length : Int) := by omega
  go_wp2_with fail
  refine (dnew_any 16777216 w1 (by decide)).mono ?_
  rintro e w2 ⟨N, G1, rfl, h1⟩
  have H1 := Lib.hid' h1
  clear h1
  go_wp2_with fail
  have hp1 : Pow w1 := HP.out.below HB1.out
  refine (shopen_any (m := 0) w2 (H1.out.at 0 rfl) (hp1.below H1.out.toBelow) (Ok.new (by decide)) (by decide) (by decide) (pow_kept hp1 H1.out rfl)).mono ?_
  rintro e w3 hE
  have hE2 : ∃ q us, e = .returned (.tuple #[ptrV q, .nilIface]) ∧ ShAt q N ⟨U.new, 0, false⟩ (newD 16777216) us [] G1 w2 w3 := by
    rcases hE with ⟨h0, _⟩ | ⟨_, q, us, he, hs⟩
    · rw [openS_new] at h0; exact absurd rfl h0
    · rw [openS_new] at hs; exact ⟨q, us, he, hs⟩
  clear hE hp1
  obtain ⟨q, us, rfl, hs⟩ := hE2
  obtain ⟨G2, G3, Z, h2⟩ := hs
  have H2 := Lib.hid' (show Sep W NoF [Asn.disk N (newD 16777216) G2, Asn.shelf q N ⟨U.new, 0, false⟩ us G3, Asn.pool Z us] w3 from (Sep.nof HB1.out).call0 (H1.out.call1 rfl h2))
  clear h2 H1 HB1
  go_wp2_with fail
  refine (new_any _).mono ?_
  rintro e w4 ⟨rfl, hb4, hs4, hu4⟩
  have hU := hu4 (fun k => Off w3 Z k ∨ k = w3.heap.size + 1 ∨ k = w3.heap.size) (.inr (.inr rfl)) (.inr (.inl rfl))
  obtain ⟨Z4, us4, q4, h4⟩ := Sep.unitNew (show Sep W NoF [Asn.pool Z us, Asn.disk N (newD 16777216) G2, Asn.shelf q N ⟨U.new, 0, false⟩ us G3] w3 from H2.out.pick [2, 0, 1] (by decide) rfl) hb4 (by omega) (by omega) hU
  obtain ⟨b2, hb2e⟩ : ∃ b, w3.heap.size + 1 = b := ⟨_, rfl⟩
  rw [hb2e] at h4
  rw [hb2e]
  have H4 := Lib.hid' (show K1 W q N b2 0 w4 from ⟨_, _, us4, us4, _, KAt.new, fun _ h => h, sh_back (h4.pick [1, 2, 3, 0] (by decide) rfl) q4⟩)
  clear h4 hb4 hs4 hu4 hU hb2e H2
  go_wp2_with fail
  go_loopw [57, 9, 11] (fun v57 v9 v11 wr => ∃ k q bu : Nat, v57 = .int .i64 k ∧ v9 = ptrV q ∧ v11 = ptrV bu ∧ k ≤ X.length ∧ Hid (K1 W q N bu k wr)) (fun v57 _ _ _ => X.length - (intOf v57).toNat)
  case atStart => exact ⟨0, q, b2, rfl, rfl, rfl, Nat.zero_le _, H4⟩
  case round =>
    clear H4
    obtain ⟨k, q, bu, rfl, rfl, rfl, hk, H4⟩ := hrel
    obtain ⟨S, D, us, vs, bm, hka, hvs, hsh⟩ := H4.out
    have HKA := Lib.hid' hka
    have HVS := Lib.hid' hvs
    have HSH := Lib.hid' hsh
    clear hka hvs hsh H4
    by_cases hlt : k < X.length
    · obtain ⟨hsl, hby⟩ := HX.out.below (Nat.le_refl _) HSH.out.toBelow
      obtain ⟨bq, off, rfl, hb, hc⟩ := SlV.row (s := 4) (fun _ => rfl) (by decide) hsl hlt
      have c0 := hc 0 _ rfl; have c1 := hc 1 _ rfl; have c2 := hc 2 _ rfl; have c3 := hc 3 _ rfl
      simp only [Nat.add_zero] at c0
      have HDW := Lib.hid' (HX.out.2 _ (List.getElem_mem hlt))
      clear hsl hby hc
      generalize X[k] = y at *
      obtain ⟨x, da, dc⟩ := y
      simp only at c0 c1 c2 c3 HDW
      have hdl := bytes_len HDW.out
      by_cases hd : 100 < x.d.length
      · have hdd : (100 : Int) < (x.d.length : Int) := by omega
        go_wp2_with fail
        go_ret
        exact ⟨rfl, HSH.out.toBelow.trans ((show Below wr.heap.size wr _ by go_grown).mono HSH.out.toBelow.size)⟩
      have hdd : ¬ (100 : Int) < (x.d.length : Int) := by omega
      have hd2 : x.d.length ≤ 100 := by omega
      clear hd
      go_upto_region 15 with fail
      obtain ⟨ga, gb, zc, h0⟩ := HSH.out
      have HS5 := Lib.hid' (show ShAt q N S D us [.unit bu bm S.u vs, .box wr.heap.size [.int .i64 x.k, .int .i64 x.e, .int .i64 x.a, .slice da x.d.length dc] 34] NoF W (wr.alloc (.cells #[.int .i64 x.k, .int .i64 x.e, .int .i64 x.a, .slice da x.d.length dc] 34)) from
        ⟨ga, gb, zc, (h0.allocAt wr.heap.size [.int .i64 x.k, .int .i64 x.e, .int .i64 x.a, .slice da x.d.length dc] 34 rfl).pick [1, 2, 3, 4, 0] (by decide) rfl⟩)
      clear h0 c0 c1 c2 c3 HSH
      generalize wr.alloc (.cells #[.int .i64 x.k, .int .i64 x.e, .int .i64 x.a, .slice da x.d.length dc] 34) = w5 at *
      generalize wr.heap.size = nb at *
      have hbw : ∀ x : Int, x ∈ B → ∃ j, j < B.length := fun x hx => ⟨0, List.length_pos_of_mem hx⟩
      clear hbw
      by_cases hn : B.length = 0
      · as_aux_lemma =>
          have hn0 : ¬ (0 : Int) < (B.length : Int) := by omega
          clear hn
          go_upto_region 18 with fail
          go_wp2_with fail
          have HS6 := HS5
          have HKF := HKA
          generalize D = DF at *
          refine (kcopy_any _ HS6.out HVS.out).mono ?_
          rintro e w7 ⟨b3, m3, us7, rfl, hs7, h7⟩
          have H7 := Lib.hid' (show ShAt q N S DF us7 [.unit b3 m3 S.u us7, .unit bu bm S.u us7, .box nb [.int .i64 x.k, .int .i64 x.e, .int .i64 x.a, .slice da x.d.length dc] 34] NoF W w7 from h7)
          obtain ⟨_, _, _, hq⟩ := h7
          have x0 := hq.cell 5 rfl 0 rfl; have x1 := hq.cell 5 rfl 1 rfl; have x2 := hq.cell 5 rfl 2 rfl; have x3 := hq.cell 5 rfl 3 rfl
          have lb := hq.lt 5 rfl
          have hd7 := SlV.below HDW.out (Nat.le_refl _) hq.toBelow
          obtain ⟨ho, hpe, _, _, hok, hcu, _⟩ := HKF.out.facts
          have hcu : S.u.cells.length ≤ k + 1 := by omega
          have hc3 : (apU S.u x).2.2.cells.length ≤ k + 1 := by have := apU_len S.u x; have := HKF.out.facts.2.2.2.2.2.1; omega
          clear hq
          go_wp2_with fail
          refine (kapply_any x da dc _ H7.out (fun _ h => h) (by omega) hd7).mono ?_
          clear x0 x1 x2 x3 lb hd7
          rintro e w8 ⟨rfl, us8, hs8, h8⟩
          have H8 := Lib.hid' (show ShAt q N S DF us8 [.unit b3 m3 (apU S.u x).2.2 us8, .unit bu bm S.u us7, .box nb [.int .i64 x.k, .int .i64 x.e, .int .i64 x.a, .slice da x.d.length dc] 34] NoF W w8 from h8)
          obtain ⟨_, _, _, hq⟩ := h8
          have x0 := hq.cell 5 rfl 0 rfl; have x1 := hq.cell 5 rfl 1 rfl; have x2 := hq.cell 5 rfl 2 rfl; have x3 := hq.cell 5 rfl 3 rfl
          have lb := hq.lt 5 rfl
          have hd8 := SlV.below HDW.out (Nat.le_refl _) hq.toBelow
          clear hq H7
          go_wp2_with fail
          refine (kdo_any (m := 2 * k) x da dc _ HP.out H8.out ho (by omega) (by rw [hpe]; exact Nat.zero_le _) hd8).mono ?_
          clear x0 x1 x2 x3 lb hd8 ho hpe H8
          rintro e w9 ⟨rfl, us9, hs89, h9⟩
          have hs79 : ∀ x ∈ us7, x ∈ us9 := fun x hx => hs89 x (hs8 x hx)
          clear hs7 hs8
          rcases HKF.out.act (by omega) (by omega) x with ⟨SX, DX, c1, c2, c3⟩ | ⟨hx0, DX, c1, c3⟩
          · rw [c1] at h9
            simp only [c1]
            have HSX := Lib.hid' h9
            have HKX := Lib.hid' c3
            clear h9 c3 c1
            by_cases hx0 : (apU S.u x).1 = 0
            · have HEX := Lib.hid' (show (apU S.u x).2.2 = SX.u from c2.symm)
              rw [hx0]
              simp only [errV_0]
              clear c2 hx0
              generalize (apU S.u x).2.1 = kn at *
              go_wp2_with fail
              refine (kdown_any _ HSX.out).mono ?_
              rintro e wz ⟨rfl, rfl⟩
              rw [HKX.out.facts.2.2.1]
              obtain ⟨G1, G2, Zx, hx⟩ := HSX.out
              have HKR := Lib.hid' (show K1 W q N b3 (k + 1) _ from ⟨SX, DX, us9, us8, m3, HKX.out.mono (by omega) (by omega), hs89, G1, G2, Zx, by
                rw [← HEX.out]
                exact (show Sep W NoF [Asn.disk N DX G1, Asn.shelf q N SX us9 G2, Asn.pool Zx us9, .unit b3 m3 (apU S.u x).2.2 us8] _ from hx.pick [0, 1, 2, 3] (by decide) rfl)⟩)
              clear hx
              go_wp2_with fail
              go_roundw
              case rel => exact ⟨k + 1, q, b3, by go_num, rfl, rfl, by omega, HKR⟩
              case measure => simp [intOf]; omega
            · have HEX := Lib.hid' (show S.u = SX.u from by rw [c2, (ap_zero hx0).2])
              have h14 : ((((apU S.u x).1 : Nat) : Int) == 14) = false := by rw [beq_eq_false_iff_ne]; have := ap_err (u := S.u) (x := x); omega
              rw [errV_pos hx0]
              generalize (apU S.u x).2.1 = kn at *
              have hnum := fun wq => num_any (apU S.u x).1 wq
              have his := fun wq => is_any (apU S.u x).1 14 wq
              rw [errV_pos hx0] at hnum his
              rw [h14] at his
              have HNUM := Lib.hid' hnum
              have HIS := Lib.hid' his
              clear c2 hx0 h14 hnum his
              generalize (apU S.u x).1 = en at *
              go_upto_region 29 with (first | (go_at_call 21; refine (HIS.out _).mono ?_; rintro e wz ⟨rfl, rfl⟩) | (go_at_call 18; refine (HNUM.out _).mono ?_; rintro e wz ⟨rfl, rfl⟩))
              go_wp2_with fail
              refine (kdown_any _ HSX.out).mono ?_
              rintro e wz ⟨rfl, rfl⟩
              rw [HKX.out.facts.2.2.1]
              obtain ⟨G1, G2, Zx, hx⟩ := HSX.out
              have HKR := Lib.hid' (show K1 W q N bu (k + 1) _ from ⟨SX, DX, us9, us7, bm, HKX.out.mono (by omega) (by omega), hs79, G1, G2, Zx, by
                rw [← HEX.out]
                exact (show Sep W NoF [Asn.disk N DX G1, Asn.shelf q N SX us9 G2, Asn.pool Zx us9, .unit bu bm S.u us7] _ from hx.pick [0, 1, 2, 4] (by decide) rfl)⟩)
              clear hx
              go_wp2_with fail
              go_roundw
              case rel => exact ⟨k + 1, q, bu, by go_num, rfl, rfl, by omega, HKR⟩
              case measure => simp [intOf]; omega
          · rw [c1] at h9
            simp only [c1]
            have HSX := Lib.hid' h9
            have FELL := Lib.hid' (show Fell (2 * k + 2) (k + 1) S.u (apU S.u x).2.2 DX from ⟨c3.1.mono (by omega), c3.2⟩)
            clear h9 c3 c1
            have his := fun wq => is_any 14 14 wq
            rw [errV_pos (show (14 : Nat) ≠ 0 by decide)] at his
            have HIS := Lib.hid' his
            clear his
            rw [errV_pos (show (14 : Nat) ≠ 0 by decide)]
            generalize (apU S.u x).2.1 = kn at *
            generalize (apU S.u x).1 = en at *
            have hbr : ({ S with br := true } : Sf).br = true := rfl
            have hcx : ({ S with br := true } : Sf).u.cells.length ≤ 65536 := by show S.u.cells.length ≤ _; omega
            generalize ({ S with br := true } : Sf) = SX at *
            go_upto_region 29 with (go_at_call 21; refine (HIS.out _).mono ?_; rintro e wz ⟨rfl, rfl⟩)
            go_wp2_with fail
            refine (kdown_any _ HSX.out).mono ?_
            rintro e wz ⟨rfl, rfl⟩
            rw [FELL.out.facts.2.2]
            go_wp2_with fail
            have CLA := Lib.hid' (show S.u.cells.length ≤ k + 1 from hcu)
            have CLB := Lib.hid' (show (apU S.u x).2.2.cells.length ≤ k + 1 from hc3)
            obtain ⟨hof, hpf, _⟩ := FELL.out.facts
            obtain ⟨G1, G2, Zx, hx⟩ := HSX.out
            refine (cut_any6 (m := 2 * k + 2) ks g h _ (hx.at 0 rfl) hof (by omega) (SlV.below HK.out (Nat.le_refl _) hx.toBelow) (fun p n c hv hg => by
              have h1 := HKi.out p n c hv
              rcases hx.new _ List.mem_cons_self _ hg with h2 | h2
              · omega
              · exact h2.elim)).mono ?_
            rintro e wa ⟨rfl, Ga, ka⟩
            have Ha := Lib.hid' (hx.call1 rfl ka)
            clear ka hx
            go_wp2_with fail
            refine (start_any (m := 2 * k + 2) wa (Ha.out.at 0 rfl) (hof.cut ks) (Nat.zero_le _)).mono ?_
            rintro e wb ⟨rfl, Gb, kb⟩
            have Hb := Lib.hid' (Ha.out.call1 rfl kb)
            clear kb hof hpf Ha
            obtain ⟨hob, hpb, S9, D9, op9, ka9, ue9⟩ := FELL.out.open (by omega) CLA.out CLB.out ks
            have OP9 := Lib.hid' op9
            have KA9 := Lib.hid' ka9
            have UE9 := Lib.hid' ue9
            clear op9 ka9 ue9
            generalize upD (cutD DX ks) = Db at *
            go_wp2_with fail
            refine (shopen_any (m := 2 * k + 2) wb (Hb.out.at 0 rfl) (HP.out.below Hb.out.toBelow) hob (by omega) (by rw [hpb]; exact Nat.zero_le _) (pow_kept HP.out Hb.out rfl)).mono ?_
            rintro e wc hE
            have hEc : ∃ q us, e = .returned (.tuple #[ptrV q, .nilIface]) ∧ ShAt q N S9 D9 us [] Gb wb wc := by
              rcases hE with ⟨h0, _⟩ | ⟨_, q, us, he, hs⟩
              · rw [OP9.out] at h0; exact absurd rfl h0
              · rw [OP9.out] at hs; exact ⟨q, us, he, hs⟩
            clear hE
            obtain ⟨qc, usc, rfl, hs⟩ := hEc
            obtain ⟨Gc, Gc', Zc, hc⟩ := hs
            have HAc := Lib.hid' (show ShAt qc N S9 D9 usc [.unit b3 m3 (apU S.u x).2.2 us8, .unit bu bm S.u us7, Asn.pool Zx us9] NoF W wc from ⟨Gc, Gc', Zc, (show Sep W NoF [Asn.disk N D9 Gc, Asn.shelf qc N S9 usc Gc', Asn.pool Zc usc, Asn.shelf q N SX us9 G2, Asn.pool Zx us9, .unit b3 m3 (apU S.u x).2.2 us8, .unit bu bm S.u us7, .box nb [.int .i64 x.k, .int .i64 x.e, .int .i64 x.a, .slice da x.d.length dc] 34] wc from Hb.out.call1 rfl hc).pick [0, 1, 2, 5, 6, 4] (by decide) rfl⟩)
            clear hc hob hpb Hb
            go_wp2_with fail
            refine (kunit_any _ HAc.out).mono ?_
            rintro e wd ⟨bud, bmd, usd, rfl, hsd, hd⟩
            have HAd := Lib.hid' hd
            obtain ⟨GA, GB, ZC, Hd⟩ := hd
            obtain ⟨_, _, _, _, hok9, hcl9, _⟩ := KA9.out.facts
            have hla : S.u.cells.length ≤ 4194304 := Nat.le_trans CLA.out (by omega)
            have hlb : (apU S.u x).2.2.cells.length ≤ 4194304 := Nat.le_trans CLB.out (by omega)
            have hl9 : S9.u.cells.length ≤ 4194304 := by omega
            have h3 := (show Sep W NoF [.unit b3 m3 (apU S.u x).2.2 us8, .unit bu bm S.u us7, Asn.pool Zx us9, .unit bud bmd S9.u usd, Asn.pool ZC usd] wd from Hd.pick [4, 5, 6, 3, 2] (by decide) rfl)
            have h4 := h3.turn (B := .unit b3 m3 (apU S.u x).2.2 us9) (Asn.unit_more (h3.at 0 rfl) hs89) (fun _ h => h)
            have h5 : Sep W NoF [.unit bu bm S.u us7, .unit b3 m3 (apU S.u x).2.2 us9, Asn.pool Zx us9, .unit bud bmd S9.u usd, Asn.pool ZC usd] wd := h4.swap1
            have h6 := h5.turn (B := .unit bu bm S.u us9) (Asn.unit_more (h5.at 0 rfl) hs79) (fun _ h => h)
            have HSA := Lib.hid' (fun (wq : World) (hb : Below wd.heap.size wd wq) => usame_any wq (Sep.unitAt (show Sep W NoF [.unit bud bmd S9.u usd, Asn.pool ZC usd] wq from (h6.below hb).pick [3, 4] (by decide) rfl)) (Sep.unitAt (show Sep W NoF [.unit bu bm S.u us9, Asn.pool Zx us9] wq from (h6.below hb).pick [0, 2] (by decide) rfl)) hl9 hla)
            have HSB := Lib.hid' (fun (wq : World) (hb : Below wd.heap.size wd wq) => usame_any wq (Sep.unitAt (show Sep W NoF [.unit bud bmd S9.u usd, Asn.pool ZC usd] wq from (h6.below hb).pick [3, 4] (by decide) rfl)) (Sep.unitAt (show Sep W NoF [.unit b3 m3 (apU S.u x).2.2 us9, Asn.pool Zx us9] wq from (h6.below hb).pick [1, 2] (by decide) rfl)) hl9 hlb)
            have HBX := Lib.hid' (fun (wq : World) (hb : Below wd.heap.size wd wq) => show K1 W qc N bud (k + 1) wq from ⟨S9, D9, usd, usd, bmd, KA9.out.mono (by omega) (by omega), fun _ h => h, GA, GB, ZC, (Hd.pick [0, 1, 2, 3] (by decide) rfl).below hb⟩)
            have HOK9 := Lib.hid' hok9
            clear Hd h3 h4 h5 h6 hla hlb hl9 hok9 hcl9 HAd HAc
            go_wp2_with fail
            refine (HSA.out _ (Below.refl _ _)).mono ?_
            rintro e we ⟨rfl, hbe⟩
            have HBe := Lib.hid' hbe
            clear hbe
            cases hsa : sameB S9.u S.u with
            | true =>
              go_wp2_with fail
              go_roundw
              case rel => exact ⟨k + 1, qc, bud, by go_num, rfl, rfl, by omega, Lib.hid' (HBX.out _ HBe.out)⟩
              case measure => simp [intOf]; omega
            | false =>
              have hsb : sameB S9.u (apU S.u x).2.2 = true := by
                rcases UE9.out with hu | hu
                · rw [same_ueq hu HOK9.out] at hsa; cases hsa
                · exact same_ueq hu HOK9.out
              go_wp2_with fail
              refine (HSB.out _ HBe.out).mono ?_
              rintro e wf ⟨rfl, hbf⟩
              rw [hsb]
              have HBf := Lib.hid' (HBe.out.trans (hbf.mono HBe.out.size))
              clear hbf
              go_wp2_with fail
              go_roundw
              case rel => exact ⟨k + 1, qc, bud, by go_num, rfl, rfl, by omega, Lib.hid' (HBX.out _ HBf.out)⟩
              case measure => simp [intOf]; omega
      have hn0 : (0 : Int) < (B.length : Int) := by omega
      have hj : k % B.length < B.length := Nat.mod_lt _ (by omega)
      have hrow : SlV W (.slice b B.length d) B.length (B.flatMap (fun x => [Value.int .i64 x])) := by
        have e : B.flatMap (fun x => [Value.int .i64 x]) = B.map (Value.int .i64) := by
          exact ints_flat B
        rw [e]
        exact HBB.out
      obtain ⟨bb, ob, hbe, hbb, hcb⟩ := SlV.row (f := fun x : Int => [Value.int .i64 x]) (s := 1) (fun _ => rfl) (by decide) hrow hj
      have cb := hcb 0 _ rfl
      simp only [Nat.mul_one, Nat.add_zero] at cb
      have hbr := HBr.out _ (List.getElem_mem hj)
      generalize B[k % B.length] = y at *
      subst hbe
      have HCB := Lib.hid' (fun (wq : World) (hb : Below W.heap.size W wq) => (hb.cell (p := ⟨bb, ob + k % B.length, none⟩) hbb).trans cb)
      clear cb
      have cb := HCB.out _ HS5.out.toBelow
      clear hrow hcb hn
      go_wp2_with fail
      · as_aux_lemma =>
          have hfz : 0 ≤ wrap64 ((IntKind.u64.wrap (y.tdiv 3)).tmod 9) ∧ wrap64 ((IntKind.u64.wrap (y.tdiv 3)).tmod 9) < 9223372036854775808 := fuse_ok y
          generalize wrap64 ((IntKind.u64.wrap (y.tdiv 3)).tmod 9) = fz at *
          refine (kfuse_any fz _ HS5.out hfz.1).mono ?_
          rintro e w6 ⟨rfl, h6⟩
          have HS6 := Lib.hid' h6
          have HKF := Lib.hid' (HKA.out.fuse hfz.1 hfz.2)
          clear h6
          generalize ({ D with fuse := fz } : Dk) = DF at *
          go_wp2_with fail
          refine (kcopy_any _ HS6.out HVS.out).mono ?_
          rintro e w7 ⟨b3, m3, us7, rfl, hs7, h7⟩
          have H7 := Lib.hid' (show ShAt q N S DF us7 [.unit b3 m3 S.u us7, .unit bu bm S.u us7, .box nb [.int .i64 x.k, .int .i64 x.e, .int .i64 x.a, .slice da x.d.length dc] 34] NoF W w7 from h7)
          obtain ⟨_, _, _, hq⟩ := h7
          have x0 := hq.cell 5 rfl 0 rfl; have x1 := hq.cell 5 rfl 1 rfl; have x2 := hq.cell 5 rfl 2 rfl; have x3 := hq.cell 5 rfl 3 rfl
          have lb := hq.lt 5 rfl
          have hd7 := SlV.below HDW.out (Nat.le_refl _) hq.toBelow
          obtain ⟨ho, hpe, _, _, hok, hcu, _⟩ := HKF.out.facts
          have hcu : S.u.cells.length ≤ k + 1 := by omega
          have hc3 : (apU S.u x).2.2.cells.length ≤ k + 1 := by have := apU_len S.u x; have := HKF.out.facts.2.2.2.2.2.1; omega
          clear hq
          go_wp2_with fail
          refine (kapply_any x da dc _ H7.out (fun _ h => h) (by omega) hd7).mono ?_
          clear x0 x1 x2 x3 lb hd7
          rintro e w8 ⟨rfl, us8, hs8, h8⟩
          have H8 := Lib.hid' (show ShAt q N S DF us8 [.unit b3 m3 (apU S.u x).2.2 us8, .unit bu bm S.u us7, .box nb [.int .i64 x.k, .int .i64 x.e, .int .i64 x.a, .slice da x.d.length dc] 34] NoF W w8 from h8)
          obtain ⟨_, _, _, hq⟩ := h8
          have x0 := hq.cell 5 rfl 0 rfl; have x1 := hq.cell 5 rfl 1 rfl; have x2 := hq.cell 5 rfl 2 rfl; have x3 := hq.cell 5 rfl 3 rfl
          have lb := hq.lt 5 rfl
          have hd8 := SlV.below HDW.out (Nat.le_refl _) hq.toBelow
          clear hq H7
          go_wp2_with fail
          refine (kdo_any (m := 2 * k) x da dc _ HP.out H8.out ho (by omega) (by rw [hpe]; exact Nat.zero_le _) hd8).mono ?_
          clear x0 x1 x2 x3 lb hd8 ho hpe H8
          rintro e w9 ⟨rfl, us9, hs89, h9⟩
          have hs79 : ∀ x ∈ us7, x ∈ us9 := fun x hx => hs89 x (hs8 x hx)
          clear hs7 hs8
          rcases HKF.out.act (by omega) (by omega) x with ⟨SX, DX, c1, c2, c3⟩ | ⟨hx0, DX, c1, c3⟩
          · rw [c1] at h9
            simp only [c1]
            have HSX := Lib.hid' h9
            have HKX := Lib.hid' c3
            clear h9 c3 c1
            by_cases hx0 : (apU S.u x).1 = 0
            · have HEX := Lib.hid' (show (apU S.u x).2.2 = SX.u from c2.symm)
              rw [hx0]
              simp only [errV_0]
              clear c2 hx0
              generalize (apU S.u x).2.1 = kn at *
              clear cb
              have cb := HCB.out _ HSX.out.toBelow
              go_wp2_with fail
              · obtain ⟨ho2, hpe2, _, _, _, hcl2, _⟩ := HKX.out.facts
                refine (kcomp_any (m := 2 * k + 1) _ HP.out HSX.out ho2 (by omega) (by rw [hpe2]; exact Nat.zero_le _) (by omega)).mono ?_
                clear ho2 hpe2 hcl2
                rintro e wy ⟨rfl, hy⟩
                rcases HKX.out.comp (by omega) (by omega) SX.u with ⟨DY, c1, c2⟩ | ⟨DY, c1, c2⟩
                · rw [c1] at hy
                  simp only [c1]
                  have HSX := Lib.hid' hy
                  have HKX := Lib.hid' c2
                  clear hy c2 c1
                  generalize DY = DX at *
                  go_wp2_with fail
                  refine (kdown_any _ HSX.out).mono ?_
                  rintro e wz ⟨rfl, rfl⟩
                  rw [HKX.out.facts.2.2.1]
                  obtain ⟨G1, G2, Zx, hx⟩ := HSX.out
                  have HKR := Lib.hid' (show K1 W q N b3 (k + 1) _ from ⟨SX, DX, us9, us8, m3, HKX.out.mono (by omega) (by omega), hs89, G1, G2, Zx, by
                    rw [← HEX.out]
                    exact (show Sep W NoF [Asn.disk N DX G1, Asn.shelf q N SX us9 G2, Asn.pool Zx us9, .unit b3 m3 (apU S.u x).2.2 us8] _ from hx.pick [0, 1, 2, 3] (by decide) rfl)⟩)
                  clear hx
                  go_wp2_with fail
                  go_roundw
                  case rel => exact ⟨k + 1, q, b3, by go_num, rfl, rfl, by omega, HKR⟩
                  case measure => simp [intOf]; omega
                · rw [c1] at hy
                  simp only [c1]
                  have HSX := Lib.hid' hy
                  have c2 : Fell (2 * k + 1 + 1) (k + 1) (apU S.u x).2.2 (apU S.u x).2.2 DY := by rw [← HEX.out] at c2; exact c2
                  have FELL := Lib.hid' (show Fell (2 * k + 2) (k + 1) (apU S.u x).2.2 (apU S.u x).2.2 DY from c2)
                  clear hy c2 c1
                  generalize DY = DX at *
                  generalize ({ SX with br := true } : Sf) = SX at *
                  go_wp2_with fail
                  refine (kdown_any _ HSX.out).mono ?_
                  rintro e wz ⟨rfl, rfl⟩
                  rw [FELL.out.facts.2.2]
                  go_wp2_with fail
                  have CLA := Lib.hid' (show (apU S.u x).2.2.cells.length ≤ k + 1 from hc3)
                  have CLB := Lib.hid' (show (apU S.u x).2.2.cells.length ≤ k + 1 from hc3)
                  obtain ⟨hof, hpf, _⟩ := FELL.out.facts
                  obtain ⟨G1, G2, Zx, hx⟩ := HSX.out
                  refine (cut_any6 (m := 2 * k + 2) ks g h _ (hx.at 0 rfl) hof (by omega) (SlV.below HK.out (Nat.le_refl _) hx.toBelow) (fun p n c hv hg => by
                    have h1 := HKi.out p n c hv
                    rcases hx.new _ List.mem_cons_self _ hg with h2 | h2
                    · omega
                    · exact h2.elim)).mono ?_
                  rintro e wa ⟨rfl, Ga, ka⟩
                  have Ha := Lib.hid' (hx.call1 rfl ka)
                  clear ka hx
                  go_wp2_with fail
                  refine (start_any (m := 2 * k + 2) wa (Ha.out.at 0 rfl) (hof.cut ks) (Nat.zero_le _)).mono ?_
                  rintro e wb ⟨rfl, Gb, kb⟩
                  have Hb := Lib.hid' (Ha.out.call1 rfl kb)
                  clear kb hof hpf Ha
                  obtain ⟨hob, hpb, S9, D9, op9, ka9, ue9⟩ := FELL.out.open (by omega) CLA.out CLB.out ks
                  have OP9 := Lib.hid' op9
                  have KA9 := Lib.hid' ka9
                  have UE9 := Lib.hid' ue9
                  clear op9 ka9 ue9
                  generalize upD (cutD DX ks) = Db at *
                  go_wp2_with fail
                  refine (shopen_any (m := 2 * k + 2) wb (Hb.out.at 0 rfl) (HP.out.below Hb.out.toBelow) hob (by omega) (by rw [hpb]; exact Nat.zero_le _) (pow_kept HP.out Hb.out rfl)).mono ?_
                  rintro e wc hE
                  have hEc : ∃ q us, e = .returned (.tuple #[ptrV q, .nilIface]) ∧ ShAt q N S9 D9 us [] Gb wb wc := by
                    rcases hE with ⟨h0, _⟩ | ⟨_, q, us, he, hs⟩
                    · rw [OP9.out] at h0; exact absurd rfl h0
                    · rw [OP9.out] at hs; exact ⟨q, us, he, hs⟩
                  clear hE
                  obtain ⟨qc, usc, rfl, hs⟩ := hEc
                  obtain ⟨Gc, Gc', Zc, hc⟩ := hs
                  have HAc := Lib.hid' (show ShAt qc N S9 D9 usc [.unit b3 m3 (apU S.u x).2.2 us8, .unit bu bm S.u us7, Asn.pool Zx us9] NoF W wc from ⟨Gc, Gc', Zc, (show Sep W NoF [Asn.disk N D9 Gc, Asn.shelf qc N S9 usc Gc', Asn.pool Zc usc, Asn.shelf q N SX us9 G2, Asn.pool Zx us9, .unit b3 m3 (apU S.u x).2.2 us8, .unit bu bm S.u us7, .box nb [.int .i64 x.k, .int .i64 x.e, .int .i64 x.a, .slice da x.d.length dc] 34] wc from Hb.out.call1 rfl hc).pick [0, 1, 2, 5, 6, 4] (by decide) rfl⟩)
                  clear hc hob hpb Hb
                  go_wp2_with fail
                  refine (kunit_any _ HAc.out).mono ?_
                  rintro e wd ⟨bud, bmd, usd, rfl, hsd, hd⟩
                  have HAd := Lib.hid' hd
                  obtain ⟨GA, GB, ZC, Hd⟩ := hd
                  obtain ⟨_, _, _, _, hok9, hcl9, _⟩ := KA9.out.facts
                  have hla : (apU S.u x).2.2.cells.length ≤ 4194304 := Nat.le_trans CLA.out (by omega)
                  have hlb : (apU S.u x).2.2.cells.length ≤ 4194304 := Nat.le_trans CLB.out (by omega)
                  have hl9 : S9.u.cells.length ≤ 4194304 := by omega
                  have h3 := (show Sep W NoF [.unit b3 m3 (apU S.u x).2.2 us8, .unit bu bm S.u us7, Asn.pool Zx us9, .unit bud bmd S9.u usd, Asn.pool ZC usd] wd from Hd.pick [4, 5, 6, 3, 2] (by decide) rfl)
                  have h4 := h3.turn (B := .unit b3 m3 (apU S.u x).2.2 us9) (Asn.unit_more (h3.at 0 rfl) hs89) (fun _ h => h)
                  have h5 : Sep W NoF [.unit bu bm S.u us7, .unit b3 m3 (apU S.u x).2.2 us9, Asn.pool Zx us9, .unit bud bmd S9.u usd, Asn.pool ZC usd] wd := h4.swap1
                  have h6 := h5.turn (B := .unit bu bm S.u us9) (Asn.unit_more (h5.at 0 rfl) hs79) (fun _ h => h)
                  have HSA := Lib.hid' (fun (wq : World) (hb : Below wd.heap.size wd wq) => usame_any wq (Sep.unitAt (show Sep W NoF [.unit bud bmd S9.u usd, Asn.pool ZC usd] wq from (h6.below hb).pick [3, 4] (by decide) rfl)) (Sep.unitAt (show Sep W NoF [.unit b3 m3 (apU S.u x).2.2 us9, Asn.pool Zx us9] wq from (h6.below hb).pick [1, 2] (by decide) rfl)) hl9 hla)
                  have HSB := Lib.hid' (fun (wq : World) (hb : Below wd.heap.size wd wq) => usame_any wq (Sep.unitAt (show Sep W NoF [.unit bud bmd S9.u usd, Asn.pool ZC usd] wq from (h6.below hb).pick [3, 4] (by decide) rfl)) (Sep.unitAt (show Sep W NoF [.unit b3 m3 (apU S.u x).2.2 us9, Asn.pool Zx us9] wq from (h6.below hb).pick [1, 2] (by decide) rfl)) hl9 hlb)
                  have HBX := Lib.hid' (fun (wq : World) (hb : Below wd.heap.size wd wq) => show K1 W qc N bud (k + 1) wq from ⟨S9, D9, usd, usd, bmd, KA9.out.mono (by omega) (by omega), fun _ h => h, GA, GB, ZC, (Hd.pick [0, 1, 2, 3] (by decide) rfl).below hb⟩)
                  have HOK9 := Lib.hid' hok9
                  clear Hd h3 h4 h5 h6 hla hlb hl9 hok9 hcl9 HAd HAc
                  go_wp2_with fail
                  refine (HSA.out _ (Below.refl _ _)).mono ?_
                  rintro e we ⟨rfl, hbe⟩
                  have HBe := Lib.hid' hbe
                  clear hbe
                  cases hsa : sameB S9.u (apU S.u x).2.2 with
                  | true =>
                    go_wp2_with fail
                    go_roundw
                    case rel => exact ⟨k + 1, qc, bud, by go_num, rfl, rfl, by omega, Lib.hid' (HBX.out _ HBe.out)⟩
                    case measure => simp [intOf]; omega
                  | false =>
                    have hsb : sameB S9.u (apU S.u x).2.2 = true := by
                      rcases UE9.out with hu | hu
                      · rw [same_ueq hu HOK9.out] at hsa; cases hsa
                      · exact same_ueq hu HOK9.out
                    go_wp2_with fail
                    refine (HSB.out _ HBe.out).mono ?_
                    rintro e wf ⟨rfl, hbf⟩
                    rw [hsb]
                    have HBf := Lib.hid' (HBe.out.trans (hbf.mono HBe.out.size))
                    clear hbf
                    go_wp2_with fail
                    go_roundw
                    case rel => exact ⟨k + 1, qc, bud, by go_num, rfl, rfl, by omega, Lib.hid' (HBX.out _ HBf.out)⟩
                    case measure => simp [intOf]; omega
              · refine (kdown_any _ HSX.out).mono ?_
                rintro e wz ⟨rfl, rfl⟩
                rw [HKX.out.facts.2.2.1]
                obtain ⟨G1, G2, Zx, hx⟩ := HSX.out
                have HKR := Lib.hid' (show K1 W q N b3 (k + 1) _ from ⟨SX, DX, us9, us8, m3, HKX.out.mono (by omega) (by omega), hs89, G1, G2, Zx, by
                  rw [← HEX.out]
                  exact (show Sep W NoF [Asn.disk N DX G1, Asn.shelf q N SX us9 G2, Asn.pool Zx us9, .unit b3 m3 (apU S.u x).2.2 us8] _ from hx.pick [0, 1, 2, 3] (by decide) rfl)⟩)
                clear hx
                go_wp2_with fail
                go_roundw
                case rel => exact ⟨k + 1, q, b3, by go_num, rfl, rfl, by omega, HKR⟩
                case measure => simp [intOf]; omega
            · have HEX := Lib.hid' (show S.u = SX.u from by rw [c2, (ap_zero hx0).2])
              have h14 : ((((apU S.u x).1 : Nat) : Int) == 14) = false := by rw [beq_eq_false_iff_ne]; have := ap_err (u := S.u) (x := x); omega
              rw [errV_pos hx0]
              generalize (apU S.u x).2.1 = kn at *
              have hnum := fun wq => num_any (apU S.u x).1 wq
              have his := fun wq => is_any (apU S.u x).1 14 wq
              rw [errV_pos hx0] at hnum his
              rw [h14] at his
              have HNUM := Lib.hid' hnum
              have HIS := Lib.hid' his
              clear c2 hx0 h14 hnum his
              generalize (apU S.u x).1 = en at *
              go_upto_region 29 with (first | (go_at_call 21; refine (HIS.out _).mono ?_; rintro e wz ⟨rfl, rfl⟩) | (go_at_call 18; refine (HNUM.out _).mono ?_; rintro e wz ⟨rfl, rfl⟩))
              clear cb
              have cb := HCB.out _ HSX.out.toBelow
              go_wp2_with fail
              · obtain ⟨ho2, hpe2, _, _, _, hcl2, _⟩ := HKX.out.facts
                refine (kcomp_any (m := 2 * k + 1) _ HP.out HSX.out ho2 (by omega) (by rw [hpe2]; exact Nat.zero_le _) (by omega)).mono ?_
                clear ho2 hpe2 hcl2
                rintro e wy ⟨rfl, hy⟩
                rcases HKX.out.comp (by omega) (by omega) SX.u with ⟨DY, c1, c2⟩ | ⟨DY, c1, c2⟩
                · rw [c1] at hy
                  simp only [c1]
                  have HSX := Lib.hid' hy
                  have HKX := Lib.hid' c2
                  clear hy c2 c1
                  generalize DY = DX at *
                  go_wp2_with fail
                  refine (kdown_any _ HSX.out).mono ?_
                  rintro e wz ⟨rfl, rfl⟩
                  rw [HKX.out.facts.2.2.1]
                  obtain ⟨G1, G2, Zx, hx⟩ := HSX.out
                  have HKR := Lib.hid' (show K1 W q N bu (k + 1) _ from ⟨SX, DX, us9, us7, bm, HKX.out.mono (by omega) (by omega), hs79, G1, G2, Zx, by
                    rw [← HEX.out]
                    exact (show Sep W NoF [Asn.disk N DX G1, Asn.shelf q N SX us9 G2, Asn.pool Zx us9, .unit bu bm S.u us7] _ from hx.pick [0, 1, 2, 4] (by decide) rfl)⟩)
                  clear hx
                  go_wp2_with fail
                  go_roundw
                  case rel => exact ⟨k + 1, q, bu, by go_num, rfl, rfl, by omega, HKR⟩
                  case measure => simp [intOf]; omega
                · rw [c1] at hy
                  simp only [c1]
                  have HSX := Lib.hid' hy
                  have c2 : Fell (2 * k + 1 + 1) (k + 1) S.u S.u DY := by rw [← HEX.out] at c2; exact c2
                  have FELL := Lib.hid' (show Fell (2 * k + 2) (k + 1) S.u S.u DY from c2)
                  clear hy c2 c1
                  generalize DY = DX at *
                  generalize ({ SX with br := true } : Sf) = SX at *
                  go_wp2_with fail
                  refine (kdown_any _ HSX.out).mono ?_
                  rintro e wz ⟨rfl, rfl⟩
                  rw [FELL.out.facts.2.2]
                  go_wp2_with fail
                  have CLA := Lib.hid' (show S.u.cells.length ≤ k + 1 from hcu)
                  have CLB := Lib.hid' (show S.u.cells.length ≤ k + 1 from hcu)
                  obtain ⟨hof, hpf, _⟩ := FELL.out.facts
                  obtain ⟨G1, G2, Zx, hx⟩ := HSX.out
                  refine (cut_any6 (m := 2 * k + 2) ks g h _ (hx.at 0 rfl) hof (by omega) (SlV.below HK.out (Nat.le_refl _) hx.toBelow) (fun p n c hv hg => by
                    have h1 := HKi.out p n c hv
                    rcases hx.new _ List.mem_cons_self _ hg with h2 | h2
                    · omega
                    · exact h2.elim)).mono ?_
                  rintro e wa ⟨rfl, Ga, ka⟩
                  have Ha := Lib.hid' (hx.call1 rfl ka)
                  clear ka hx
                  go_wp2_with fail
                  refine (start_any (m := 2 * k + 2) wa (Ha.out.at 0 rfl) (hof.cut ks) (Nat.zero_le _)).mono ?_
                  rintro e wb ⟨rfl, Gb, kb⟩
                  have Hb := Lib.hid' (Ha.out.call1 rfl kb)
                  clear kb hof hpf Ha
                  obtain ⟨hob, hpb, S9, D9, op9, ka9, ue9⟩ := FELL.out.open (by omega) CLA.out CLB.out ks
                  have OP9 := Lib.hid' op9
                  have KA9 := Lib.hid' ka9
                  have UE9 := Lib.hid' ue9
                  clear op9 ka9 ue9
                  generalize upD (cutD DX ks) = Db at *
                  go_wp2_with fail
                  refine (shopen_any (m := 2 * k + 2) wb (Hb.out.at 0 rfl) (HP.out.below Hb.out.toBelow) hob (by omega) (by rw [hpb]; exact Nat.zero_le _) (pow_kept HP.out Hb.out rfl)).mono ?_
                  rintro e wc hE
                  have hEc : ∃ q us, e = .returned (.tuple #[ptrV q, .nilIface]) ∧ ShAt q N S9 D9 us [] Gb wb wc := by
                    rcases hE with ⟨h0, _⟩ | ⟨_, q, us, he, hs⟩
                    · rw [OP9.out] at h0; exact absurd rfl h0
                    · rw [OP9.out] at hs; exact ⟨q, us, he, hs⟩
                  clear hE
                  obtain ⟨qc, usc, rfl, hs⟩ := hEc
                  obtain ⟨Gc, Gc', Zc, hc⟩ := hs
                  have HAc := Lib.hid' (show ShAt qc N S9 D9 usc [.unit b3 m3 (apU S.u x).2.2 us8, .unit bu bm S.u us7, Asn.pool Zx us9] NoF W wc from ⟨Gc, Gc', Zc, (show Sep W NoF [Asn.disk N D9 Gc, Asn.shelf qc N S9 usc Gc', Asn.pool Zc usc, Asn.shelf q N SX us9 G2, Asn.pool Zx us9, .unit b3 m3 (apU S.u x).2.2 us8, .unit bu bm S.u us7, .box nb [.int .i64 x.k, .int .i64 x.e, .int .i64 x.a, .slice da x.d.length dc] 34] wc from Hb.out.call1 rfl hc).pick [0, 1, 2, 5, 6, 4] (by decide) rfl⟩)
                  clear hc hob hpb Hb
                  go_wp2_with fail
                  refine (kunit_any _ HAc.out).mono ?_
                  rintro e wd ⟨bud, bmd, usd, rfl, hsd, hd⟩
                  have HAd := Lib.hid' hd
                  obtain ⟨GA, GB, ZC, Hd⟩ := hd
                  obtain ⟨_, _, _, _, hok9, hcl9, _⟩ := KA9.out.facts
                  have hla : S.u.cells.length ≤ 4194304 := Nat.le_trans CLA.out (by omega)
                  have hlb : S.u.cells.length ≤ 4194304 := Nat.le_trans CLB.out (by omega)
                  have hl9 : S9.u.cells.length ≤ 4194304 := by omega
                  have h3 := (show Sep W NoF [.unit b3 m3 (apU S.u x).2.2 us8, .unit bu bm S.u us7, Asn.pool Zx us9, .unit bud bmd S9.u usd, Asn.pool ZC usd] wd from Hd.pick [4, 5, 6, 3, 2] (by decide) rfl)
                  have h4 := h3.turn (B := .unit b3 m3 (apU S.u x).2.2 us9) (Asn.unit_more (h3.at 0 rfl) hs89) (fun _ h => h)
                  have h5 : Sep W NoF [.unit bu bm S.u us7, .unit b3 m3 (apU S.u x).2.2 us9, Asn.pool Zx us9, .unit bud bmd S9.u usd, Asn.pool ZC usd] wd := h4.swap1
                  have h6 := h5.turn (B := .unit bu bm S.u us9) (Asn.unit_more (h5.at 0 rfl) hs79) (fun _ h => h)
                  have HSA := Lib.hid' (fun (wq : World) (hb : Below wd.heap.size wd wq) => usame_any wq (Sep.unitAt (show Sep W NoF [.unit bud bmd S9.u usd, Asn.pool ZC usd] wq from (h6.below hb).pick [3, 4] (by decide) rfl)) (Sep.unitAt (show Sep W NoF [.unit bu bm S.u us9, Asn.pool Zx us9] wq from (h6.below hb).pick [0, 2] (by decide) rfl)) hl9 hla)
                  have HSB := Lib.hid' (fun (wq : World) (hb : Below wd.heap.size wd wq) => usame_any wq (Sep.unitAt (show Sep W NoF [.unit bud bmd S9.u usd, Asn.pool ZC usd] wq from (h6.below hb).pick [3, 4] (by decide) rfl)) (Sep.unitAt (show Sep W NoF [.unit bu bm S.u us9, Asn.pool Zx us9] wq from (h6.below hb).pick [0, 2] (by decide) rfl)) hl9 hlb)
                  have HBX := Lib.hid' (fun (wq : World) (hb : Below wd.heap.size wd wq) => show K1 W qc N bud (k + 1) wq from ⟨S9, D9, usd, usd, bmd, KA9.out.mono (by omega) (by omega), fun _ h => h, GA, GB, ZC, (Hd.pick [0, 1, 2, 3] (by decide) rfl).below hb⟩)
                  have HOK9 := Lib.hid' hok9
                  clear Hd h3 h4 h5 h6 hla hlb hl9 hok9 hcl9 HAd HAc
                  go_wp2_with fail
                  refine (HSA.out _ (Below.refl _ _)).mono ?_
                  rintro e we ⟨rfl, hbe⟩
                  have HBe := Lib.hid' hbe
                  clear hbe
                  cases hsa : sameB S9.u S.u with
                  | true =>
                    go_wp2_with fail
                    go_roundw
                    case rel => exact ⟨k + 1, qc, bud, by go_num, rfl, rfl, by omega, Lib.hid' (HBX.out _ HBe.out)⟩
                    case measure => simp [intOf]; omega
                  | false =>
                    have hsb : sameB S9.u S.u = true := by
                      rcases UE9.out with hu | hu
                      · rw [same_ueq hu HOK9.out] at hsa; cases hsa
                      · exact same_ueq hu HOK9.out
                    go_wp2_with fail
                    refine (HSB.out _ HBe.out).mono ?_
                    rintro e wf ⟨rfl, hbf⟩
                    rw [hsb]
                    have HBf := Lib.hid' (HBe.out.trans (hbf.mono HBe.out.size))
                    clear hbf
                    go_wp2_with fail
                    go_roundw
                    case rel => exact ⟨k + 1, qc, bud, by go_num, rfl, rfl, by omega, Lib.hid' (HBX.out _ HBf.out)⟩
                    case measure => simp [intOf]; omega
              · refine (kdown_any _ HSX.out).mono ?_
                rintro e wz ⟨rfl, rfl⟩
                rw [HKX.out.facts.2.2.1]
                obtain ⟨G1, G2, Zx, hx⟩ := HSX.out
                have HKR := Lib.hid' (show K1 W q N bu (k + 1) _ from ⟨SX, DX, us9, us7, bm, HKX.out.mono (by omega) (by omega), hs79, G1, G2, Zx, by
                  rw [← HEX.out]
                  exact (show Sep W NoF [Asn.disk N DX G1, Asn.shelf q N SX us9 G2, Asn.pool Zx us9, .unit bu bm S.u us7] _ from hx.pick [0, 1, 2, 4] (by decide) rfl)⟩)
                clear hx
                go_wp2_with fail
                go_roundw
                case rel => exact ⟨k + 1, q, bu, by go_num, rfl, rfl, by omega, HKR⟩
                case measure => simp [intOf]; omega
          · rw [c1] at h9
            simp only [c1]
            have HSX := Lib.hid' h9
            have FELL := Lib.hid' (show Fell (2 * k + 2) (k + 1) S.u (apU S.u x).2.2 DX from ⟨c3.1.mono (by omega), c3.2⟩)
            clear h9 c3 c1
            have his := fun wq => is_any 14 14 wq
            rw [errV_pos (show (14 : Nat) ≠ 0 by decide)] at his
            have HIS := Lib.hid' his
            clear his
            rw [errV_pos (show (14 : Nat) ≠ 0 by decide)]
            generalize (apU S.u x).2.1 = kn at *
            generalize (apU S.u x).1 = en at *
            have hbr : ({ S with br := true } : Sf).br = true := rfl
            have hcx : ({ S with br := true } : Sf).u.cells.length ≤ 65536 := by show S.u.cells.length ≤ _; omega
            generalize ({ S with br := true } : Sf) = SX at *
            go_upto_region 29 with (go_at_call 21; refine (HIS.out _).mono ?_; rintro e wz ⟨rfl, rfl⟩)
            clear cb
            have cb := HCB.out _ HSX.out.toBelow
            go_wp2_with fail
            · obtain ⟨ho2, hpf2, _⟩ := FELL.out.facts
              have cb := kcomp_any (m := 2 * k + 2) _ HP.out HSX.out ho2 (by omega) hpf2 hcx
              rw [comp_broken hbr] at cb
              refine cb.mono ?_
              clear cb ho2 hpf2 HSX
              rintro e wy ⟨rfl, hy⟩
              have HSX := Lib.hid' hy
              clear hy
              go_wp2_with fail
              refine (kdown_any _ HSX.out).mono ?_
              rintro e wz ⟨rfl, rfl⟩
              rw [FELL.out.facts.2.2]
              go_wp2_with fail
              have CLA := Lib.hid' (show S.u.cells.length ≤ k + 1 from hcu)
              have CLB := Lib.hid' (show (apU S.u x).2.2.cells.length ≤ k + 1 from hc3)
              obtain ⟨hof, hpf, _⟩ := FELL.out.facts
              obtain ⟨G1, G2, Zx, hx⟩ := HSX.out
              refine (cut_any6 (m := 2 * k + 2) ks g h _ (hx.at 0 rfl) hof (by omega) (SlV.below HK.out (Nat.le_refl _) hx.toBelow) (fun p n c hv hg => by
                have h1 := HKi.out p n c hv
                rcases hx.new _ List.mem_cons_self _ hg with h2 | h2
                · omega
                · exact h2.elim)).mono ?_
              rintro e wa ⟨rfl, Ga, ka⟩
              have Ha := Lib.hid' (hx.call1 rfl ka)
              clear ka hx
              go_wp2_with fail
              refine (start_any (m := 2 * k + 2) wa (Ha.out.at 0 rfl) (hof.cut ks) (Nat.zero_le _)).mono ?_
              rintro e wb ⟨rfl, Gb, kb⟩
              have Hb := Lib.hid' (Ha.out.call1 rfl kb)
              clear kb hof hpf Ha
              obtain ⟨hob, hpb, S9, D9, op9, ka9, ue9⟩ := FELL.out.open (by omega) CLA.out CLB.out ks
              have OP9 := Lib.hid' op9
              have KA9 := Lib.hid' ka9
              have UE9 := Lib.hid' ue9
              clear op9 ka9 ue9
              generalize upD (cutD DX ks) = Db at *
              go_wp2_with fail
              refine (shopen_any (m := 2 * k + 2) wb (Hb.out.at 0 rfl) (HP.out.below Hb.out.toBelow) hob (by omega) (by rw [hpb]; exact Nat.zero_le _) (pow_kept HP.out Hb.out rfl)).mono ?_
              rintro e wc hE
              have hEc : ∃ q us, e = .returned (.tuple #[ptrV q, .nilIface]) ∧ ShAt q N S9 D9 us [] Gb wb wc := by
                rcases hE with ⟨h0, _⟩ | ⟨_, q, us, he, hs⟩
                · rw [OP9.out] at h0; exact absurd rfl h0
                · rw [OP9.out] at hs; exact ⟨q, us, he, hs⟩
              clear hE
              obtain ⟨qc, usc, rfl, hs⟩ := hEc
              obtain ⟨Gc, Gc', Zc, hc⟩ := hs
              have HAc := Lib.hid' (show ShAt qc N S9 D9 usc [.unit b3 m3 (apU S.u x).2.2 us8, .unit bu bm S.u us7, Asn.pool Zx us9] NoF W wc from ⟨Gc, Gc', Zc, (show Sep W NoF [Asn.disk N D9 Gc, Asn.shelf qc N S9 usc Gc', Asn.pool Zc usc, Asn.shelf q N SX us9 G2, Asn.pool Zx us9, .unit b3 m3 (apU S.u x).2.2 us8, .unit bu bm S.u us7, .box nb [.int .i64 x.k, .int .i64 x.e, .int .i64 x.a, .slice da x.d.length dc] 34] wc from Hb.out.call1 rfl hc).pick [0, 1, 2, 5, 6, 4] (by decide) rfl⟩)
              clear hc hob hpb Hb
              go_wp2_with fail
              refine (kunit_any _ HAc.out).mono ?_
              rintro e wd ⟨bud, bmd, usd, rfl, hsd, hd⟩
              have HAd := Lib.hid' hd
              obtain ⟨GA, GB, ZC, Hd⟩ := hd
              obtain ⟨_, _, _, _, hok9, hcl9, _⟩ := KA9.out.facts
              have hla : S.u.cells.length ≤ 4194304 := Nat.le_trans CLA.out (by omega)
              have hlb : (apU S.u x).2.2.cells.length ≤ 4194304 := Nat.le_trans CLB.out (by omega)
              have hl9 : S9.u.cells.length ≤ 4194304 := by omega
              have h3 := (show Sep W NoF [.unit b3 m3 (apU S.u x).2.2 us8, .unit bu bm S.u us7, Asn.pool Zx us9, .unit bud bmd S9.u usd, Asn.pool ZC usd] wd from Hd.pick [4, 5, 6, 3, 2] (by decide) rfl)
              have h4 := h3.turn (B := .unit b3 m3 (apU S.u x).2.2 us9) (Asn.unit_more (h3.at 0 rfl) hs89) (fun _ h => h)
              have h5 : Sep W NoF [.unit bu bm S.u us7, .unit b3 m3 (apU S.u x).2.2 us9, Asn.pool Zx us9, .unit bud bmd S9.u usd, Asn.pool ZC usd] wd := h4.swap1
              have h6 := h5.turn (B := .unit bu bm S.u us9) (Asn.unit_more (h5.at 0 rfl) hs79) (fun _ h => h)
              have HSA := Lib.hid' (fun (wq : World) (hb : Below wd.heap.size wd wq) => usame_any wq (Sep.unitAt (show Sep W NoF [.unit bud bmd S9.u usd, Asn.pool ZC usd] wq from (h6.below hb).pick [3, 4] (by decide) rfl)) (Sep.unitAt (show Sep W NoF [.unit bu bm S.u us9, Asn.pool Zx us9] wq from (h6.below hb).pick [0, 2] (by decide) rfl)) hl9 hla)
              have HSB := Lib.hid' (fun (wq : World) (hb : Below wd.heap.size wd wq) => usame_any wq (Sep.unitAt (show Sep W NoF [.unit bud bmd S9.u usd, Asn.pool ZC usd] wq from (h6.below hb).pick [3, 4] (by decide) rfl)) (Sep.unitAt (show Sep W NoF [.unit b3 m3 (apU S.u x).2.2 us9, Asn.pool Zx us9] wq from (h6.below hb).pick [1, 2] (by decide) rfl)) hl9 hlb)
              have HBX := Lib.hid' (fun (wq : World) (hb : Below wd.heap.size wd wq) => show K1 W qc N bud (k + 1) wq from ⟨S9, D9, usd, usd, bmd, KA9.out.mono (by omega) (by omega), fun _ h => h, GA, GB, ZC, (Hd.pick [0, 1, 2, 3] (by decide) rfl).below hb⟩)
              have HOK9 := Lib.hid' hok9
              clear Hd h3 h4 h5 h6 hla hlb hl9 hok9 hcl9 HAd HAc
              go_wp2_with fail
              refine (HSA.out _ (Below.refl _ _)).mono ?_
              rintro e we ⟨rfl, hbe⟩
              have HBe := Lib.hid' hbe
              clear hbe
              cases hsa : sameB S9.u S.u with
              | true =>
                go_wp2_with fail
                go_roundw
                case rel => exact ⟨k + 1, qc, bud, by go_num, rfl, rfl, by omega, Lib.hid' (HBX.out _ HBe.out)⟩
                case measure => simp [intOf]; omega
              | false =>
                have hsb : sameB S9.u (apU S.u x).2.2 = true := by
                  rcases UE9.out with hu | hu
                  · rw [same_ueq hu HOK9.out] at hsa; cases hsa
                  · exact same_ueq hu HOK9.out
                go_wp2_with fail
                refine (HSB.out _ HBe.out).mono ?_
                rintro e wf ⟨rfl, hbf⟩
                rw [hsb]
                have HBf := Lib.hid' (HBe.out.trans (hbf.mono HBe.out.size))
                clear hbf
                go_wp2_with fail
                go_roundw
                case rel => exact ⟨k + 1, qc, bud, by go_num, rfl, rfl, by omega, Lib.hid' (HBX.out _ HBf.out)⟩
                case measure => simp [intOf]; omega
            · refine (kdown_any _ HSX.out).mono ?_
              rintro e wz ⟨rfl, rfl⟩
              rw [FELL.out.facts.2.2]
              go_wp2_with fail
              have CLA := Lib.hid' (show S.u.cells.length ≤ k + 1 from hcu)
              have CLB := Lib.hid' (show (apU S.u x).2.2.cells.length ≤ k + 1 from hc3)
              obtain ⟨hof, hpf, _⟩ := FELL.out.facts
              obtain ⟨G1, G2, Zx, hx⟩ := HSX.out
              refine (cut_any6 (m := 2 * k + 2) ks g h _ (hx.at 0 rfl) hof (by omega) (SlV.below HK.out (Nat.le_refl _) hx.toBelow) (fun p n c hv hg => by
                have h1 := HKi.out p n c hv
                rcases hx.new _ List.mem_cons_self _ hg with h2 | h2
                · omega
                · exact h2.elim)).mono ?_
              rintro e wa ⟨rfl, Ga, ka⟩
              have Ha := Lib.hid' (hx.call1 rfl ka)
              clear ka hx
              go_wp2_with fail
              refine (start_any (m := 2 * k + 2) wa (Ha.out.at 0 rfl) (hof.cut ks) (Nat.zero_le _)).mono ?_
              rintro e wb ⟨rfl, Gb, kb⟩
              have Hb := Lib.hid' (Ha.out.call1 rfl kb)
              clear kb hof hpf Ha
              obtain ⟨hob, hpb, S9, D9, op9, ka9, ue9⟩ := FELL.out.open (by omega) CLA.out CLB.out ks
              have OP9 := Lib.hid' op9
              have KA9 := Lib.hid' ka9
              have UE9 := Lib.hid' ue9
              clear op9 ka9 ue9
              generalize upD (cutD DX ks) = Db at *
              go_wp2_with fail
              refine (shopen_any (m := 2 * k + 2) wb (Hb.out.at 0 rfl) (HP.out.below Hb.out.toBelow) hob (by omega) (by rw [hpb]; exact Nat.zero_le _) (pow_kept HP.out Hb.out rfl)).mono ?_
              rintro e wc hE
              have hEc : ∃ q us, e = .returned (.tuple #[ptrV q, .nilIface]) ∧ ShAt q N S9 D9 us [] Gb wb wc := by
                rcases hE with ⟨h0, _⟩ | ⟨_, q, us, he, hs⟩
                · rw [OP9.out] at h0; exact absurd rfl h0
                · rw [OP9.out] at hs; exact ⟨q, us, he, hs⟩
              clear hE
              obtain ⟨qc, usc, rfl, hs⟩ := hEc
              obtain ⟨Gc, Gc', Zc, hc⟩ := hs
              have HAc := Lib.hid' (show ShAt qc N S9 D9 usc [.unit b3 m3 (apU S.u x).2.2 us8, .unit bu bm S.u us7, Asn.pool Zx us9] NoF W wc from ⟨Gc, Gc', Zc, (show Sep W NoF [Asn.disk N D9 Gc, Asn.shelf qc N S9 usc Gc', Asn.pool Zc usc, Asn.shelf q N SX us9 G2, Asn.pool Zx us9, .unit b3 m3 (apU S.u x).2.2 us8, .unit bu bm S.u us7, .box nb [.int .i64 x.k, .int .i64 x.e, .int .i64 x.a, .slice da x.d.length dc] 34] wc from Hb.out.call1 rfl hc).pick [0, 1, 2, 5, 6, 4] (by decide) rfl⟩)
              clear hc hob hpb Hb
              go_wp2_with fail
              refine (kunit_any _ HAc.out).mono ?_
              rintro e wd ⟨bud, bmd, usd, rfl, hsd, hd⟩
              have HAd := Lib.hid' hd
              obtain ⟨GA, GB, ZC, Hd⟩ := hd
              obtain ⟨_, _, _, _, hok9, hcl9, _⟩ := KA9.out.facts
              have hla : S.u.cells.length ≤ 4194304 := Nat.le_trans CLA.out (by omega)
              have hlb : (apU S.u x).2.2.cells.length ≤ 4194304 := Nat.le_trans CLB.out (by omega)
              have hl9 : S9.u.cells.length ≤ 4194304 := by omega
              have h3 := (show Sep W NoF [.unit b3 m3 (apU S.u x).2.2 us8, .unit bu bm S.u us7, Asn.pool Zx us9, .unit bud bmd S9.u usd, Asn.pool ZC usd] wd from Hd.pick [4, 5, 6, 3, 2] (by decide) rfl)
              have h4 := h3.turn (B := .unit b3 m3 (apU S.u x).2.2 us9) (Asn.unit_more (h3.at 0 rfl) hs89) (fun _ h => h)
              have h5 : Sep W NoF [.unit bu bm S.u us7, .unit b3 m3 (apU S.u x).2.2 us9, Asn.pool Zx us9, .unit bud bmd S9.u usd, Asn.pool ZC usd] wd := h4.swap1
              have h6 := h5.turn (B := .unit bu bm S.u us9) (Asn.unit_more (h5.at 0 rfl) hs79) (fun _ h => h)
              have HSA := Lib.hid' (fun (wq : World) (hb : Below wd.heap.size wd wq) => usame_any wq (Sep.unitAt (show Sep W NoF [.unit bud bmd S9.u usd, Asn.pool ZC usd] wq from (h6.below hb).pick [3, 4] (by decide) rfl)) (Sep.unitAt (show Sep W NoF [.unit bu bm S.u us9, Asn.pool Zx us9] wq from (h6.below hb).pick [0, 2] (by decide) rfl)) hl9 hla)
              have HSB := Lib.hid' (fun (wq : World) (hb : Below wd.heap.size wd wq) => usame_any wq (Sep.unitAt (show Sep W NoF [.unit bud bmd S9.u usd, Asn.pool ZC usd] wq from (h6.below hb).pick [3, 4] (by decide) rfl)) (Sep.unitAt (show Sep W NoF [.unit b3 m3 (apU S.u x).2.2 us9, Asn.pool Zx us9] wq from (h6.below hb).pick [1, 2] (by decide) rfl)) hl9 hlb)
              have HBX := Lib.hid' (fun (wq : World) (hb : Below wd.heap.size wd wq) => show K1 W qc N bud (k + 1) wq from ⟨S9, D9, usd, usd, bmd, KA9.out.mono (by omega) (by omega), fun _ h => h, GA, GB, ZC, (Hd.pick [0, 1, 2, 3] (by decide) rfl).below hb⟩)
              have HOK9 := Lib.hid' hok9
              clear Hd h3 h4 h5 h6 hla hlb hl9 hok9 hcl9 HAd HAc
              go_wp2_with fail
              refine (HSA.out _ (Below.refl _ _)).mono ?_
              rintro e we ⟨rfl, hbe⟩
              have HBe := Lib.hid' hbe
              clear hbe
              cases hsa : sameB S9.u S.u with
              | true =>
                go_wp2_with fail
                go_roundw
                case rel => exact ⟨k + 1, qc, bud, by go_num, rfl, rfl, by omega, Lib.hid' (HBX.out _ HBe.out)⟩
                case measure => simp [intOf]; omega
              | false =>
                have hsb : sameB S9.u (apU S.u x).2.2 = true := by
                  rcases UE9.out with hu | hu
                  · rw [same_ueq hu HOK9.out] at hsa; cases hsa
                  · exact same_ueq hu HOK9.out
                go_wp2_with fail
                refine (HSB.out _ HBe.out).mono ?_
                rintro e wf ⟨rfl, hbf⟩
                rw [hsb]
                have HBf := Lib.hid' (HBe.out.trans (hbf.mono HBe.out.size))
                clear hbf
                go_wp2_with fail
                go_roundw
                case rel => exact ⟨k + 1, qc, bud, by go_num, rfl, rfl, by omega, Lib.hid' (HBX.out _ HBf.out)⟩
                case measure => simp [intOf]; omega
      · as_aux_lemma =>
          have HS6 := HS5
          have HKF := HKA
          generalize D = DF at *
          refine (kcopy_any _ HS6.out HVS.out).mono ?_
          rintro e w7 ⟨b3, m3, us7, rfl, hs7, h7⟩
          have H7 := Lib.hid' (show ShAt q N S DF us7 [.unit b3 m3 S.u us7, .unit bu bm S.u us7, .box nb [.int .i64 x.k, .int .i64 x.e, .int .i64 x.a, .slice da x.d.length dc] 34] NoF W w7 from h7)
          obtain ⟨_, _, _, hq⟩ := h7
          have x0 := hq.cell 5 rfl 0 rfl; have x1 := hq.cell 5 rfl 1 rfl; have x2 := hq.cell 5 rfl 2 rfl; have x3 := hq.cell 5 rfl 3 rfl
          have lb := hq.lt 5 rfl
          have hd7 := SlV.below HDW.out (Nat.le_refl _) hq.toBelow
          obtain ⟨ho, hpe, _, _, hok, hcu, _⟩ := HKF.out.facts
          have hcu : S.u.cells.length ≤ k + 1 := by omega
          have hc3 : (apU S.u x).2.2.cells.length ≤ k + 1 := by have := apU_len S.u x; have := HKF.out.facts.2.2.2.2.2.1; omega
          clear hq
          go_wp2_with fail
          refine (kapply_any x da dc _ H7.out (fun _ h => h) (by omega) hd7).mono ?_
          clear x0 x1 x2 x3 lb hd7
          rintro e w8 ⟨rfl, us8, hs8, h8⟩
          have H8 := Lib.hid' (show ShAt q N S DF us8 [.unit b3 m3 (apU S.u x).2.2 us8, .unit bu bm S.u us7, .box nb [.int .i64 x.k, .int .i64 x.e, .int .i64 x.a, .slice da x.d.length dc] 34] NoF W w8 from h8)
          obtain ⟨_, _, _, hq⟩ := h8
          have x0 := hq.cell 5 rfl 0 rfl; have x1 := hq.cell 5 rfl 1 rfl; have x2 := hq.cell 5 rfl 2 rfl; have x3 := hq.cell 5 rfl 3 rfl
          have lb := hq.lt 5 rfl
          have hd8 := SlV.below HDW.out (Nat.le_refl _) hq.toBelow
          clear hq H7
          go_wp2_with fail
          refine (kdo_any (m := 2 * k) x da dc _ HP.out H8.out ho (by omega) (by rw [hpe]; exact Nat.zero_le _) hd8).mono ?_
          clear x0 x1 x2 x3 lb hd8 ho hpe H8
          rintro e w9 ⟨rfl, us9, hs89, h9⟩
          have hs79 : ∀ x ∈ us7, x ∈ us9 := fun x hx => hs89 x (hs8 x hx)
          clear hs7 hs8
          rcases HKF.out.act (by omega) (by omega) x with ⟨SX, DX, c1, c2, c3⟩ | ⟨hx0, DX, c1, c3⟩
          · rw [c1] at h9
            simp only [c1]
            have HSX := Lib.hid' h9
            have HKX := Lib.hid' c3
            clear h9 c3 c1
            by_cases hx0 : (apU S.u x).1 = 0
            · have HEX := Lib.hid' (show (apU S.u x).2.2 = SX.u from c2.symm)
              rw [hx0]
              simp only [errV_0]
              clear c2 hx0
              generalize (apU S.u x).2.1 = kn at *
              clear cb
              have cb := HCB.out _ HSX.out.toBelow
              go_wp2_with fail
              · obtain ⟨ho2, hpe2, _, _, _, hcl2, _⟩ := HKX.out.facts
                refine (kcomp_any (m := 2 * k + 1) _ HP.out HSX.out ho2 (by omega) (by rw [hpe2]; exact Nat.zero_le _) (by omega)).mono ?_
                clear ho2 hpe2 hcl2
                rintro e wy ⟨rfl, hy⟩
                rcases HKX.out.comp (by omega) (by omega) SX.u with ⟨DY, c1, c2⟩ | ⟨DY, c1, c2⟩
                · rw [c1] at hy
                  simp only [c1]
                  have HSX := Lib.hid' hy
                  have HKX := Lib.hid' c2
                  clear hy c2 c1
                  generalize DY = DX at *
                  go_wp2_with fail
                  refine (kdown_any _ HSX.out).mono ?_
                  rintro e wz ⟨rfl, rfl⟩
                  rw [HKX.out.facts.2.2.1]
                  obtain ⟨G1, G2, Zx, hx⟩ := HSX.out
                  have HKR := Lib.hid' (show K1 W q N b3 (k + 1) _ from ⟨SX, DX, us9, us8, m3, HKX.out.mono (by omega) (by omega), hs89, G1, G2, Zx, by
                    rw [← HEX.out]
                    exact (show Sep W NoF [Asn.disk N DX G1, Asn.shelf q N SX us9 G2, Asn.pool Zx us9, .unit b3 m3 (apU S.u x).2.2 us8] _ from hx.pick [0, 1, 2, 3] (by decide) rfl)⟩)
                  clear hx
                  go_wp2_with fail
                  go_roundw
                  case rel => exact ⟨k + 1, q, b3, by go_num, rfl, rfl, by omega, HKR⟩
                  case measure => simp [intOf]; omega
                · rw [c1] at hy
                  simp only [c1]
                  have HSX := Lib.hid' hy
                  have c2 : Fell (2 * k + 1 + 1) (k + 1) (apU S.u x).2.2 (apU S.u x).2.2 DY := by rw [← HEX.out] at c2; exact c2
                  have FELL := Lib.hid' (show Fell (2 * k + 2) (k + 1) (apU S.u x).2.2 (apU S.u x).2.2 DY from c2)
                  clear hy c2 c1
                  generalize DY = DX at *
                  generalize ({ SX with br := true } : Sf) = SX at *
                  go_wp2_with fail
                  refine (kdown_any _ HSX.out).mono ?_
                  rintro e wz ⟨rfl, rfl⟩
                  rw [FELL.out.facts.2.2]
                  go_wp2_with fail
                  have CLA := Lib.hid' (show (apU S.u x).2.2.cells.length ≤ k + 1 from hc3)
                  have CLB := Lib.hid' (show (apU S.u x).2.2.cells.length ≤ k + 1 from hc3)
                  obtain ⟨hof, hpf, _⟩ := FELL.out.facts
                  obtain ⟨G1, G2, Zx, hx⟩ := HSX.out
                  refine (cut_any6 (m := 2 * k + 2) ks g h _ (hx.at 0 rfl) hof (by omega) (SlV.below HK.out (Nat.le_refl _) hx.toBelow) (fun p n c hv hg => by
                    have h1 := HKi.out p n c hv
                    rcases hx.new _ List.mem_cons_self _ hg with h2 | h2
                    · omega
                    · exact h2.elim)).mono ?_
                  rintro e wa ⟨rfl, Ga, ka⟩
                  have Ha := Lib.hid' (hx.call1 rfl ka)
                  clear ka hx
                  go_wp2_with fail
                  refine (start_any (m := 2 * k + 2) wa (Ha.out.at 0 rfl) (hof.cut ks) (Nat.zero_le _)).mono ?_
                  rintro e wb ⟨rfl, Gb, kb⟩
                  have Hb := Lib.hid' (Ha.out.call1 rfl kb)
                  clear kb hof hpf Ha
                  obtain ⟨hob, hpb, S9, D9, op9, ka9, ue9⟩ := FELL.out.open (by omega) CLA.out CLB.out ks
                  have OP9 := Lib.hid' op9
                  have KA9 := Lib.hid' ka9
                  have UE9 := Lib.hid' ue9
                  clear op9 ka9 ue9
                  generalize upD (cutD DX ks) = Db at *
                  go_wp2_with fail
                  refine (shopen_any (m := 2 * k + 2) wb (Hb.out.at 0 rfl) (HP.out.below Hb.out.toBelow) hob (by omega) (by rw [hpb]; exact Nat.zero_le _) (pow_kept HP.out Hb.out rfl)).mono ?_
                  rintro e wc hE
                  have hEc : ∃ q us, e = .returned (.tuple #[ptrV q, .nilIface]) ∧ ShAt q N S9 D9 us [] Gb wb wc := by
                    rcases hE with ⟨h0, _⟩ | ⟨_, q, us, he, hs⟩
                    · rw [OP9.out] at h0; exact absurd rfl h0
                    · rw [OP9.out] at hs; exact ⟨q, us, he, hs⟩
                  clear hE
                  obtain ⟨qc, usc, rfl, hs⟩ := hEc
                  obtain ⟨Gc, Gc', Zc, hc⟩ := hs
                  have HAc := Lib.hid' (show ShAt qc N S9 D9 usc [.unit b3 m3 (apU S.u x).2.2 us8, .unit bu bm S.u us7, Asn.pool Zx us9] NoF W wc from ⟨Gc, Gc', Zc, (show Sep W NoF [Asn.disk N D9 Gc, Asn.shelf qc N S9 usc Gc', Asn.pool Zc usc, Asn.shelf q N SX us9 G2, Asn.pool Zx us9, .unit b3 m3 (apU S.u x).2.2 us8, .unit bu bm S.u us7, .box nb [.int .i64 x.k, .int .i64 x.e, .int .i64 x.a, .slice da x.d.length dc] 34] wc from Hb.out.call1 rfl hc).pick [0, 1, 2, 5, 6, 4] (by decide) rfl⟩)
                  clear hc hob hpb Hb
                  go_wp2_with fail
                  refine (kunit_any _ HAc.out).mono ?_
                  rintro e wd ⟨bud, bmd, usd, rfl, hsd, hd⟩
                  have HAd := Lib.hid' hd
                  obtain ⟨GA, GB, ZC, Hd⟩ := hd
                  obtain ⟨_, _, _, _, hok9, hcl9, _⟩ := KA9.out.facts
                  have hla : (apU S.u x).2.2.cells.length ≤ 4194304 := Nat.le_trans CLA.out (by omega)
                  have hlb : (apU S.u x).2.2.cells.length ≤ 4194304 := Nat.le_trans CLB.out (by omega)
                  have hl9 : S9.u.cells.length ≤ 4194304 := by omega
                  have h3 := (show Sep W NoF [.unit b3 m3 (apU S.u x).2.2 us8, .unit bu bm S.u us7, Asn.pool Zx us9, .unit bud bmd S9.u usd, Asn.pool ZC usd] wd from Hd.pick [4, 5, 6, 3, 2] (by decide) rfl)
                  have h4 := h3.turn (B := .unit b3 m3 (apU S.u x).2.2 us9) (Asn.unit_more (h3.at 0 rfl) hs89) (fun _ h => h)
                  have h5 : Sep W NoF [.unit bu bm S.u us7, .unit b3 m3 (apU S.u x).2.2 us9, Asn.pool Zx us9, .unit bud bmd S9.u usd, Asn.pool ZC usd] wd := h4.swap1
                  have h6 := h5.turn (B := .unit bu bm S.u us9) (Asn.unit_more (h5.at 0 rfl) hs79) (fun _ h => h)
                  have HSA := Lib.hid' (fun (wq : World) (hb : Below wd.heap.size wd wq) => usame_any wq (Sep.unitAt (show Sep W NoF [.unit bud bmd S9.u usd, Asn.pool ZC usd] wq from (h6.below hb).pick [3, 4] (by decide) rfl)) (Sep.unitAt (show Sep W NoF [.unit b3 m3 (apU S.u x).2.2 us9, Asn.pool Zx us9] wq from (h6.below hb).pick [1, 2] (by decide) rfl)) hl9 hla)
                  have HSB := Lib.hid' (fun (wq : World) (hb : Below wd.heap.size wd wq) => usame_any wq (Sep.unitAt (show Sep W NoF [.unit bud bmd S9.u usd, Asn.pool ZC usd] wq from (h6.below hb).pick [3, 4] (by decide) rfl)) (Sep.unitAt (show Sep W NoF [.unit b3 m3 (apU S.u x).2.2 us9, Asn.pool Zx us9] wq from (h6.below hb).pick [1, 2] (by decide) rfl)) hl9 hlb)
                  have HBX := Lib.hid' (fun (wq : World) (hb : Below wd.heap.size wd wq) => show K1 W qc N bud (k + 1) wq from ⟨S9, D9, usd, usd, bmd, KA9.out.mono (by omega) (by omega), fun _ h => h, GA, GB, ZC, (Hd.pick [0, 1, 2, 3] (by decide) rfl).below hb⟩)
                  have HOK9 := Lib.hid' hok9
                  clear Hd h3 h4 h5 h6 hla hlb hl9 hok9 hcl9 HAd HAc
                  go_wp2_with fail
                  refine (HSA.out _ (Below.refl _ _)).mono ?_
                  rintro e we ⟨rfl, hbe⟩
                  have HBe := Lib.hid' hbe
                  clear hbe
                  cases hsa : sameB S9.u (apU S.u x).2.2 with
                  | true =>
                    go_wp2_with fail
                    go_roundw
                    case rel => exact ⟨k + 1, qc, bud, by go_num, rfl, rfl, by omega, Lib.hid' (HBX.out _ HBe.out)⟩
                    case measure => simp [intOf]; omega
                  | false =>
                    have hsb : sameB S9.u (apU S.u x).2.2 = true := by
                      rcases UE9.out with hu | hu
                      · rw [same_ueq hu HOK9.out] at hsa; cases hsa
                      · exact same_ueq hu HOK9.out
                    go_wp2_with fail
                    refine (HSB.out _ HBe.out).mono ?_
                    rintro e wf ⟨rfl, hbf⟩
                    rw [hsb]
                    have HBf := Lib.hid' (HBe.out.trans (hbf.mono HBe.out.size))
                    clear hbf
                    go_wp2_with fail
                    go_roundw
                    case rel => exact ⟨k + 1, qc, bud, by go_num, rfl, rfl, by omega, Lib.hid' (HBX.out _ HBf.out)⟩
                    case measure => simp [intOf]; omega
              · refine (kdown_any _ HSX.out).mono ?_
                rintro e wz ⟨rfl, rfl⟩
                rw [HKX.out.facts.2.2.1]
                obtain ⟨G1, G2, Zx, hx⟩ := HSX.out
                have HKR := Lib.hid' (show K1 W q N b3 (k + 1) _ from ⟨SX, DX, us9, us8, m3, HKX.out.mono (by omega) (by omega), hs89, G1, G2, Zx, by
                  rw [← HEX.out]
                  exact (show Sep W NoF [Asn.disk N DX G1, Asn.shelf q N SX us9 G2, Asn.pool Zx us9, .unit b3 m3 (apU S.u x).2.2 us8] _ from hx.pick [0, 1, 2, 3] (by decide) rfl)⟩)
                clear hx
                go_wp2_with fail
                go_roundw
                case rel => exact ⟨k + 1, q, b3, by go_num, rfl, rfl, by omega, HKR⟩
                case measure => simp [intOf]; omega
            · have HEX := Lib.hid' (show S.u = SX.u from by rw [c2, (ap_zero hx0).2])
              have h14 : ((((apU S.u x).1 : Nat) : Int) == 14) = false := by rw [beq_eq_false_iff_ne]; have := ap_err (u := S.u) (x := x); omega
              rw [errV_pos hx0]
              generalize (apU S.u x).2.1 = kn at *
              have hnum := fun wq => num_any (apU S.u x).1 wq
              have his := fun wq => is_any (apU S.u x).1 14 wq
              rw [errV_pos hx0] at hnum his
              rw [h14] at his
              have HNUM := Lib.hid' hnum
              have HIS := Lib.hid' his
              clear c2 hx0 h14 hnum his
              generalize (apU S.u x).1 = en at *
              go_upto_region 29 with (first | (go_at_call 21; refine (HIS.out _).mono ?_; rintro e wz ⟨rfl, rfl⟩) | (go_at_call 18; refine (HNUM.out _).mono ?_; rintro e wz ⟨rfl, rfl⟩))
              clear cb
              have cb := HCB.out _ HSX.out.toBelow
              go_wp2_with fail
              · obtain ⟨ho2, hpe2, _, _, _, hcl2, _⟩ := HKX.out.facts
                refine (kcomp_any (m := 2 * k + 1) _ HP.out HSX.out ho2 (by omega) (by rw [hpe2]; exact Nat.zero_le _) (by omega)).mono ?_
                clear ho2 hpe2 hcl2
                rintro e wy ⟨rfl, hy⟩
                rcases HKX.out.comp (by omega) (by omega) SX.u with ⟨DY, c1, c2⟩ | ⟨DY, c1, c2⟩
                · rw [c1] at hy
                  simp only [c1]
                  have HSX := Lib.hid' hy
                  have HKX := Lib.hid' c2
                  clear hy c2 c1
                  generalize DY = DX at *
                  go_wp2_with fail
                  refine (kdown_any _ HSX.out).mono ?_
                  rintro e wz ⟨rfl, rfl⟩
                  rw [HKX.out.facts.2.2.1]
                  obtain ⟨G1, G2, Zx, hx⟩ := HSX.out
                  have HKR := Lib.hid' (show K1 W q N bu (k + 1) _ from ⟨SX, DX, us9, us7, bm, HKX.out.mono (by omega) (by omega), hs79, G1, G2, Zx, by
                    rw [← HEX.out]
                    exact (show Sep W NoF [Asn.disk N DX G1, Asn.shelf q N SX us9 G2, Asn.pool Zx us9, .unit bu bm S.u us7] _ from hx.pick [0, 1, 2, 4] (by decide) rfl)⟩)
                  clear hx
                  go_wp2_with fail
                  go_roundw
                  case rel => exact ⟨k + 1, q, bu, by go_num, rfl, rfl, by omega, HKR⟩
                  case measure => simp [intOf]; omega
                · rw [c1] at hy
                  simp only [c1]
                  have HSX := Lib.hid' hy
                  have c2 : Fell (2 * k + 1 + 1) (k + 1) S.u S.u DY := by rw [← HEX.out] at c2; exact c2
                  have FELL := Lib.hid' (show Fell (2 * k + 2) (k + 1) S.u S.u DY from c2)
                  clear hy c2 c1
                  generalize DY = DX at *
                  generalize ({ SX with br := true } : Sf) = SX at *
                  go_wp2_with fail
                  refine (kdown_any _ HSX.out).mono ?_
                  rintro e wz ⟨rfl, rfl⟩
                  rw [FELL.out.facts.2.2]
                  go_wp2_with fail
                  have CLA := Lib.hid' (show S.u.cells.length ≤ k + 1 from hcu)
                  have CLB := Lib.hid' (show S.u.cells.length ≤ k + 1 from hcu)
                  obtain ⟨hof, hpf, _⟩ := FELL.out.facts
                  obtain ⟨G1, G2, Zx, hx⟩ := HSX.out
                  refine (cut_any6 (m := 2 * k + 2) ks g h _ (hx.at 0 rfl) hof (by omega) (SlV.below HK.out (Nat.le_refl _) hx.toBelow) (fun p n c hv hg => by
                    have h1 := HKi.out p n c hv
                    rcases hx.new _ List.mem_cons_self _ hg with h2 | h2
                    · omega
                    · exact h2.elim)).mono ?_
                  rintro e wa ⟨rfl, Ga, ka⟩
                  have Ha := Lib.hid' (hx.call1 rfl ka)
                  clear ka hx
                  go_wp2_with fail
                  refine (start_any (m := 2 * k + 2) wa (Ha.out.at 0 rfl) (hof.cut ks) (Nat.zero_le _)).mono ?_
                  rintro e wb ⟨rfl, Gb, kb⟩
                  have Hb := Lib.hid' (Ha.out.call1 rfl kb)
                  clear kb hof hpf Ha
                  obtain ⟨hob, hpb, S9, D9, op9, ka9, ue9⟩ := FELL.out.open (by omega) CLA.out CLB.out ks
                  have OP9 := Lib.hid' op9
                  have KA9 := Lib.hid' ka9
                  have UE9 := Lib.hid' ue9
                  clear op9 ka9 ue9
                  generalize upD (cutD DX ks) = Db at *
                  go_wp2_with fail
                  refine (shopen_any (m := 2 * k + 2) wb (Hb.out.at 0 rfl) (HP.out.below Hb.out.toBelow) hob (by omega) (by rw [hpb]; exact Nat.zero_le _) (pow_kept HP.out Hb.out rfl)).mono ?_
                  rintro e wc hE
                  have hEc : ∃ q us, e = .returned (.tuple #[ptrV q, .nilIface]) ∧ ShAt q N S9 D9 us [] Gb wb wc := by
                    rcases hE with ⟨h0, _⟩ | ⟨_, q, us, he, hs⟩
                    · rw [OP9.out] at h0; exact absurd rfl h0
                    · rw [OP9.out] at hs; exact ⟨q, us, he, hs⟩
                  clear hE
                  obtain ⟨qc, usc, rfl, hs⟩ := hEc
                  obtain ⟨Gc, Gc', Zc, hc⟩ := hs
                  have HAc := Lib.hid' (show ShAt qc N S9 D9 usc [.unit b3 m3 (apU S.u x).2.2 us8, .unit bu bm S.u us7, Asn.pool Zx us9] NoF W wc from ⟨Gc, Gc', Zc, (show Sep W NoF [Asn.disk N D9 Gc, Asn.shelf qc N S9 usc Gc', Asn.pool Zc usc, Asn.shelf q N SX us9 G2, Asn.pool Zx us9, .unit b3 m3 (apU S.u x).2.2 us8, .unit bu bm S.u us7, .box nb [.int .i64 x.k, .int .i64 x.e, .int .i64 x.a, .slice da x.d.length dc] 34] wc from Hb.out.call1 rfl hc).pick [0, 1, 2, 5, 6, 4] (by decide) rfl⟩)
                  clear hc hob hpb Hb
                  go_wp2_with fail
                  refine (kunit_any _ HAc.out).mono ?_
                  rintro e wd ⟨bud, bmd, usd, rfl, hsd, hd⟩
                  have HAd := Lib.hid' hd
                  obtain ⟨GA, GB, ZC, Hd⟩ := hd
                  obtain ⟨_, _, _, _, hok9, hcl9, _⟩ := KA9.out.facts
                  have hla : S.u.cells.length ≤ 4194304 := Nat.le_trans CLA.out (by omega)
                  have hlb : S.u.cells.length ≤ 4194304 := Nat.le_trans CLB.out (by omega)
                  have hl9 : S9.u.cells.length ≤ 4194304 := by omega
                  have h3 := (show Sep W NoF [.unit b3 m3 (apU S.u x).2.2 us8, .unit bu bm S.u us7, Asn.pool Zx us9, .unit bud bmd S9.u usd, Asn.pool ZC usd] wd from Hd.pick [4, 5, 6, 3, 2] (by decide) rfl)
                  have h4 := h3.turn (B := .unit b3 m3 (apU S.u x).2.2 us9) (Asn.unit_more (h3.at 0 rfl) hs89) (fun _ h => h)
                  have h5 : Sep W NoF [.unit bu bm S.u us7, .unit b3 m3 (apU S.u x).2.2 us9, Asn.pool Zx us9, .unit bud bmd S9.u usd, Asn.pool ZC usd] wd := h4.swap1
                  have h6 := h5.turn (B := .unit bu bm S.u us9) (Asn.unit_more (h5.at 0 rfl) hs79) (fun _ h => h)
                  have HSA := Lib.hid' (fun (wq : World) (hb : Below wd.heap.size wd wq) => usame_any wq (Sep.unitAt (show Sep W NoF [.unit bud bmd S9.u usd, Asn.pool ZC usd] wq from (h6.below hb).pick [3, 4] (by decide) rfl)) (Sep.unitAt (show Sep W NoF [.unit bu bm S.u us9, Asn.pool Zx us9] wq from (h6.below hb).pick [0, 2] (by decide) rfl)) hl9 hla)
                  have HSB := Lib.hid' (fun (wq : World) (hb : Below wd.heap.size wd wq) => usame_any wq (Sep.unitAt (show Sep W NoF [.unit bud bmd S9.u usd, Asn.pool ZC usd] wq from (h6.below hb).pick [3, 4] (by decide) rfl)) (Sep.unitAt (show Sep W NoF [.unit bu bm S.u us9, Asn.pool Zx us9] wq from (h6.below hb).pick [0, 2] (by decide) rfl)) hl9 hlb)
                  have HBX := Lib.hid' (fun (wq : World) (hb : Below wd.heap.size wd wq) => show K1 W qc N bud (k + 1) wq from ⟨S9, D9, usd, usd, bmd, KA9.out.mono (by omega) (by omega), fun _ h => h, GA, GB, ZC, (Hd.pick [0, 1, 2, 3] (by decide) rfl).below hb⟩)
                  have HOK9 := Lib.hid' hok9
                  clear Hd h3 h4 h5 h6 hla hlb hl9 hok9 hcl9 HAd HAc
                  go_wp2_with fail
                  refine (HSA.out _ (Below.refl _ _)).mono ?_
                  rintro e we ⟨rfl, hbe⟩
                  have HBe := Lib.hid' hbe
                  clear hbe
                  cases hsa : sameB S9.u S.u with
                  | true =>
                    go_wp2_with fail
                    go_roundw
                    case rel => exact ⟨k + 1, qc, bud, by go_num, rfl, rfl, by omega, Lib.hid' (HBX.out _ HBe.out)⟩
                    case measure => simp [intOf]; omega
                  | false =>
                    have hsb : sameB S9.u S.u = true := by
                      rcases UE9.out with hu | hu
                      · rw [same_ueq hu HOK9.out] at hsa; cases hsa
                      · exact same_ueq hu HOK9.out
                    go_wp2_with fail
                    refine (HSB.out _ HBe.out).mono ?_
                    rintro e wf ⟨rfl, hbf⟩
                    rw [hsb]
                    have HBf := Lib.hid' (HBe.out.trans (hbf.mono HBe.out.size))
                    clear hbf
                    go_wp2_with fail
                    go_roundw
                    case rel => exact ⟨k + 1, qc, bud, by go_num, rfl, rfl, by omega, Lib.hid' (HBX.out _ HBf.out)⟩
                    case measure => simp [intOf]; omega
              · refine (kdown_any _ HSX.out).mono ?_
                rintro e wz ⟨rfl, rfl⟩
                rw [HKX.out.facts.2.2.1]
                obtain ⟨G1, G2, Zx, hx⟩ := HSX.out
                have HKR := Lib.hid' (show K1 W q N bu (k + 1) _ from ⟨SX, DX, us9, us7, bm, HKX.out.mono (by omega) (by omega), hs79, G1, G2, Zx, by
                  rw [← HEX.out]
                  exact (show Sep W NoF [Asn.disk N DX G1, Asn.shelf q N SX us9 G2, Asn.pool Zx us9, .unit bu bm S.u us7] _ from hx.pick [0, 1, 2, 4] (by decide) rfl)⟩)
                clear hx
                go_wp2_with fail
                go_roundw
                case rel => exact ⟨k + 1, q, bu, by go_num, rfl, rfl, by omega, HKR⟩
                case measure => simp [intOf]; omega
          · rw [c1] at h9
            simp only [c1]
            have HSX := Lib.hid' h9
            have FELL := Lib.hid' (show Fell (2 * k + 2) (k + 1) S.u (apU S.u x).2.2 DX from ⟨c3.1.mono (by omega), c3.2⟩)
            clear h9 c3 c1
            have his := fun wq => is_any 14 14 wq
            rw [errV_pos (show (14 : Nat) ≠ 0 by decide)] at his
            have HIS := Lib.hid' his
            clear his
            rw [errV_pos (show (14 : Nat) ≠ 0 by decide)]
            generalize (apU S.u x).2.1 = kn at *
            generalize (apU S.u x).1 = en at *
            have hbr : ({ S with br := true } : Sf).br = true := rfl
            have hcx : ({ S with br := true } : Sf).u.cells.length ≤ 65536 := by show S.u.cells.length ≤ _; omega
            generalize ({ S with br := true } : Sf) = SX at *
            go_upto_region 29 with (go_at_call 21; refine (HIS.out _).mono ?_; rintro e wz ⟨rfl, rfl⟩)
            clear cb
            have cb := HCB.out _ HSX.out.toBelow
            go_wp2_with fail
            · obtain ⟨ho2, hpf2, _⟩ := FELL.out.facts
              have cb := kcomp_any (m := 2 * k + 2) _ HP.out HSX.out ho2 (by omega) hpf2 hcx
              rw [comp_broken hbr] at cb
              refine cb.mono ?_
              clear cb ho2 hpf2 HSX
              rintro e wy ⟨rfl, hy⟩
              have HSX := Lib.hid' hy
              clear hy
              go_wp2_with fail
              refine (kdown_any _ HSX.out).mono ?_
              rintro e wz ⟨rfl, rfl⟩
              rw [FELL.out.facts.2.2]
              go_wp2_with fail
              have CLA := Lib.hid' (show S.u.cells.length ≤ k + 1 from hcu)
              have CLB := Lib.hid' (show (apU S.u x).2.2.cells.length ≤ k + 1 from hc3)
              obtain ⟨hof, hpf, _⟩ := FELL.out.facts
              obtain ⟨G1, G2, Zx, hx⟩ := HSX.out
              refine (cut_any6 (m := 2 * k + 2) ks g h _ (hx.at 0 rfl) hof (by omega) (SlV.below HK.out (Nat.le_refl _) hx.toBelow) (fun p n c hv hg => by
                have h1 := HKi.out p n c hv
                rcases hx.new _ List.mem_cons_self _ hg with h2 | h2
                · omega
                · exact h2.elim)).mono ?_
              rintro e wa ⟨rfl, Ga, ka⟩
              have Ha := Lib.hid' (hx.call1 rfl ka)
              clear ka hx
              go_wp2_with fail
              refine (start_any (m := 2 * k + 2) wa (Ha.out.at 0 rfl) (hof.cut ks) (Nat.zero_le _)).mono ?_
              rintro e wb ⟨rfl, Gb, kb⟩
              have Hb := Lib.hid' (Ha.out.call1 rfl kb)
              clear kb hof hpf Ha
              obtain ⟨hob, hpb, S9, D9, op9, ka9, ue9⟩ := FELL.out.open (by omega) CLA.out CLB.out ks
              have OP9 := Lib.hid' op9
              have KA9 := Lib.hid' ka9
              have UE9 := Lib.hid' ue9
              clear op9 ka9 ue9
              generalize upD (cutD DX ks) = Db at *
              go_wp2_with fail
              refine (shopen_any (m := 2 * k + 2) wb (Hb.out.at 0 rfl) (HP.out.below Hb.out.toBelow) hob (by omega) (by rw [hpb]; exact Nat.zero_le _) (pow_kept HP.out Hb.out rfl)).mono ?_
              rintro e wc hE
              have hEc : ∃ q us, e = .returned (.tuple #[ptrV q, .nilIface]) ∧ ShAt q N S9 D9 us [] Gb wb wc := by
                rcases hE with ⟨h0, _⟩ | ⟨_, q, us, he, hs⟩
                · rw [OP9.out] at h0; exact absurd rfl h0
                · rw [OP9.out] at hs; exact ⟨q, us, he, hs⟩
              clear hE
              obtain ⟨qc, usc, rfl, hs⟩ := hEc
              obtain ⟨Gc, Gc', Zc, hc⟩ := hs
              have HAc := Lib.hid' (show ShAt qc N S9 D9 usc [.unit b3 m3 (apU S.u x).2.2 us8, .unit bu bm S.u us7, Asn.pool Zx us9] NoF W wc from ⟨Gc, Gc', Zc, (show Sep W NoF [Asn.disk N D9 Gc, Asn.shelf qc N S9 usc Gc', Asn.pool Zc usc, Asn.shelf q N SX us9 G2, Asn.pool Zx us9, .unit b3 m3 (apU S.u x).2.2 us8, .unit bu bm S.u us7, .box nb [.int .i64 x.k, .int .i64 x.e, .int .i64 x.a, .slice da x.d.length dc] 34] wc from Hb.out.call1 rfl hc).pick [0, 1, 2, 5, 6, 4] (by decide) rfl⟩)
              clear hc hob hpb Hb
              go_wp2_with fail
              refine (kunit_any _ HAc.out).mono ?_
              rintro e wd ⟨bud, bmd, usd, rfl, hsd, hd⟩
              have HAd := Lib.hid' hd
              obtain ⟨GA, GB, ZC, Hd⟩ := hd
              obtain ⟨_, _, _, _, hok9, hcl9, _⟩ := KA9.out.facts
              have hla : S.u.cells.length ≤ 4194304 := Nat.le_trans CLA.out (by omega)
              have hlb : (apU S.u x).2.2.cells.length ≤ 4194304 := Nat.le_trans CLB.out (by omega)
              have hl9 : S9.u.cells.length ≤ 4194304 := by omega
              have h3 := (show Sep W NoF [.unit b3 m3 (apU S.u x).2.2 us8, .unit bu bm S.u us7, Asn.pool Zx us9, .unit bud bmd S9.u usd, Asn.pool ZC usd] wd from Hd.pick [4, 5, 6, 3, 2] (by decide) rfl)
              have h4 := h3.turn (B := .unit b3 m3 (apU S.u x).2.2 us9) (Asn.unit_more (h3.at 0 rfl) hs89) (fun _ h => h)
              have h5 : Sep W NoF [.unit bu bm S.u us7, .unit b3 m3 (apU S.u x).2.2 us9, Asn.pool Zx us9, .unit bud bmd S9.u usd, Asn.pool ZC usd] wd := h4.swap1
              have h6 := h5.turn (B := .unit bu bm S.u us9) (Asn.unit_more (h5.at 0 rfl) hs79) (fun _ h => h)
              have HSA := Lib.hid' (fun (wq : World) (hb : Below wd.heap.size wd wq) => usame_any wq (Sep.unitAt (show Sep W NoF [.unit bud bmd S9.u usd, Asn.pool ZC usd] wq from (h6.below hb).pick [3, 4] (by decide) rfl)) (Sep.unitAt (show Sep W NoF [.unit bu bm S.u us9, Asn.pool Zx us9] wq from (h6.below hb).pick [0, 2] (by decide) rfl)) hl9 hla)
              have HSB := Lib.hid' (fun (wq : World) (hb : Below wd.heap.size wd wq) => usame_any wq (Sep.unitAt (show Sep W NoF [.unit bud bmd S9.u usd, Asn.pool ZC usd] wq from (h6.below hb).pick [3, 4] (by decide) rfl)) (Sep.unitAt (show Sep W NoF [.unit b3 m3 (apU S.u x).2.2 us9, Asn.pool Zx us9] wq from (h6.below hb).pick [1, 2] (by decide) rfl)) hl9 hlb)
              have HBX := Lib.hid' (fun (wq : World) (hb : Below wd.heap.size wd wq) => show K1 W qc N bud (k + 1) wq from ⟨S9, D9, usd, usd, bmd, KA9.out.mono (by omega) (by omega), fun _ h => h, GA, GB, ZC, (Hd.pick [0, 1, 2, 3] (by decide) rfl).below hb⟩)
              have HOK9 := Lib.hid' hok9
              clear Hd h3 h4 h5 h6 hla hlb hl9 hok9 hcl9 HAd HAc
              go_wp2_with fail
              refine (HSA.out _ (Below.refl _ _)).mono ?_
              rintro e we ⟨rfl, hbe⟩
              have HBe := Lib.hid' hbe
              clear hbe
              cases hsa : sameB S9.u S.u with
              | true =>
                go_wp2_with fail
                go_roundw
                case rel => exact ⟨k + 1, qc, bud, by go_num, rfl, rfl, by omega, Lib.hid' (HBX.out _ HBe.out)⟩
                case measure => simp [intOf]; omega
              | false =>
                have hsb : sameB S9.u (apU S.u x).2.2 = true := by
                  rcases UE9.out with hu | hu
                  · rw [same_ueq hu HOK9.out] at hsa; cases hsa
                  · exact same_ueq hu HOK9.out
                go_wp2_with fail
                refine (HSB.out _ HBe.out).mono ?_
                rintro e wf ⟨rfl, hbf⟩
                rw [hsb]
                have HBf := Lib.hid' (HBe.out.trans (hbf.mono HBe.out.size))
                clear hbf
                go_wp2_with fail
                go_roundw
                case rel => exact ⟨k + 1, qc, bud, by go_num, rfl, rfl, by omega, Lib.hid' (HBX.out _ HBf.out)⟩
                case measure => simp [intOf]; omega
            · refine (kdown_any _ HSX.out).mono ?_
              rintro e wz ⟨rfl, rfl⟩
              rw [FELL.out.facts.2.2]
              go_wp2_with fail
              have CLA := Lib.hid' (show S.u.cells.length ≤ k + 1 from hcu)
              have CLB := Lib.hid' (show (apU S.u x).2.2.cells.length ≤ k + 1 from hc3)
              obtain ⟨hof, hpf, _⟩ := FELL.out.facts
              obtain ⟨G1, G2, Zx, hx⟩ := HSX.out
              refine (cut_any6 (m := 2 * k + 2) ks g h _ (hx.at 0 rfl) hof (by omega) (SlV.below HK.out (Nat.le_refl _) hx.toBelow) (fun p n c hv hg => by
                have h1 := HKi.out p n c hv
                rcases hx.new _ List.mem_cons_self _ hg with h2 | h2
                · omega
                · exact h2.elim)).mono ?_
              rintro e wa ⟨rfl, Ga, ka⟩
              have Ha := Lib.hid' (hx.call1 rfl ka)
              clear ka hx
              go_wp2_with fail
              refine (start_any (m := 2 * k + 2) wa (Ha.out.at 0 rfl) (hof.cut ks) (Nat.zero_le _)).mono ?_
              rintro e wb ⟨rfl, Gb, kb⟩
              have Hb := Lib.hid' (Ha.out.call1 rfl kb)
              clear kb hof hpf Ha
              obtain ⟨hob, hpb, S9, D9, op9, ka9, ue9⟩ := FELL.out.open (by omega) CLA.out CLB.out ks
              have OP9 := Lib.hid' op9
              have KA9 := Lib.hid' ka9
              have UE9 := Lib.hid' ue9
              clear op9 ka9 ue9
              generalize upD (cutD DX ks) = Db at *
              go_wp2_with fail
              refine (shopen_any (m := 2 * k + 2) wb (Hb.out.at 0 rfl) (HP.out.below Hb.out.toBelow) hob (by omega) (by rw [hpb]; exact Nat.zero_le _) (pow_kept HP.out Hb.out rfl)).mono ?_
              rintro e wc hE
              have hEc : ∃ q us, e = .returned (.tuple #[ptrV q, .nilIface]) ∧ ShAt q N S9 D9 us [] Gb wb wc := by
                rcases hE with ⟨h0, _⟩ | ⟨_, q, us, he, hs⟩
                · rw [OP9.out] at h0; exact absurd rfl h0
                · rw [OP9.out] at hs; exact ⟨q, us, he, hs⟩
              clear hE
              obtain ⟨qc, usc, rfl, hs⟩ := hEc
              obtain ⟨Gc, Gc', Zc, hc⟩ := hs
              have HAc := Lib.hid' (show ShAt qc N S9 D9 usc [.unit b3 m3 (apU S.u x).2.2 us8, .unit bu bm S.u us7, Asn.pool Zx us9] NoF W wc from ⟨Gc, Gc', Zc, (show Sep W NoF [Asn.disk N D9 Gc, Asn.shelf qc N S9 usc Gc', Asn.pool Zc usc, Asn.shelf q N SX us9 G2, Asn.pool Zx us9, .unit b3 m3 (apU S.u x).2.2 us8, .unit bu bm S.u us7, .box nb [.int .i64 x.k, .int .i64 x.e, .int .i64 x.a, .slice da x.d.length dc] 34] wc from Hb.out.call1 rfl hc).pick [0, 1, 2, 5, 6, 4] (by decide) rfl⟩)
              clear hc hob hpb Hb
              go_wp2_with fail
              refine (kunit_any _ HAc.out).mono ?_
              rintro e wd ⟨bud, bmd, usd, rfl, hsd, hd⟩
              have HAd := Lib.hid' hd
              obtain ⟨GA, GB, ZC, Hd⟩ := hd
              obtain ⟨_, _, _, _, hok9, hcl9, _⟩ := KA9.out.facts
              have hla : S.u.cells.length ≤ 4194304 := Nat.le_trans CLA.out (by omega)
              have hlb : (apU S.u x).2.2.cells.length ≤ 4194304 := Nat.le_trans CLB.out (by omega)
              have hl9 : S9.u.cells.length ≤ 4194304 := by omega
              have h3 := (show Sep W NoF [.unit b3 m3 (apU S.u x).2.2 us8, .unit bu bm S.u us7, Asn.pool Zx us9, .unit bud bmd S9.u usd, Asn.pool ZC usd] wd from Hd.pick [4, 5, 6, 3, 2] (by decide) rfl)
              have h4 := h3.turn (B := .unit b3 m3 (apU S.u x).2.2 us9) (Asn.unit_more (h3.at 0 rfl) hs89) (fun _ h => h)
              have h5 : Sep W NoF [.unit bu bm S.u us7, .unit b3 m3 (apU S.u x).2.2 us9, Asn.pool Zx us9, .unit bud bmd S9.u usd, Asn.pool ZC usd] wd := h4.swap1
              have h6 := h5.turn (B := .unit bu bm S.u us9) (Asn.unit_more (h5.at 0 rfl) hs79) (fun _ h => h)
              have HSA := Lib.hid' (fun (wq : World) (hb : Below wd.heap.size wd wq) => usame_any wq (Sep.unitAt (show Sep W NoF [.unit bud bmd S9.u usd, Asn.pool ZC usd] wq from (h6.below hb).pick [3, 4] (by decide) rfl)) (Sep.unitAt (show Sep W NoF [.unit bu bm S.u us9, Asn.pool Zx us9] wq from (h6.below hb).pick [0, 2] (by decide) rfl)) hl9 hla)
              have HSB := Lib.hid' (fun (wq : World) (hb : Below wd.heap.size wd wq) => usame_any wq (Sep.unitAt (show Sep W NoF [.unit bud bmd S9.u usd, Asn.pool ZC usd] wq from (h6.below hb).pick [3, 4] (by decide) rfl)) (Sep.unitAt (show Sep W NoF [.unit b3 m3 (apU S.u x).2.2 us9, Asn.pool Zx us9] wq from (h6.below hb).pick [1, 2] (by decide) rfl)) hl9 hlb)
              have HBX := Lib.hid' (fun (wq : World) (hb : Below wd.heap.size wd wq) => show K1 W qc N bud (k + 1) wq from ⟨S9, D9, usd, usd, bmd, KA9.out.mono (by omega) (by omega), fun _ h => h, GA, GB, ZC, (Hd.pick [0, 1, 2, 3] (by decide) rfl).below hb⟩)
              have HOK9 := Lib.hid' hok9
              clear Hd h3 h4 h5 h6 hla hlb hl9 hok9 hcl9 HAd HAc
              go_wp2_with fail
              refine (HSA.out _ (Below.refl _ _)).mono ?_
              rintro e we ⟨rfl, hbe⟩
              have HBe := Lib.hid' hbe
              clear hbe
              cases hsa : sameB S9.u S.u with
              | true =>
                go_wp2_with fail
                go_roundw
                case rel => exact ⟨k + 1, qc, bud, by go_num, rfl, rfl, by omega, Lib.hid' (HBX.out _ HBe.out)⟩
                case measure => simp [intOf]; omega
              | false =>
                have hsb : sameB S9.u (apU S.u x).2.2 = true := by
                  rcases UE9.out with hu | hu
                  · rw [same_ueq hu HOK9.out] at hsa; cases hsa
                  · exact same_ueq hu HOK9.out
                go_wp2_with fail
                refine (HSB.out _ HBe.out).mono ?_
                rintro e wf ⟨rfl, hbf⟩
                rw [hsb]
                have HBf := Lib.hid' (HBe.out.trans (hbf.mono HBe.out.size))
                clear hbf
                go_wp2_with fail
                go_roundw
                case rel => exact ⟨k + 1, qc, bud, by go_num, rfl, rfl, by omega, Lib.hid' (HBX.out _ HBf.out)⟩
                case measure => simp [intOf]; omega
    · obtain rfl : k = X.length := by omega
      obtain ⟨ho, hpe, hdn, hbr, hok, hcl, hnl⟩ := HKA.out.facts
      have HOK := Lib.hid' hok
      have hl1 : S.u.cells.length ≤ 4194304 := by omega
      clear ho hpe hdn hbr hok hcl hnl
      go_wp2_with fail
      refine (kunit_any _ HSH.out).mono ?_
      rintro e wd ⟨bud, bmd, usd, rfl, hsd, hd⟩
      obtain ⟨GA, GB, ZC, Hd⟩ := hd
      have hd2 := (show Sep W NoF [.unit bu bm S.u vs, .unit bud bmd S.u usd, Asn.pool ZC usd, Asn.disk N D GA, Asn.shelf q N S usd GB] wd from Hd.pick [4, 3, 2, 0, 1] (by decide) rfl)
      have hd3 := hd2.turn (B := .unit bu bm S.u usd) (Asn.unit_more (hd2.at 0 rfl) (fun x hx => hsd x (HVS.out x hx))) (fun _ h => h)
      have HBd := Lib.hid' Hd.toBelow
      have hsm := usame_any wd (Sep.unitAt (show Sep W NoF [.unit bud bmd S.u usd, Asn.pool ZC usd] wd from hd3.pick [1, 2] (by decide) rfl)) (Sep.unitAt (show Sep W NoF [.unit bu bm S.u usd, Asn.pool ZC usd] wd from hd3.pick [0, 2] (by decide) rfl)) hl1 hl1
      rw [sameB_self HOK.out] at hsm
      have HSM := Lib.hid' hsm
      clear hsm Hd hd2 hd3 hl1
      go_wp2_with fail
      refine HSM.out.mono ?_
      rintro e we ⟨rfl, hbe⟩
      have HBe := Lib.hid' (HBd.out.trans (hbe.mono HBd.out.size))
      clear hbe
      go_wp2_with fail
      go_ret
      exact ⟨rfl, HBe.out⟩
end SH
end Go.Proofs.YtkhnbdbcaebdaaaGreatDoor
