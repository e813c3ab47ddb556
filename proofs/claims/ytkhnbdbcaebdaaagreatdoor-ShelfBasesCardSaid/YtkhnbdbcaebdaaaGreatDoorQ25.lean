/- Proved here: a part of the proof (25 of 25). -/
import Derived.Test.YtkhnbdbcaebdaaaGreatDoorQ24
import Derived.Lib.SlBytesConst
namespace Go.Proofs.YtkhnbdbcaebdaaaGreatDoor
open Go.RowKit
set_option linter.unusedSimpArgs false
set_option linter.unusedVariables false
set_option maxRecDepth 100000
namespace SH
open DK
theorem bytes_one (w : World) (b : UInt8) (n : Nat) (hn : n = 1) : Bytes (w.alloc (.cells #[byteV b] 5 (1, 2))) (.slice (some ⟨w.heap.size, 0, none⟩) n n) [b] := by
  subst hn
  refine ⟨_, _, rfl, Nat.le_refl _, by unfold maxLen; decide, by simp, fun j u hu => ⟨_, rfl, ?_⟩⟩
  have e1 : (Addr.add ⟨w.heap.size, 0, none⟩ j) = ⟨w.heap.size, j, none⟩ := by unfold Addr.add; split <;> simp_all
  rw [e1]
  have e2 : (w.alloc (.cells #[byteV b] 5 (1, 2))).heap[w.heap.size]? = some (.cells #[byteV b] 5 (1, 2)) := by show (w.heap.push _)[w.heap.size]? = _; simp
  simp only [World.cell?, e2, Option.isSome_none, Bool.false_eq_true, if_false]
  simpa [byteVs] using hu
/-- the table is kept by what is done with parts laid since -/
theorem pow_kept {w0 w : World} {G : Nat → Prop} {L : List Asn} {A : Asn} (hp : Pow w0) (H : Sep w0 NoF (A :: L) w) (hA : A.foot = G) : ∀ wq, (∃ L, Sep w G L wq) → Pow wq := fun wq ⟨K, k⟩ => hp.below (H.call1 hA k).toBelow
set_option maxHeartbeats 4000000 in
theorem alive10_any (w : World) (hp : Pow w) : Calls Tryz.prog 5 #[] w fun e w' => e = .returned (.bool true) ∧ Below w.heap.size w w' := by
  have HP := Lib.hid' hp
  clear hp
  obtain ⟨D1, v, D2, q1, q2, q3, q4, q5, q6⟩ := alive_plain
  have Q1 := Lib.hid' q1
  have Q2 := Lib.hid' q2
  have Q3 := Lib.hid' q3
  have Q4 := Lib.hid' q4
  have Q5 := Lib.hid' q5
  have Q6 := Lib.hid' q6
  clear q1 q2 q3 q4 q5 q6
  have kc := fun (w : World) (C : Array Value) (n c : Nat) => Lib.run_convert_bytes_const (P := Tryz.prog) w 32 5 C n c Tryz.underlying32 Tryz.underlying5
  go_enter Tryz.func5, Tryz.ntmps5
  go_wp2_with fail
  refine (dnew_any 1000 w (by decide)).mono ?_
  rintro e w1 ⟨N, G1, rfl, h1⟩
  have H1 := Lib.hid' h1
  clear h1
  go_wp2_with fail
  refine (shopen_any (m := 0) w1 (H1.out.at 0 rfl) (HP.out.below H1.out.toBelow) (Ok.new (by decide)) (by decide) (by decide) (pow_kept HP.out H1.out rfl)).mono ?_
  rintro e w2 hE
  have hE2 : ∃ q us, e = .returned (.tuple #[ptrV q, .nilIface]) ∧ ShAt q N ⟨U.new, 0, false⟩ (newD 1000) us [] G1 w1 w2 := by
    rcases hE with ⟨h0, _⟩ | ⟨_, q, us, he, hs⟩
    · rw [openS_new] at h0; exact absurd rfl h0
    · rw [openS_new] at hs; exact ⟨q, us, he, hs⟩
  clear hE
  obtain ⟨q, us, rfl, hs⟩ := hE2
  obtain ⟨G2, G3, Z, h2⟩ := hs
  have H2 := Lib.hid' (H1.out.call1 rfl h2)
  clear h2
  go_wp2_with fail
  have hA3 : ShAt q N ⟨U.new, 0, false⟩ (newD 1000) us [] NoF w (w2.alloc (.cells #[byteV 120] 5 (1, 2))) := ⟨G2, G3, Z, H2.out.below (by go_grown)⟩
  have hB3 := bytes_one w2 120 1 rfl
  have hz3 : w2.alloc (Obj.cells #[Value.int IntKind.u8 120] 5 (1, 2)) = w2.alloc (.cells #[byteV 120] 5 (1, 2)) := rfl
  rw [hz3]
  clear hz3
  generalize w2.alloc (.cells #[byteV 120] 5 (1, 2)) = w3 at *
  have hp3 : Pow w3 := by
    obtain ⟨_, _, _, h⟩ := hA3
    exact HP.out.below h.toBelow
  obtain ⟨F3, hA3', hback⟩ := hA3.enter
  refine (sdo_any (m := 0) A10 (some ⟨w2.heap.size, 0, none⟩) 1 w3 hA3' hp3 (Ok.new (by decide)) (by decide) (by decide) hB3).mono ?_
  rintro e w4 hE
  unfold SDoR ShR at hE
  rw [Q1.out] at hE
  obtain ⟨rfl, us4, _, h4⟩ := hE
  have H4 := Lib.hid' (hback _ _ _ _ _ h4)
  clear h4 hback hA3 hA3' hB3 hp3
  obtain ⟨G4, G4', Z4, h4⟩ := H4.out
  have H4 := Lib.hid' h4
  clear h4
  simp only [errV_0]
  have hb4 := HP.out.below H4.out.toBelow
  go_wp2_with fail
  refine (cut_any6 (m := 1) [] none 0 w4 (H4.out.at 0 rfl) Q2.out (by rw [Q3.out]; decide) (SlV.empty _ _ _ (Nat.zero_le _) (fun _ => rfl)) (fun k _ _ h => by cases h)).mono ?_
  rintro e w5 ⟨rfl, G5, k5⟩
  have H5 := Lib.hid' (H4.out.call1 rfl k5)
  clear k5
  go_wp2_with fail
  refine (start_any (m := 1) w5 (H5.out.at 0 rfl) (Q2.out.cut []) (Nat.zero_le _)).mono ?_
  rintro e w6 ⟨rfl, G6, k6⟩
  have H6 := Lib.hid' (H5.out.call1 rfl k6)
  clear k6
  have ho6 := (Q2.out.cut []).start
  have hp6 : (upD (cutD D1 [])).pend = [] := rfl
  have Q4' := Q4.out
  generalize upD (cutD D1 []) = D6 at *
  go_wp2_with fail
  refine (shopen_any (m := 1) w6 (H6.out.at 0 rfl) (HP.out.below H6.out.toBelow) ho6 (by decide) (by rw [hp6]; decide) (pow_kept HP.out H6.out rfl)).mono ?_
  rintro e w7 hE
  have hE7 : ∃ q us, e = .returned (.tuple #[ptrV q, .nilIface]) ∧ ShAt q N ⟨v, 1, false⟩ D2 us [] G6 w6 w7 := by
    rcases hE with ⟨h0, _⟩ | ⟨_, q, us, he, hs⟩
    · rw [Q4'] at h0; exact absurd rfl h0
    · rw [Q4'] at hs; exact ⟨q, us, he, hs⟩
  clear hE
  obtain ⟨q7, us7, rfl, hs⟩ := hE7
  obtain ⟨G7, G7', Z7, h7⟩ := hs
  have hA7 : ShAt q7 N ⟨v, 1, false⟩ D2 us7 [Asn.shelf q N ⟨u10, 1, false⟩ us4 G4', Asn.pool Z4 us4] NoF w w7 := ⟨G7, G7', Z7, H6.out.call1 rfl h7⟩
  clear h7
  obtain ⟨F7, hA7', _⟩ := hA7.enter
  have HA7 := Lib.hid' hA7
  have HR7 := Lib.hid' (sread_any 0 2 w7 hA7')
  obtain ⟨p7, bu7, bm7, G8, Z8, hin⟩ := sh_open hA7'
  have HN7 := Lib.hid' (sh_in hin)
  clear hA7 hA7' hin
  rw [Q6.out] at HR7
  go_wp2_with fail
  refine HR7.out.mono ?_
  rintro e w8 ⟨a8, c8, rfl, ho, hb8⟩
  have HB8 := Lib.hid' (show Bytes w8 (.slice a8 1 c8) [120] from SlV.of_own ho)
  have HB7 := Lib.hid' (HP.out)
  have hlw : Below w.heap.size w w8 := by
    obtain ⟨_, _, _, h⟩ := HA7.out
    exact below_call h.toBelow h.toBelow.size hb8
  have HLW := Lib.hid' hlw
  have HN8 := Lib.hid' (fun wq (hb : Below w8.heap.size w8 wq) => snext_any (S := ⟨v, 1, false⟩) wq (HN7.out.below (below_call hb8 hb8.size hb)))
  clear ho hb8 hlw
  rw [errV_0]
  go_upto_region 12 with fail
  have hs := run_string_of (P := Tryz.prog) 32 5 9 Tryz.underlying32 Tryz.underlying5 Tryz.underlying9 (w := w8.alloc (.cells #[.int .i64 1, .slice a8 1 c8] 57)) (SlV.below HB8.out (Nat.le_refl _) (by go_grown))
  have hso : strOf [120] = ⟨#[120]⟩ := rfl
  rw [hso] at hs
  clear hso
  go_wp2_with (go_at_call 10; refine (HN8.out _ (by go_grown)).mono ?_; rintro e w9 ⟨rfl, rfl⟩)
  go_ret
  refine ⟨?_, HLW.out.trans ((Below.refl w8.heap.size w8).alloc (Nat.le_refl _) _ |>.mono HLW.out.size)⟩
  rfl
end SH
end Go.Proofs.YtkhnbdbcaebdaaaGreatDoor

namespace Go.Proofs.YtkhnbdbcaebdaaaGreatDoor
open Go.RowKit
set_option linter.unusedSimpArgs false
set_option linter.unusedVariables false
set_option maxRecDepth 100000
namespace SH
open DK
/-- an act in memory -/
abbrev AcS := Ac × Option Addr × Nat
def acV (x : AcS) : List Value := [.int .i64 x.1.k, .int .i64 x.1.e, .int .i64 x.1.a, .slice x.2.1 x.1.d.length x.2.2]
def ActsAt (w : World) (v : Value) (X : List AcS) : Prop := SlV w v X.length (X.flatMap acV) ∧ ∀ x ∈ X, Bytes w (.slice x.2.1 x.1.d.length x.2.2) x.1.d
theorem ActsAt.below {w w' : World} {v : Value} {X : List AcS} (h : ActsAt w v X) {B : Nat} (hB : w.heap.size ≤ B) (hb : Below B w w') : ActsAt w' v X :=
  ⟨SlV.below h.1 hB hb, fun x hx => SlV.below (h.2 x hx) hB hb⟩
theorem ShAt.toBelow {q N : Nat} {S : Sf} {D : Dk} {vs : PoolL} {L : List Asn} {w w' : World} (h : ShAt q N S D vs L NoF w w') : Below w.heap.size w w' := by
  obtain ⟨_, _, _, H⟩ := h
  exact H.toBelow
/-- an act done within a walk -/
theorem bdo_any {q N k : Nat} {S : Sf} {D : Dk} {vs : PoolL} {L : List Asn} {W : World} (x : Ac) (a : Option Addr) (c : Nat) (w : World) (hp : Pow W) (h : ShAt q N S D vs L NoF W w) (hk : BasAt k S D) (hk1 : k ≤ 100) (hB : Bytes w (.slice a x.d.length c) x.d) :
    Calls Tryz.prog 8 #[ptrV q, ac9V x a c] w fun e w' => e = .returned (.tuple #[.int .i64 (apU S.u x).2.1, errV (apU S.u x).1]) ∧ ∃ S' D' us, S'.u = (apU S.u x).2.2 ∧ BasAt (k + 1) S' D' ∧ ShAt q N S' D' us L NoF W w' := by
  obtain ⟨S', D', q1, q2, q3⟩ := hk.act hk1 x
  obtain ⟨F', h1, hback⟩ := h.enter
  obtain ⟨ho, hpe⟩ := hk.ok
  refine (sdo_any (m := k) x a c w h1 (hp.below h.toBelow) ho (by omega) (by rw [hpe]; exact Nat.zero_le _) hB).mono ?_
  intro e w' hE
  unfold SDoR ShR at hE
  rw [q1] at hE
  obtain ⟨rfl, us, _, h2⟩ := hE
  exact ⟨rfl, S', D', us, q2, q3, hback _ _ _ _ _ h2⟩
theorem bunit_any {q N : Nat} {S : Sf} {D : Dk} {vs : PoolL} {L : List Asn} {W : World} (w : World) (h : ShAt q N S D vs L NoF W w) :
    Calls Tryz.prog 9 #[ptrV q] w fun e w' => ∃ bu bm us, e = .returned (ptrV bu) ∧ ShAt q N S D us (.unit bu bm S.u us :: L) NoF W w' := by
  obtain ⟨F', h1, hback⟩ := h.enter
  refine (sunit_any w h1).mono ?_
  rintro e w' ⟨bu, bm, us, rfl, _, h2⟩
  exact ⟨bu, bm, us, rfl, hback _ _ _ _ _ h2⟩
theorem bnext_any {q N : Nat} {S : Sf} {D : Dk} {vs : PoolL} {L : List Asn} {W : World} (w : World) (h : ShAt q N S D vs L NoF W w) :
    Calls Tryz.prog 10 #[ptrV q] w fun e w' => e = .returned (.int .i64 (S.n : Nat)) ∧ w = w' := by
  obtain ⟨F', h1, _⟩ := h.enter
  obtain ⟨p, bu, bm, G1, Z, H⟩ := sh_open h1
  exact snext_any w (sh_in H)
theorem pend_put (D : Dk) (n : Nm) (d : List UInt8) : (putD D n d).2.pend.length ≤ D.pend.length + 2 := by
  have hw : ∀ D : Dk, (worksD D).2.pend = D.pend := fun D => by unfold worksD; repeat' split
                                                                all_goals rfl
  have h1 : ∀ (D : Dk) n d, (writeD D n d).2.pend.length ≤ D.pend.length + 1 := fun D n d => by
    have := hw D
    unfold writeD
    simp only
    repeat' split
    all_goals first | (rw [this]; omega) | (unfold addD; simp only [List.length_append, List.length_singleton]; rw [this]; exact Nat.le_refl _) | (rw [this]; exact Nat.le_refl _)
  have h2 : ∀ (D : Dk), (syncD D).2.pend.length ≤ D.pend.length := fun D => by
    have := hw D
    unfold syncD
    simp only
    split
    · rw [this]; omega
    · simp
  have h3 : ∀ (D : Dk) n d, (renameD D n d).2.pend.length ≤ D.pend.length + 1 := fun D n d => by
    have := hw D
    unfold renameD
    simp only
    repeat' split
    all_goals first | (rw [this]; omega) | (unfold addD; simp only [List.length_append, List.length_singleton]; rw [this]; exact Nat.le_refl _) | (rw [this]; exact Nat.le_refl _)
  have g1 := h1 D (tilde ++ n) d
  have g2 := h2 (writeD D (tilde ++ n) d).2
  have g3 := h3 (syncD (writeD D (tilde ++ n) d).2).2 (tilde ++ n) n
  have g4 := h2 (renameD (syncD (writeD D (tilde ++ n) d).2).2 (tilde ++ n) n).2
  unfold putD
  repeat' split
  all_goals first | exact Nat.le_add_right _ _ | exact Nat.le_trans g1 (by omega) | omega
theorem bcomp_any {q N k : Nat} {S : Sf} {D : Dk} {vs : PoolL} {L : List Asn} {W : World} (w : World) (hp : Pow W) (h : ShAt q N S D vs L NoF W w) (hk : BasAt k S D) (hk1 : k ≤ 100) :
    Calls Tryz.prog 11 #[ptrV q] w fun e w' => e = .returned .nilIface ∧ ∃ D', BasAt (k + 1) S D' ∧ namesOf D'.shown = [nameN 98 S.n] ∧ ShAt q N S D' vs L NoF W w' := by
  obtain ⟨D', q1, q2, q3⟩ := hk.comp hk1
  obtain ⟨F', h1, hback⟩ := h.enter
  obtain ⟨ho, hpe⟩ := hk.ok
  have hpp := pend_put D (nameN 98 S.n) (putU S.u.e S.u.l (sortC S.u.cells)).2
  rw [hpe] at hpp
  have hc : S.u.cells.length ≤ 65536 := by
    obtain ⟨u, n, L, rfl, _, _, _, _, h, _⟩ := hk
    show u.cells.length ≤ _
    omega
  refine (comp_any (m := k) w h1 (hp.below h.toBelow) ho (by omega) (by rw [hpe]; exact Nat.zero_le _) hc (Nat.le_trans hpp (by decide))).mono ?_
  intro e w' hE
  unfold CompR at hE
  rw [q1] at hE
  obtain ⟨rfl, h2⟩ := hE
  exact ⟨rfl, D', q2, q3, hback _ _ _ _ _ h2⟩
theorem idx98 (n : Nat) (wq : World) : (Instr.index 9 (.string (nameN 98 n)) (.int .i64 0)).run Tryz.prog wq = .ok (.int .u8 98) wq := by
  have hs : 0 < (nameN 98 n).size := by show 0 < (98 :: pad8 n).toArray.size; simp
  rw [run_index_string _ _ _ _ _ Tryz.underlying9, dif_pos ⟨by decide, by omega⟩]
  rfl
/-- what the first loop keeps -/
def B1 (W : World) (q N k : Nat) (w : World) : Prop := ∃ S D us, BasAt k S D ∧ ShAt q N S D us [] NoF W w
/-- what the second loop keeps -/
def B2 (W : World) (q N b2 m2 K0 k : Nat) (w : World) : Prop := ∃ S D us u2 us2 Z2, BasAt (K0 + k) S D ∧ Ueq S.u u2 ∧ ShAt q N S D us [.unit b2 m2 u2 us2, Asn.pool Z2 us2] NoF W w
end SH
end Go.Proofs.YtkhnbdbcaebdaaaGreatDoor
