/- The statement RecordBack: its walk. -/
import Derived.Test.YtkljeefncopodaaGreatRecX
import Derived.Test.YtkljeefncopodaaGreatRecY
import Derived.Test.YtkljeefncopodaaGreatRecC
import Derived.Test.YtkljeefncopodaaGreatRecD
import Derived.Test.YtkljeefncopodaaGreatAlive9
import Derived.Test.YtkljeefncopodaaGreatUnitF
import Derived.Test.YtkljeefncopodaaGreatUMakA
import Derived.Laws.StructEq
import Derived.Deep.DeepCutAuto
import Derived.Deep.CutBlock
namespace Go.Proofs.YtkljeefncopodaaGreat
open Go.RowKit
set_option linter.unusedSimpArgs false
set_option linter.unusedVariables false
set_option maxRecDepth 100000

@[go_sem] theorem eql_errV (n : Nat) (w : World) : (binOp .eql 29 (errV n) .nilIface).run Tryz.prog w = .ok (.bool (n == 0)) w := by
  by_cases h : n = 0
  · subst h; rw [errV_0, eql_nil]; rfl
  · rw [errV_pos h, eql_held]; simp [h]
@[go_sem] theorem neq_errV (n : Nat) (w : World) : (binOp .neq 29 (errV n) .nilIface).run Tryz.prog w = .ok (.bool (n != 0)) w := by
  by_cases h : n = 0
  · subst h; rw [errV_0, neq_nil]; rfl
  · rw [errV_pos h, neq_held]; simp [h]
@[go_sem] theorem guard_eql (t n : Nat) (x : Operand) (v : Value) (w : World) : (eqGuard .eql t x (.const v) (errV n) .nilIface).run Tryz.prog w = .ok () w := by
  by_cases h : n = 0
  · subst h; rw [errV_0]; simp [eqGuard]
  · rw [errV_pos h]; simp [eqGuard]
@[go_sem] theorem guard_neq (t n : Nat) (x : Operand) (v : Value) (w : World) : (eqGuard .neq t x (.const v) (errV n) .nilIface).run Tryz.prog w = .ok () w := by
  by_cases h : n = 0
  · subst h; rw [errV_0]; simp [eqGuard]
  · rw [errV_pos h]; simp [eqGuard]
theorem eqIn_d9_n (n : Nat) (k e a : Int) (s : ByteArray) (w : World) : (Op.equalIn (n + 5) 45 (.agg #[.int .i64 k, .int .i64 e, .int .i64 a, .string s]) (.agg #[.int .i64 k, .int .i64 e, .int .i64 a, .string s])).run Tryz.prog w = .ok true w := by
  rw [show n + 5 = (n + 4) + 1 from rfl, run_equalIn_agg w (n+4) 45 _ _ (by kernel_rfl) (by kernel_rfl)]
  simp [Program.fieldsOf, Tryz.underlying45, go_sem, Op.eqFields]
@[go_sem] theorem actGuard : Tryz.prog.eqGuardType Tryz.prog.depth 45 = false := by kernel_rfl
@[go_sem] theorem neq_d9 (x : Ac) (w : World) : (binOp .neq 45 (d9V x) (d9V x)).run Tryz.prog w = .ok (.bool false) w := by
  unfold d9V
  rw [run_neq_struct, eqIn_d9_n 9995 x.k x.e x.a (strOf x.d) w]
  rfl
@[go_sem] theorem guard_d9 (p q : Ac) (x y : Operand) (w : World) : (eqGuard .neq 45 x y (d9V p) (d9V q)).run Tryz.prog w = .ok () w := by
  unfold d9V
  simp [eqGuard, actGuard, go_sem]
def ptrIf (n bu : Nat) : Value := if n = 0 then .pointer (some ⟨bu, 0, none⟩) else .pointer none
def OfAll (n : Nat) (u : U) (w : World) (en : Ending) (w' : World) : Prop :=
  ∃ bu bm, en = .returned (.tuple #[ptrIf n bu, errV n]) ∧ (n = 0 → UnitAt (fun k => k = bu ∨ k = bm) w' bu bm u) ∧ Below w.heap.size w w'
theorem of_all (e l : Int) (E : List Ent) (a : Option Addr) (c : Nat) (W : World) (h : EL W a c E) :
    Calls Tryz.prog 26 #[.int .i64 e, .int .i64 l, .slice a E.length c] W (OfAll (ofErr e l (docE E)) ⟨e, l, docE E⟩ W) := by
  by_cases h0 : ofErr e l (docE E) = 0
  · refine (of_good e l E a c W h h0).mono ?_
    rintro en w' ⟨bu, bm, rfl, g1, g2, hu, hb⟩
    rw [h0]
    exact ⟨bu, bm, rfl, fun _ => hu, hb⟩
  · refine (of_bad e l E a c W h h0).mono ?_
    rintro en w' ⟨rfl, hb⟩
    exact ⟨0, 0, by unfold ptrIf; rw [if_neg h0], fun h => absurd h h0, hb⟩
theorem takeu_all (b : List UInt8) (a : Option Addr) (c : Nat) (w : World) (h : Bytes w (.slice a b.length c) b) : Calls Tryz.prog 19 #[.slice a b.length c] w (OfAll (takeU b).1 (takeU b).2 w) := by
  refine (rtakeu_any b a c w h).mono ?_
  rintro en w' (⟨h0, rfl, hb⟩ | ⟨h0, bu, bm, rfl, g1, g2, hu, hb⟩)
  · exact ⟨0, 0, by unfold ptrIf; rw [if_neg h0], fun h => absurd h h0, hb⟩
  · rw [h0]; exact ⟨bu, bm, rfl, fun _ => hu, hb⟩
theorem sameB_rfl {u : U} (h : u.ok) : sameB u u = true := sameB_self h
set_option maxHeartbeats 40000000 in
theorem recordBack_any (x : Ac) (a : Option Addr) (c : Nat) (E : List Ent) (ea : Option Addr) (ec : Nat) (b : List UInt8) (ba : Option Addr) (bc : Nat) (w : World) (h : Bytes w (.slice a x.d.length c) x.d) (hE : EL w ea ec E) (hb : Bytes w (.slice ba b.length bc) b) :
    Calls Tryz.prog 5 #[ac9V x a c, .slice ea E.length ec, .slice ba b.length bc] w fun en w' => en = .returned (.bool true) ∧ Below w.heap.size w w' := by
  have HA := Lib.hid' h
  have HE := Lib.hid' hE
  have HD := Lib.hid' hb
  have hal := bytes_len h
  have hel := hE.len
  have hdl := bytes_len hb
  clear h hE hb
  have HV := Lib.hid' (show ac9V x a c = .agg #[.int .i64 x.k, .int .i64 x.e, .int .i64 x.a, .slice a x.d.length c] from rfl)
  rw [HV.out]
  go_enter Tryz.func5, Tryz.ntmps5
  go_wp2_with fail
  have H0 : Sep w NoF [] w := Sep.start _
  have H1 : Sep w NoF [.box (w.heap.size) [.int .i64 x.k, .int .i64 x.e, .int .i64 x.a, .slice a x.d.length c] 41] ((w.alloc (.cells #[.int .i64 x.k, .int .i64 x.e, .int .i64 x.a, .slice a x.d.length c] 41))) := (H0.allocAt (w.heap.size) [.int .i64 x.k, .int .i64 x.e, .int .i64 x.a, .slice a x.d.length c] 41 (by simp))
  clear H0
  generalize (w.alloc (.cells #[.int .i64 x.k, .int .i64 x.e, .int .i64 x.a, .slice a x.d.length c] 41)) = w1 at *
  refine (alive9_any _).mono ?_
  rintro en w2 ⟨rfl, hb2⟩
  have H2 : Sep w NoF [.box (w.heap.size) [.int .i64 x.k, .int .i64 x.e, .int .i64 x.a, .slice a x.d.length c] 41] (w2) := (H1.below hb2)
  clear H1 hb2
  have Pc0 := H2.cell 0 rfl 0 rfl
  have Pc1 := H2.cell 0 rfl 1 rfl
  have Pc2 := H2.cell 0 rfl 2 rfl
  have Pc3 := H2.cell 0 rfl 3 rfl
  have Pl := H2.lt 0 rfl
  by_cases h100 : 100 < x.d.length
  · go_wp2
    go_ret
    exact ⟨rfl, H2.toBelow⟩
  go_wp2_with fail
  refine (long8_any E 60 (by decide) ea ec w2 (HE.out.below (Nat.le_refl _) H2.toBelow)).mono ?_
  rintro en w3 ⟨rfl, hb3⟩
  have H3 : Sep w NoF [.box (w.heap.size) [.int .i64 x.k, .int .i64 x.e, .int .i64 x.a, .slice a x.d.length c] 41] (w3) := (H2.below hb3)
  clear Pc0 Pc1 Pc2 Pc3 Pl
  clear H2 hb3
  have Pc0 := H3.cell 0 rfl 0 rfl
  have Pc1 := H3.cell 0 rfl 1 rfl
  have Pc2 := H3.cell 0 rfl 2 rfl
  have Pc3 := H3.cell 0 rfl 3 rfl
  have Pl := H3.lt 0 rfl
  cases hlo : (E.any longE || decide (60 < E.length)) with
  | true =>
    clear hlo
    go_wp2
    go_ret
    exact ⟨rfl, H3.toBelow⟩
  | false =>
  have hlo2 : E.length ≤ 60 := by rw [Bool.or_eq_false_iff, decide_eq_false_iff_not] at hlo; omega
  clear hlo
  by_cases h3000 : 3000 < b.length
  · go_wp2
    go_ret
    exact ⟨rfl, H3.toBelow⟩
  obtain ⟨ck, hck⟩ : ∃ n, n = x.check := ⟨_, rfl⟩
  obtain ⟨pb, hpb⟩ : ∃ q, q = x.putB := ⟨_, rfl⟩
  have hpu := rput9_any x a c w3 (SlV.below HA.out (Nat.le_refl _) H3.toBelow)
  unfold RPutR at hpu
  rw [← hck, ← hpb, HV.out] at hpu
  have HCK := Lib.hid' hck
  have HPB := Lib.hid' hpb
  have HPU := Lib.hid' hpu
  clear hck hpb hpu
  go_wp2_with fail
  refine HPU.out.mono ?_
  clear HPU
  rintro en w4 ⟨pa, pc, rfl, ho, hb4⟩
  have hbp : Bytes w4 (.slice pa pb.length pc) pb := SlV.of_own ho
  have HBP := Lib.hid' hbp
  clear hbp ho
  have H4 : Sep w NoF [.box (w.heap.size) [.int .i64 x.k, .int .i64 x.e, .int .i64 x.a, .slice a x.d.length c] 41] (w4) := (H3.below hb4)
  clear Pc0 Pc1 Pc2 Pc3 Pl
  clear H3 hb4
  have HBB4 := Lib.hid' H4.toBelow
  go_upto_if 45 with fail
  go_cut [] (fun wc => Hid (Below w.heap.size w wc))
  case first =>
    by_cases hc0 : ck = 0
    rotate_left
    · have hcb : (ck == 0) = false := by rw [beq_eq_false_iff_ne]; exact hc0
      go_wp2_with fail
      go_meet
      exact HBB4
    subst hc0
    have HPT := Lib.hid' (show Ac.take pb = (0, x) from by rw [HPB.out]; unfold Ac.putB; rw [← HCK.out, if_neg (by simp)]; exact Ac.take_put HCK.out.symm)
    have htk := rtake9_any pb pa pc w4 HBP.out
    unfold RTakeR at htk
    rw [HPT.out] at htk
    have HTK := Lib.hid' htk
    clear htk
    go_wp2_with fail
    refine HTK.out.mono ?_
    clear HTK
    rintro en w5 ⟨ta, tc, rfl, hbt, hb5⟩
    simp only at hbt ⊢
    have HBT := Lib.hid' hbt
    clear hbt
    have H5 : Sep w NoF [.box (w.heap.size) [.int .i64 x.k, .int .i64 x.e, .int .i64 x.a, .slice a x.d.length c] 41] (w5) := (H4.below hb5)
    clear H4 hb5
    unfold ac9V
    go_wp2_with fail
    have HBT6 := Lib.hid' (SlV.below HBT.out (Nat.le_refl _) (show Below w5.heap.size w5 (w5.alloc (.cells #[.int .i64 x.k, .int .i64 x.e, .int .i64 x.a, .slice ta x.d.length tc] 41)) by go_grown))
    have H6 : Sep w NoF [.box (w5.heap.size) [.int .i64 x.k, .int .i64 x.e, .int .i64 x.a, .slice ta x.d.length tc] 41, .box (w.heap.size) [.int .i64 x.k, .int .i64 x.e, .int .i64 x.a, .slice a x.d.length c] 41] ((w5.alloc (.cells #[.int .i64 x.k, .int .i64 x.e, .int .i64 x.a, .slice ta x.d.length tc] 41))) := (H5.allocAt (w5.heap.size) [.int .i64 x.k, .int .i64 x.e, .int .i64 x.a, .slice ta x.d.length tc] 41 (by simp))
    clear H5
    generalize (w5.alloc (.cells #[.int .i64 x.k, .int .i64 x.e, .int .i64 x.a, .slice ta x.d.length tc] 41)) = w6 at *
    have HS0 : Sep w NoF [.box (w5.heap.size) [.int .i64 x.k, .int .i64 x.e, .int .i64 x.a, .slice ta x.d.length tc] 41, .box (w.heap.size) [.int .i64 x.k, .int .i64 x.e, .int .i64 x.a, .slice a x.d.length c] 41] w6.drew := H6.drew
    have HQ0 := Lib.hid' (SlV.below HBT6.out (Nat.le_refl _) (show Below w6.heap.size w6 w6.drew from (Below.refl _ _).drew))
    clear HBT6
    refine wp_region_held_drew (S := (fun w' => Sep w NoF [.box (w5.heap.size) [.int .i64 x.k, .int .i64 x.e, .int .i64 x.a, .slice ta x.d.length tc] 41, .box (w.heap.size) [.int .i64 x.k, .int .i64 x.e, .int .i64 x.a, .slice a x.d.length c] 41] w')) (by kernel_rfl) HS0 (fun hH0 => ?_)
    refine wpAnyH_take (i := 0) (oi := _) (v := errV 0) rfl (by kernel_rfl) (by kernel_rfl) (by kernel_rfl) (fun _ _ _ h => h) (Or.inl ⟨by rfl, ?_⟩) hH0 ?_
    · intro w hSw; go_simp
    simp only [Act.put, List.getElem_toArray, List.getElem_cons_zero, List.getElem_cons_succ, List.setIfInBounds_toArray, List.set_cons_zero, List.set_cons_succ]
    refine wpAnyH_take (i := 1) (oi := _) (v := .bool false) rfl (by kernel_rfl) (by kernel_rfl) (by kernel_rfl) (fun _ _ _ h => h) (Or.inl ⟨by rfl, ?_⟩) hH0 ?_
    · intro w hSw; go_simp
    simp only [Act.put, List.getElem_toArray, List.getElem_cons_zero, List.getElem_cons_succ, List.setIfInBounds_toArray, List.set_cons_zero, List.set_cons_succ]
    refine wpAnyH_take (i := 2) (oi := _) (v := .bool false) rfl (by kernel_rfl) (by kernel_rfl) (by kernel_rfl) (fun _ _ _ h => h) (Or.inl ⟨by rfl, ?_⟩) hH0 ?_
    · intro w hSw; go_simp
    simp only [Act.put, List.getElem_toArray, List.getElem_cons_zero, List.getElem_cons_succ, List.setIfInBounds_toArray, List.set_cons_zero, List.set_cons_succ]
    refine wpAnyH_take (i := 3) (oi := _) (v := .agg #[.int .i64 x.k, .int .i64 x.e, .int .i64 x.a, .slice ta x.d.length tc]) rfl (by kernel_rfl) (by kernel_rfl) (by kernel_rfl) (fun _ _ _ h => h) (Or.inl ⟨by rfl, ?_⟩) hH0 ?_
    · intro w hSw; have q0 := hSw.cell 0 rfl 0 rfl; have q1 := hSw.cell 0 rfl 1 rfl; have q2 := hSw.cell 0 rfl 2 rfl; have q3 := hSw.cell 0 rfl 3 rfl; go_simp
    simp only [Act.put, List.getElem_toArray, List.getElem_cons_zero, List.getElem_cons_succ, List.setIfInBounds_toArray, List.set_cons_zero, List.set_cons_succ]
    refine wpAnyH_take (i := 5) (oi := _) (v := .agg #[.int .i64 x.k, .int .i64 x.e, .int .i64 x.a, .slice a x.d.length c]) rfl (by kernel_rfl) (by kernel_rfl) (by kernel_rfl) (fun _ _ _ h => h) (Or.inl ⟨by rfl, ?_⟩) hH0 ?_
    · intro w hSw; have q0 := hSw.cell 1 rfl 0 rfl; have q1 := hSw.cell 1 rfl 1 rfl; have q2 := hSw.cell 1 rfl 2 rfl; have q3 := hSw.cell 1 rfl 3 rfl; go_simp
    simp only [Act.put, List.getElem_toArray, List.getElem_cons_zero, List.getElem_cons_succ, List.setIfInBounds_toArray, List.set_cons_zero, List.set_cons_succ]
    refine wpAnyH_ready (rs := [4]) (by kernel_rfl) (by simp) (AllReadyH.cons (o := _) rfl (fun K hK => ?_) AllReadyH.nil)
    go_simp
    refine (doc9_any x ta tc _ HQ0.out).mono ?_
    rintro en wc1 ⟨rfl, hbc⟩
    have HS1 : Sep w NoF [.box (w5.heap.size) [.int .i64 x.k, .int .i64 x.e, .int .i64 x.a, .slice ta x.d.length tc] 41, .box (w.heap.size) [.int .i64 x.k, .int .i64 x.e, .int .i64 x.a, .slice a x.d.length c] 41] wc1 := HS0.below hbc
    have HQ1 := Lib.hid' (SlV.below HQ0.out (Nat.le_refl _) hbc)
    clear hbc
    refine hK.out _ _ ?_ (fun hH1 => ?_)
    · exact HS1
    clear hK K
    refine wpAnyH_ready (rs := [6]) (by kernel_rfl) (by simp) (AllReadyH.cons (o := _) rfl (fun K hK => ?_) AllReadyH.nil)
    go_simp
    refine (doc9_any x a c _ (SlV.below HA.out (Nat.le_refl _) HS1.toBelow)).mono ?_
    rintro en wc2 ⟨rfl, hbc⟩
    have HS2 : Sep w NoF [.box (w5.heap.size) [.int .i64 x.k, .int .i64 x.e, .int .i64 x.a, .slice ta x.d.length tc] 41, .box (w.heap.size) [.int .i64 x.k, .int .i64 x.e, .int .i64 x.a, .slice a x.d.length c] 41] wc2 := HS1.below hbc
    have HQ2 := Lib.hid' (SlV.below HQ1.out (Nat.le_refl _) hbc)
    clear hbc
    refine hK.out _ _ ?_ (fun hH2 => ?_)
    · exact HS2
    clear hK K
    refine wpAnyH_take (i := 7) (oi := _) (v := .bool false) rfl (by kernel_rfl) (by kernel_rfl) (by kernel_rfl) (fun _ _ _ h => h) (Or.inl ⟨by rfl, ?_⟩) hH2 ?_
    · intro w hSw; go_simp
    simp only [Act.put, List.getElem_toArray, List.getElem_cons_zero, List.getElem_cons_succ, List.setIfInBounds_toArray, List.set_cons_zero, List.set_cons_succ]
    refine wpAnyH_take (i := 8) (oi := _) (v := .bool false) rfl (by kernel_rfl) (by kernel_rfl) (by kernel_rfl) (fun _ _ _ h => h) (Or.inl ⟨by rfl, ?_⟩) hH2 ?_
    · intro w hSw; go_simp
    simp only [Act.put, List.getElem_toArray, List.getElem_cons_zero, List.getElem_cons_succ, List.setIfInBounds_toArray, List.set_cons_zero, List.set_cons_succ]
    refine wpAnyH_done (by kernel_rfl) ?_ _
    go_wp2_with fail
    go_meet
    exact Lib.hid' HS2.toBelow
  case rest =>
  clear H4 HBB4 HBP HPB HCK
  obtain ⟨w7, hw7⟩ : ∃ w7, w7 = wc := ⟨_, rfl⟩
  rw [← hw7] at hcut ⊢
  clear hw7
  have HB7 := hcut
  clear hcut
  obtain ⟨n7, hn7⟩ : ∃ n, n = ofErr 7 0 (docE E) := ⟨_, rfl⟩
  have hof := of_all 7 0 E ea ec w7 (HE.out.below (Nat.le_refl _) HB7.out)
  rw [← hn7] at hof
  have HN7 := Lib.hid' hn7
  have HOF := Lib.hid' hof
  clear hof hn7
  go_wp2_with fail
  refine HOF.out.mono ?_
  clear HOF
  rintro en w8 ⟨bu, bm, rfl, hu, hb8⟩
  have HU := Lib.hid' hu
  have HB8 := Lib.hid' (HB7.out.trans (hb8.mono HB7.out.size))
  clear hu hb8 HB7
  go_upto_if 66 with fail
  go_cut [] (fun wc => Hid (Below w.heap.size w wc))
  case first =>
    by_cases hc0 : n7 = 0
    rotate_left
    · have hcb : (n7 == 0) = false := by rw [beq_eq_false_iff_ne]; exact hc0
      go_wp2_with fail
      go_meet
      exact HB8
    subst hc0
    rw [show ptrIf 0 bu = .pointer (some ⟨bu, 0, none⟩) from rfl]
    have HUU := Lib.hid' (HU.out rfl)
    have HLN := Lib.hid' (show (docE E).length ≤ 60 by rw [docE_len]; exact hlo2)
    have HSC := Lib.hid' (show sortC (docE E) = docE E from by have := of_doc HN7.out.symm; unfold U.doc at this; simpa using this)
    have HPN := Lib.hid' (show putU 7 0 (sortC (docE E)) = (0, frameB (unitB 7 0 (docE E))) by
      rw [HSC.out]; unfold putU; rw [if_neg]; have := unitB_len HN7.out.symm (by have := HLN.out; omega); omega)
    have hpu := rputu_any w8 HUU.out (by show ofErr 7 0 (sortC (docE E)) = 0; rw [HSC.out]; exact HN7.out.symm) (by show (docE E).length ≤ _; have := HLN.out; omega)
    simp only at hpu
    rw [HPN.out] at hpu
    have HPU := Lib.hid' hpu
    clear hpu
    go_wp2_with fail
    refine HPU.out.mono ?_
    clear HPU
    rintro en w9 ⟨pa2, pc2, rfl, ho, hb9⟩
    simp only at ho ⊢
    have HTK := Lib.hid' (show takeU (frameB (unitB 7 0 (docE E))) = (0, ⟨7, 0, docE E⟩) from takeU_put HN7.out.symm (by have := HLN.out; omega) (unitB_len HN7.out.symm (by have := HLN.out; omega)))
    generalize frameB (unitB 7 0 (docE E)) = fb at *
    have HBF := Lib.hid' (show Bytes w9 (.slice pa2 fb.length pc2) fb from SlV.of_own ho)
    have HU9 := Lib.hid' (HUU.out.below (Nat.le_refl _) hb9)
    have HB9 := Lib.hid' (HB8.out.trans (hb9.mono HB8.out.size))
    have hbl := bytes_len HBF.out
    clear ho hb9 HUU HU HB8
    have htk := takeu_all fb pa2 pc2 w9 HBF.out
    rw [HTK.out] at htk
    have HTU := Lib.hid' htk
    clear htk
    go_wp2_with fail
    refine HTU.out.mono ?_
    clear HTU
    rintro en w10 ⟨bu2, bm2, rfl, hu, hb10⟩
    have HU2 := Lib.hid' (hu rfl)
    have HU10 := Lib.hid' (HU9.out.below (Nat.le_refl _) hb10)
    have HB10 := Lib.hid' (HB9.out.trans (hb10.mono HB9.out.size))
    clear hu hb10 HB9 HU9
    rw [show ptrIf 0 bu2 = .pointer (some ⟨bu2, 0, none⟩) from rfl]
    have hsm := usame_any w10 HU2.out HU10.out (by show (docE E).length ≤ _; have := HLN.out; omega) (by show (docE E).length ≤ _; have := HLN.out; omega)
    rw [sameB_rfl (of_ok HN7.out.symm).1] at hsm
    have HSM := Lib.hid' hsm
    clear hsm
    go_wp2_with fail
    refine HSM.out.mono ?_
    clear HSM
    rintro en w11 ⟨rfl, hb11⟩
    have HB11 := Lib.hid' (HB10.out.trans (hb11.mono HB10.out.size))
    clear hb11
    go_wp2_with fail
    go_meet
    exact HB11
  case rest =>
  clear HU HB8 HN7
  obtain ⟨w12, hw12⟩ : ∃ w12, w12 = wc := ⟨_, rfl⟩
  rw [← hw12] at hcut ⊢
  clear hw12
  have HB12 := hcut
  clear hcut
  obtain ⟨p, hp⟩ : ∃ p, p = Ac.take b := ⟨_, rfl⟩
  have htk := rtake9_any b ba bc w12 (SlV.below HD.out (Nat.le_refl _) HB12.out)
  unfold RTakeR at htk
  rw [← hp] at htk
  have HPP := Lib.hid' hp.symm
  clear hp
  obtain ⟨pn, px⟩ := p
  simp only at htk
  have HTK := Lib.hid' htk
  clear htk
  go_wp2_with fail
  refine HTK.out.mono ?_
  clear HTK
  rintro en w13 ⟨ta, tc, rfl, hbt, hb13⟩
  have HBT := Lib.hid' hbt
  have hpl := bytes_len hbt
  have HB13 := Lib.hid' (HB12.out.trans (hb13.mono HB12.out.size))
  clear hbt hb13 HB12
  have HV2 := Lib.hid' (show ac9V px ta tc = .agg #[.int .i64 px.k, .int .i64 px.e, .int .i64 px.a, .slice ta px.d.length tc] from rfl)
  rw [HV2.out]
  go_upto_if 95 with fail
  have K0 : Sep w13 NoF [] w13 := Sep.start _
  have H1 : Sep w13 NoF [.box (w13.heap.size) [.int .i64 px.k, .int .i64 px.e, .int .i64 px.a, .slice ta px.d.length tc] 41] ((w13.alloc (.cells #[.int .i64 px.k, .int .i64 px.e, .int .i64 px.a, .slice ta px.d.length tc] 41))) := (K0.allocAt (w13.heap.size) [.int .i64 px.k, .int .i64 px.e, .int .i64 px.a, .slice ta px.d.length tc] 41 (by simp))
  clear K0
  generalize (w13.alloc (.cells #[.int .i64 px.k, .int .i64 px.e, .int .i64 px.a, .slice ta px.d.length tc] 41)) = w14 at *
  have HB14 := Lib.hid' (HB13.out.trans (H1.toBelow.mono HB13.out.size))
  go_cut [] (fun wc => Hid (Below w.heap.size w wc))
  case first =>
    by_cases hc0 : pn = 0
    rotate_left
    · have hcb : (pn == 0) = false := by rw [beq_eq_false_iff_ne]; exact hc0
      go_wp2_with fail
      go_meet
      exact HB14
    subst hc0
    obtain ⟨hpt, hpc⟩ := Ac.put_take HPP.out
    have hpu := rput9_any px ta tc w14 (H1.oldBytes HBT.out)
    unfold RPutR at hpu
    rw [hpc, show px.putB = b from by unfold Ac.putB; rw [if_neg (by simpa using hpc)]; exact hpt, HV2.out] at hpu
    have HPU := Lib.hid' hpu
    clear hpu hpt hpc
    have Tc0 := H1.cell 0 rfl 0 rfl
    have Tc1 := H1.cell 0 rfl 1 rfl
    have Tc2 := H1.cell 0 rfl 2 rfl
    have Tc3 := H1.cell 0 rfl 3 rfl
    have Tl := H1.lt 0 rfl
    go_wp2_with fail
    refine HPU.out.mono ?_
    clear HPU
    rintro en w15 ⟨qa, qc, rfl, ho, hb15⟩
    have HBQ := Lib.hid' (show Bytes w15 (.slice qa b.length qc) b from SlV.of_own ho)
    have HB15 := Lib.hid' (HB14.out.trans (hb15.mono HB14.out.size))
    clear ho hb15
    have hnb := numBytes_any _ _ b b w15 HBQ.out (SlV.below HD.out (Nat.le_refl _) HB15.out)
    rw [show (b == b) = true by simp] at hnb
    have HNB := Lib.hid' hnb
    clear hnb
    go_wp2_with fail
    refine HNB.out.mono ?_
    clear HNB
    rintro en wz ⟨rfl, rfl⟩
    go_wp2_with fail
    go_meet
    exact HB15
  case rest =>
  clear H1 HB14 HB13 HBT HPP
  obtain ⟨w16, hw16⟩ : ∃ w16, w16 = wc := ⟨_, rfl⟩
  rw [← hw16] at hcut ⊢
  clear hw16
  have HB16 := hcut
  clear hcut
  obtain ⟨q, hq⟩ : ∃ q, q = takeU b := ⟨_, rfl⟩
  have htk := takeu_all b ba bc w16 (SlV.below HD.out (Nat.le_refl _) HB16.out)
  rw [← hq] at htk
  have HQQ := Lib.hid' hq.symm
  clear hq
  obtain ⟨qn, u⟩ := q
  simp only at htk
  have HTK := Lib.hid' htk
  clear htk
  go_wp2_with fail
  refine HTK.out.mono ?_
  clear HTK
  rintro en w17 ⟨bu, bm, rfl, hu, hb17⟩
  have HU := Lib.hid' hu
  have HB17 := Lib.hid' (HB16.out.trans (hb17.mono HB16.out.size))
  clear hu hb17 HB16
  by_cases hq0 : qn = 0
  rotate_left
  · have hqb : (qn != 0) = true := by rw [bne_iff_ne]; exact hq0
    rw [show ptrIf qn bu = .pointer none from if_neg hq0]
    clear hq0
    go_wp2
    go_ret
    exact ⟨rfl, HB17.out⟩
  subst hq0
  rw [show ptrIf 0 bu = .pointer (some ⟨bu, 0, none⟩) from rfl]
  obtain ⟨g1, g2, g3, g4⟩ := takeU_ok HQQ.out
  have HUU := Lib.hid' (HU.out rfl)
  have HSC := Lib.hid' (show sortC u.cells = u.cells from by have := of_doc g1; unfold U.doc at this; simpa using this)
  have HPN := Lib.hid' (show putU u.e u.l (sortC u.cells) = (0, b) by
    rw [HSC.out]; unfold putU; rw [if_neg (by omega), g2])
  have hpu := rputu_any w17 HUU.out (by rw [HSC.out]; exact g1) g4
  rw [HPN.out] at hpu
  have HPU := Lib.hid' hpu
  clear hpu g1 g2 g3 g4 HU
  go_wp2_with fail
  refine HPU.out.mono ?_
  clear HPU
  rintro en w18 ⟨qa, qc, rfl, ho, hb18⟩
  simp only at ho ⊢
  have HBQ := Lib.hid' (show Bytes w18 (.slice qa b.length qc) b from SlV.of_own ho)
  have HB18 := Lib.hid' (HB17.out.trans (hb18.mono HB17.out.size))
  clear ho hb18
  have hnb := numBytes_any _ _ b b w18 HBQ.out (SlV.below HD.out (Nat.le_refl _) HB18.out)
  rw [show (b == b) = true by simp] at hnb
  have HNB := Lib.hid' hnb
  clear hnb
  go_wp2_with fail
  refine HNB.out.mono ?_
  clear HNB
  rintro en wz ⟨rfl, rfl⟩
  go_wp2
  go_ret
  exact ⟨rfl, HB18.out⟩
end Go.Proofs.YtkljeefncopodaaGreat
