/- Law 16 (chain): ChainBreaks. -/
import Derived.Test.YtlhlkdeaiobfaaaDoorChnL
import Derived.Test.YtlhlkdeaiobfaaaDoorAlvS
import Derived.Test.YtlhlkdeaiobfaaaDoorStpL
namespace Go.Proofs.YtlhlkdeaiobfaaaDoor
open Go.RowKit
set_option linter.unusedSimpArgs false
set_option linter.unusedVariables false
set_option maxRecDepth 100000

theorem set_flat {X : List MfP} (hx : ∀ x ∈ X, x.1.ok) (m : MfP) (hm : m.1.ok) {k : Nat} (hk : k < X.length) :
    (X.flatMap mV).take (k * 37) ++ mV m ++ (X.flatMap mV).drop (k * 37 + (mV m).length) = (X.set k m).flatMap mV := by
  have hl : ∀ x ∈ X, (mV x).length = 37 := fun x h => mfV_len (hx x h) _ _
  have hml : (mV m).length = 37 := mfV_len hm _ _
  obtain ⟨A, x, B, rfl, rfl⟩ : ∃ A x B, X = A ++ x :: B ∧ k = A.length := ⟨X.take k, X[k], X.drop (k + 1), by simp, by simp; omega⟩
  have h1 : (A.flatMap mV).length = A.length * 37 := flat_in_len A (fun y h => hl y (by simp [h]))
  have h2 : (mV x).length = 37 := hl x (by simp)
  simp only [List.flatMap_append, List.flatMap_cons, List.set_append_right _ _ (Nat.le_refl _), Nat.sub_self, List.set_cons_zero, List.append_assoc]
  have t1 : (A.flatMap mV ++ (mV x ++ B.flatMap mV)).take (A.length * 37) = A.flatMap mV := by rw [← h1]; exact List.take_left
  have t2 : (A.flatMap mV ++ (mV x ++ B.flatMap mV)).drop (A.length * 37 + (mV m).length) = B.flatMap mV := by
    rw [hml, ← h1, ← h2, ← List.length_append, ← List.append_assoc]; exact List.drop_left
  rw [t1, t2]
theorem longM_len' {X : List MfP} (h : longM X = false) : X.length ≤ 12 := by
  unfold longM at h
  rw [Bool.or_eq_false_iff] at h
  have := h.2
  simp at this; omega
theorem brk_plain {X : List MfP} {k : Nat} {m : MfP} (hk : k + 1 < X.length) (g : Good [] X) (hne : (X[k]'(by omega)).1 ≠ m.1) (ok : ∀ x ∈ X, x.1.ok) (om : m.1.ok) :
    ((chkM (X.set k m)).2 = 0 → colM X (X.set k m) = true) ∧ ((chkM (X.set k m)).2 ≠ 0 → (chkM (X.set k m)).1 ≤ k + 1) := by
  obtain ⟨A, x, y, B, rfl, rfl⟩ : ∃ A x y B, X = A ++ x :: y :: B ∧ k = A.length := ⟨X.take k, X[k]'(by omega), X[k + 1], X.drop (k + 2), by
    have h1 := List.drop_eq_getElem_cons (show k < X.length by omega)
    have h2 := List.drop_eq_getElem_cons hk
    rw [← h2, ← h1, List.take_append_drop], by simp; omega⟩
  have hs : (A ++ x :: y :: B).set A.length m = A ++ m :: y :: B := by rw [List.set_append_right _ _ (Nat.le_refl _), Nat.sub_self]; rfl
  rw [hs]
  refine ⟨fun h => ?_, fun h => break_at g h⟩
  refine unbroken g (good_of_chk (A := []) h) ?_ (ok x (by simp)) om
  simpa using hne
set_option maxHeartbeats 16000000 in
theorem chainBreaks_any (HSum : RSumLaw) (X : List MfP) (a : Option Addr) (c : Nat) (z : Int) (m : Mf) (pa : Option Addr) (pc : Nat) (w : World) (hX : MsAt w a c X) (hm : PtsAt w pa pc m.ps) (om : m.ok) (hL : Laid w) :
    Calls Tryd.prog 3 #[.slice a X.length c, .int .i64 z, .agg (mfV m pa pc).toArray] w fun en w' => en = .returned (.bool true) ∧ Below w.heap.size w w' := by
  have hlx := hX.len
  have hlm := hm.len
  have HAL := Lib.hid' (fun w1 (H : Below w.heap.size w w1) => alive16_any w1 (hL.below (Nat.le_refl _) H))
  have HLX := Lib.hid' (fun w1 (H : Below w.heap.size w w1) => long16_any X a c w1 (hX.below (Nat.le_refl _) H))
  have HCX := Lib.hid' (fun w1 (H : Below w.heap.size w w1) => ccheck_any X a c w1 (hX.below (Nat.le_refl _) H) (hL.below (Nat.le_refl _) H))
  have HX := Lib.hid' hX
  have HM := Lib.hid' hm
  have HLD := Lib.hid' hL
  have HOM := Lib.hid' om
  have HSUM := Lib.hid' HSum
  have m36 := mfV_36 om pa pc
  clear hX hm hL om HSum
  go_enter Tryd.func3, Tryd.ntmps3
  go_upto_region 1 with fail
  have H0 : Sep w NoF [.box w.heap.size (mfV m pa pc) 27] (w.alloc (.cells (mfV m pa pc).toArray 27)) := (Sep.start w).allocAt w.heap.size (mfV m pa pc) 27 rfl
  generalize w.alloc (.cells (mfV m pa pc).toArray 27) = w0 at *
  have HAL0 := Lib.hid' (HAL.out w0 H0.toBelow)
  go_upto_region 3 with (go_at_call 8; refine HAL0.out.mono ?_; rintro e0 w1 ⟨rfl, hb1⟩; have H1 := H0.below hb1)
  have HB1 := Lib.hid' H1.toBelow
  have HLX1 := Lib.hid' (HLX.out w1 HB1.out)
  clear HAL HAL0 HLX H0 hb1
  cases hlgx : longM X with
  | true =>
    rw [hlgx] at HLX1
    go_wp2_with (go_at_call 9; with_reducible (refine HLX1.out.mono ?_); rintro e0 w2 ⟨rfl, hb2⟩; have HB2 := Lib.hid' (HB1.out.trans (hb2.mono HB1.out.size)); have cc6 := (H1.below hb2).cell 0 rfl 36 m36)
    go_ret
    exact ⟨rfl, HB2.out⟩
  | false =>
  rw [hlgx] at HLX1
  have hx12 := longM_len' hlgx
  by_cases hp12 : 12 < m.ps.length
  · have hp' : (12 : Int) < (m.ps.length : Int) := by omega
    clear hp12
    go_wp2_with (go_at_call 9; with_reducible (refine HLX1.out.mono ?_); rintro e0 w2 ⟨rfl, hb2⟩; have HB2 := Lib.hid' (HB1.out.trans (hb2.mono HB1.out.size)); have cc6 := (H1.below hb2).cell 0 rfl 36 m36)
    go_ret
    exact ⟨rfl, HB2.out⟩
  have hp' : ¬ (12 : Int) < (m.ps.length : Int) := by omega
  by_cases h2 : X.length < 2
  · have h2' : (X.length : Int) < 2 := by omega
    clear hp12 h2
    go_wp2_with (go_at_call 9; with_reducible (refine HLX1.out.mono ?_); rintro e0 w2 ⟨rfl, hb2⟩; have HB2 := Lib.hid' (HB1.out.trans (hb2.mono HB1.out.size)); have cc6 := (H1.below hb2).cell 0 rfl 36 m36)
    go_ret
    exact ⟨rfl, HB2.out⟩
  have h2' : ¬ (X.length : Int) < 2 := by omega
  clear hp12
  go_upto_region 5 with (go_at_call 9; with_reducible (refine HLX1.out.mono ?_); rintro e0 w2 ⟨rfl, hb2⟩; have HB2 := Lib.hid' (HB1.out.trans (hb2.mono HB1.out.size)); have cc6 := (H1.below hb2).cell 0 rfl 36 m36)
  have H3 := H1.below hb2
  clear HLX1 hlgx hb2 H1 HB1 hp' h2' cc6
  have HCX3 := Lib.hid' (HCX.out _ H3.toBelow)
  have HGX := Lib.hid' (fun (g1 : (chkM X).2 = 0) => good_of_chk (A := []) (L := X) g1)
  generalize (chkM X).1 = k1 at *
  generalize (chkM X).2 = n1 at *
  go_upto_region 6 with (go_at_call 10; refine HCX3.out.mono ?_; rintro e0 w4 ⟨rfl, hb4⟩)
  have H4 := H3.below hb4
  clear H3 hb4 HCX3 HCX HB2
  have HB4 := Lib.hid' H4.toBelow
  by_cases g1 : n1 = 0
  rotate_left
  · have b1 : (n1 != 0) = true := by rw [bne_iff_ne]; exact g1
    clear g1 HGX
    go_wp2_with fail
    go_ret
    exact ⟨rfl, HB4.out⟩
  have b1 : (n1 != 0) = false := by rw [bne_eq_false_iff_eq]; exact g1
  have HG := Lib.hid' (HGX.out g1)
  clear g1 HGX
  obtain ⟨N1, hN⟩ : ∃ N1, X.length = N1 + 1 := ⟨X.length - 1, by omega⟩
  obtain ⟨u, hu⟩ : ∃ u : Nat, IntKind.u64.wrap z = (u : Int) := ⟨(IntKind.u64.wrap z).toNat, by rw [IntKind.wrap_u64]; omega⟩
  have hu2 : (u : Int) < 18446744073709551616 := by rw [← hu, IntKind.wrap_u64]; omega
  obtain ⟨k, hk⟩ : ∃ k : Nat, k = u % N1 := ⟨_, rfl⟩
  have hk1 : k < N1 := by rw [hk]; exact Nat.mod_lt _ (by omega)
  have e2 : IntKind.i64.wrap ((X.length : Int) - 1) = (N1 : Int) := by rw [hN, show ((N1 + 1 : Nat) : Int) - 1 = (N1 : Int) by omega]; exact IntWalk.i64_in _ (by omega)
  have e2' : (X.length : Int) - 1 = (N1 : Int) := by omega
  have e3 : IntKind.u64.wrap (N1 : Int) = (N1 : Int) := by rw [IntKind.wrap_u64]; omega
  have e3' : IntKind.u64.wrap ((X.length : Int) - 1) = (N1 : Int) := by rw [e2']; exact e3
  have e4 : (u : Int) % (N1 : Int) = (k : Int) := by rw [hk]; omega
  have e4' : (u : Int).tmod (N1 : Int) = (k : Int) := by rw [Int.tmod_eq_emod_of_nonneg (by omega)]; exact e4
  have e5 : IntKind.i64.wrap (k : Int) = (k : Int) := IntWalk.i64_in _ (by omega)
  have n0 : (N1 : Int) ≠ 0 := by omega
  have n0' : ((N1 : Int) == 0) = false := by rw [beq_eq_false_iff_ne]; exact n0
  have HKL := Lib.hid' (show k + 1 < X.length by omega)
  clear hk hN hu2
  go_upto_region 9 with fail
  clear e2 e2' e3 e3' e4 e4' e5 n0 n0' hu b1
  have hkX : k < X.length := by have := HKL.out; omega
  have HX4 := Lib.hid' (HX.out.below (Nat.le_refl _) HB4.out)
  obtain ⟨ba, oa, rfl, hba, hra⟩ := MsAt.at HX4.out hkX
  have ox := HX.out.ok _ (List.getElem_mem hkX)
  have hzx : (Tryd.prog.info? 27).map (·.size) = some (mV X[k]).length := by unfold mV; rw [mfV_len ox]; exact mf_size
  have hzm : (Tryd.prog.info? 27).map (·.size) = some (mfV m pa pc).length := by rw [mfV_len HOM.out]; exact mf_size
  have ex := HX4.out.each _ (List.getElem_mem hkX)
  have em := HM.out.below (Nat.le_refl _) HB4.out
  have HSM := Lib.hid' (fun wq (hb : Below w4.heap.size w4 wq) => show Calls Tryd.prog 11 #[.agg (mV X[k]).toArray, .agg (mfV m pa pc).toArray] wq fun en w' => en = .returned (.bool (decide (X[k].1 = m))) ∧ Below wq.heap.size wq w' from
    msame_any X[k].1 m X[k].2.1 pa X[k].2.2 pc wq ox HOM.out (ex.below (Nat.le_refl _) hb) (em.below (Nat.le_refl _) hb))
  have HRA := Lib.hid' (fun wq (hb : Below w4.heap.size w4 wq) => World.rangeAt.below hra hb)
  have HRM := Lib.hid' (fun wq (hb : Below w4.heap.size w4 wq) => World.rangeAt.below (H4.box 0 rfl).range hb)
  have HPL := Lib.hid' (fun (hne : ¬ X[k].1 = m) => brk_plain (m := (m, pa, pc)) HKL.out HG.out hne HX.out.ok HOM.out)
  have hk2 : (k : Int) < (X.length : Int) := by omega
  clear ex em hra hba ox
  by_cases hs : X[k].1 = m
  · rw [decide_eq_true hs] at HSM
    clear hs HPL
    generalize mV X[k] = PX at *
    generalize mfV m pa pc = PM at *
    refine startD (S := (fun w' => Below w4.heap.size w4 w')) (by kernel_rfl) ((Below.refl _ _).drew) (fun hH0 => ?_)
    simp only [List.length_cons, List.length_nil, Nat.reduceAdd, List.replicate_succ, List.replicate_zero]
    refine takeD (i := 0) (d := 43) (v := .slice (some ⟨ba, oa, none⟩) X.length c) rfl rfl (by kernel_rfl) (by kernel_rfl) (by kernel_rfl) (fun _ _ _ h => h) (yldV [(0, .slice (some ⟨ba, oa, none⟩) X.length c)] (by kernel_rfl) rfl (by kernel_rfl) ?_) hH0 ?_
    · intro w hSw; go_simp
    dsimp only [List.set_cons_zero, List.set_cons_succ]
    refine takeD (i := 1) (d := 44) (v := .int .i64 (k : Int)) rfl rfl (by kernel_rfl) (by kernel_rfl) (by kernel_rfl) (fun _ _ _ h => h) (yldV [(9, .int .i64 (k : Int))] (by kernel_rfl) rfl (by kernel_rfl) ?_) hH0 ?_
    · intro w hSw; go_simp
    dsimp only [List.set_cons_zero, List.set_cons_succ]
    refine takeD (i := 2) (d := 45) (v := .pointer (some ⟨ba, oa + k * 37, none⟩)) rfl rfl (by kernel_rfl) (by kernel_rfl) (by kernel_rfl) (fun _ _ _ h => h) (yldV [(43, .slice (some ⟨ba, oa, none⟩) X.length c), (44, .int .i64 (k : Int))] (by kernel_rfl) rfl (by kernel_rfl) ?_) hH0 ?_
    · intro w hSw; go_simp
    dsimp only [List.set_cons_zero, List.set_cons_succ]
    refine takeD (i := 3) (d := 46) (v := .agg PX.toArray) rfl rfl (by kernel_rfl) (by kernel_rfl) (by kernel_rfl) (fun _ _ _ h => h) (yieldsIf_load_mid (by kernel_rfl) 27 (.tmp 45) rfl ba (oa + k * 37) rfl PX _ (fun wq hb => HRA.out wq hb) Tryd.underlying27 rfl hzx) hH0 ?_
    dsimp only [List.set_cons_zero, List.set_cons_succ]
    refine takeD (i := 4) (d := 47) (v := .agg PM.toArray) rfl rfl (by kernel_rfl) (by kernel_rfl) (by kernel_rfl) (fun _ _ _ h => h) (yieldsIf_load_mid (by kernel_rfl) 27 (.tmp 5) rfl w.heap.size (0) rfl PM _ (fun wq hb => HRM.out wq hb) Tryd.underlying27 rfl hzm) hH0 ?_
    dsimp only [List.set_cons_zero, List.set_cons_succ]
    refine wpAnyH_ready (rs := [5]) (by kernel_rfl) (by simp) (AllReadyH.cons (o := _) rfl (fun K hK => ?_) AllReadyH.nil)
    go_simp
    refine (HSM.out _ hH0).mono ?_
    rintro en w5 ⟨rfl, hb5⟩
    refine hK.out _ _ ?_ (fun hH1 => ?_)
    · exact Below.trans hH0 (hb5.mono (Below.size hH0))
    clear hK K
    refine wpAnyH_done (by kernel_rfl) ?_ _
    have HB6 := Lib.hid' (HB4.out.trans (Below.mono hH1 HB4.out.size))
    go_wp2_with fail
    go_ret
    exact ⟨rfl, HB6.out⟩
  · rw [decide_eq_false hs] at HSM
    have HPQ := Lib.hid' (HPL.out hs)
    have HMO := Lib.hid' (show ∀ x ∈ X.set k (m, pa, pc), x.1.ok from fun x hx => by
      rcases List.mem_or_eq_of_mem_set hx with h | rfl
      · exact HX.out.ok x h
      · exact HOM.out)
    have HFL := Lib.hid' (set_flat HX.out.ok (m, pa, pc) HOM.out hkX)
    have HXE := Lib.hid' (show ∀ w', Below w.heap.size w w' → ∀ x ∈ X.set k (m, pa, pc), PtsAt w' x.2.1 x.2.2 x.1.ps from fun w' hb x hx => by
      rcases List.mem_or_eq_of_mem_set hx with h | rfl
      · exact (HX.out.each x h).below (Nat.le_refl _) hb
      · exact HM.out.below (Nat.le_refl _) hb)
    have HYL := Lib.hid' (show (X.set k (m, pa, pc)).length = X.length from List.length_set)
    have HXF := Lib.hid' (show (X.flatMap mV).length = X.length * 37 from flat_in_len X (fun x hx => mfV_len (HX.out.ok x hx) _ _))
    have HXO := Lib.hid' (show ∀ u ∈ X.flatMap mV, u.oneCell' = true by
      intro u hu
      obtain ⟨x, hx, h2⟩ := List.mem_flatMap.1 hu
      exact mfV_one u h2)
    have hone : ∀ u ∈ mfV m pa pc, u.oneCell' = true := mfV_one
    have HM37 := Lib.hid' (mfV_len HOM.out pa pc)
    have HKG := Lib.hid' (fun (g1 : (chkM (X.set k (m, pa, pc))).2 = 0) => good_each (good_of_chk (A := []) (L := X.set k (m, pa, pc)) g1))
    have HMV := Lib.hid' (show mV (m, pa, pc) = mfV m pa pc from rfl)
    rw [HMV.out] at HFL
    clear hs HPL HMV
    generalize X.set k (m, pa, pc) = Y at *
    generalize mV X[k] = PX at *
    generalize mfV m pa pc = PM at *
    refine startD (S := (fun w' => Below w4.heap.size w4 w')) (by kernel_rfl) ((Below.refl _ _).drew) (fun hH0 => ?_)
    simp only [List.length_cons, List.length_nil, Nat.reduceAdd, List.replicate_succ, List.replicate_zero]
    refine takeD (i := 0) (d := 43) (v := .slice (some ⟨ba, oa, none⟩) X.length c) rfl rfl (by kernel_rfl) (by kernel_rfl) (by kernel_rfl) (fun _ _ _ h => h) (yldV [(0, .slice (some ⟨ba, oa, none⟩) X.length c)] (by kernel_rfl) rfl (by kernel_rfl) ?_) hH0 ?_
    · intro w hSw; go_simp
    dsimp only [List.set_cons_zero, List.set_cons_succ]
    refine takeD (i := 1) (d := 44) (v := .int .i64 (k : Int)) rfl rfl (by kernel_rfl) (by kernel_rfl) (by kernel_rfl) (fun _ _ _ h => h) (yldV [(9, .int .i64 (k : Int))] (by kernel_rfl) rfl (by kernel_rfl) ?_) hH0 ?_
    · intro w hSw; go_simp
    dsimp only [List.set_cons_zero, List.set_cons_succ]
    refine takeD (i := 2) (d := 45) (v := .pointer (some ⟨ba, oa + k * 37, none⟩)) rfl rfl (by kernel_rfl) (by kernel_rfl) (by kernel_rfl) (fun _ _ _ h => h) (yldV [(43, .slice (some ⟨ba, oa, none⟩) X.length c), (44, .int .i64 (k : Int))] (by kernel_rfl) rfl (by kernel_rfl) ?_) hH0 ?_
    · intro w hSw; go_simp
    dsimp only [List.set_cons_zero, List.set_cons_succ]
    refine takeD (i := 3) (d := 46) (v := .agg PX.toArray) rfl rfl (by kernel_rfl) (by kernel_rfl) (by kernel_rfl) (fun _ _ _ h => h) (yieldsIf_load_mid (by kernel_rfl) 27 (.tmp 45) rfl ba (oa + k * 37) rfl PX _ (fun wq hb => HRA.out wq hb) Tryd.underlying27 rfl hzx) hH0 ?_
    dsimp only [List.set_cons_zero, List.set_cons_succ]
    refine takeD (i := 4) (d := 47) (v := .agg PM.toArray) rfl rfl (by kernel_rfl) (by kernel_rfl) (by kernel_rfl) (fun _ _ _ h => h) (yieldsIf_load_mid (by kernel_rfl) 27 (.tmp 5) rfl w.heap.size (0) rfl PM _ (fun wq hb => HRM.out wq hb) Tryd.underlying27 rfl hzm) hH0 ?_
    dsimp only [List.set_cons_zero, List.set_cons_succ]
    refine wpAnyH_ready (rs := [5]) (by kernel_rfl) (by simp) (AllReadyH.cons (o := _) rfl (fun K hK => ?_) AllReadyH.nil)
    go_simp
    refine (HSM.out _ hH0).mono ?_
    rintro en w5 ⟨rfl, hb5⟩
    refine hK.out _ _ ?_ (fun hH1 => ?_)
    · exact Below.trans hH0 (hb5.mono (Below.size hH0))
    clear hK K
    refine wpAnyH_done (by kernel_rfl) ?_ _
    have H6 := H4.below hH1
    skip
    clear HRA HRM HSM H4 HX4 HB4
    have HB6 := Lib.hid' H6.toBelow
    have HNR := H6.newRow 27 37
    have hsl := (HX.out.below (Nat.le_refl _) HNR.toBelow).row
    go_upto_region 12 with (at_builtin; refine Sep.appendSl etMfs rfl (.tmp 49) (.tmp 50) rfl HNR 0 rfl rfl X.length (X.flatMap mV) _ rfl hsl HXF.out HXO.out (by omega) ?_; intro a7 c7 w7 H7)
    obtain ⟨g, rfl⟩ := own_head (H7.row 0 rfl) (by omega)
    have H8 := H7.storeRow 0 rfl (k * 37) PM (by rw [HM37.out]; omega)
    have hth := own_there (H7.row 0 rfl) (k * 37) PM.toArray.size (by rw [List.size_toArray, HM37.out]; omega)
    have h1m : PM.toArray.all (·.oneCell') = true := by simpa using hone
    have hzm2 : (Tryd.prog.info? 27).map (·.size) = some PM.toArray.size := by rw [List.size_toArray]; exact hzm
    clear hsl HNR H6 hone
    go_upto_region 13 with (first | (refine Sep.loadB H7 1 rfl rfl 27 (.tmp 5) rfl rfl _ Tryd.underlying27 rfl hzm ?_) | (refine wpList_store_mid rfl 27 (.tmp 55) (.tmp 54) rfl g (k * 37) PM.toArray rfl rfl hth hzm2 h1m ?_))
    have HMY := Lib.hid' (show MsAt (w7.setCells g (k * 37) PM) (some ⟨g, 0, none⟩) c7 Y from ⟨by rw [HYL.out, ← HFL.out]; have := SlV.of_own (H8.row 0 rfl); rw [Nat.zero_add, List.nil_append] at this; exact this, HXE.out _ H8.toBelow, HMO.out⟩)
    have HCY := Lib.hid' (ccheck_any Y _ _ _ HMY.out (HLD.out.below (Nat.le_refl _) H8.toBelow))
    rw [HYL.out] at HCY
    have HB8 := Lib.hid' H8.toBelow
    have HCL := Lib.hid' (fun (h : (chkM Y).2 = 0) => show ∀ w1, Below w.heap.size w w1 → MsAt w1 (some ⟨g, 0, none⟩) c7 Y → Calls Tryd.prog 12 #[.slice (some ⟨ba, oa, none⟩) X.length c, .slice (some ⟨g, 0, none⟩) X.length c7] w1 fun en w' => en = .returned (.bool true) ∧ Below w1.heap.size w1 w' from fun w1 hb hy => by
      have h1 := collides_any HSUM.out X Y (some ⟨ba, oa, none⟩) (some ⟨g, 0, none⟩) c c7 w1 (HX.out.below (Nat.le_refl _) hb) hy HYL.out.symm (good_each HG.out) (HKG.out h)
      rw [HYL.out, HPQ.out.1 h] at h1
      exact h1)
    have HLE := Lib.hid' HPQ.out.2
    clear hth h1m hzm2 hzm hzx H7 HKG HPQ HFL HXE HXF HXO HMO HM37
    generalize (chkM Y).1 = k2 at *
    generalize (chkM Y).2 = n2 at *
    generalize w7.setCells g (k * 37) PM = w8 at *
    have HMY2 := Lib.hid' (fun w1 (hb : Below w8.heap.size w8 w1) => HMY.out.below (Nat.le_refl _) hb)
    clear H8
    go_upto_region 14 with (go_at_call 10; with_reducible (refine HCY.out.mono ?_); rintro e0 w9 ⟨rfl, hb9⟩)
    have HB9 := Lib.hid' (HB8.out.trans (hb9.mono HB8.out.size))
    have HMY9 := Lib.hid' (HMY2.out _ hb9)
    clear HCY hb9 HMY HMY2
    by_cases g2 : n2 = 0
    · have b2 : (n2 == 0) = true := by rw [beq_iff_eq]; exact g2
      have HCL9 := Lib.hid' (HCL.out g2 _ HB9.out HMY9.out)
      clear g2 HCL HLE
      go_wp2_with (go_at_call 12; with_reducible (refine HCL9.out.mono ?_); rintro e0 w10 ⟨rfl, hb10⟩)
      go_ret
      exact ⟨rfl, HB9.out.trans (hb10.mono HB9.out.size)⟩
    · have b2 : (n2 == 0) = false := by rw [beq_eq_false_iff_ne]; exact g2
      have hle := HLE.out g2
      have hk12 : (k : Int) + 1 ≤ 12 := by omega
      have e6 : IntKind.i64.wrap ((k : Int) + 1) = (k : Int) + 1 := IntWalk.i64_in _ (by omega)
      have hle' : (k2 : Int) ≤ (k : Int) + 1 := by omega
      clear g2 HCL HLE hle
      go_wp2_with fail
      go_ret
      exact ⟨by simp [hle'], HB9.out⟩
end Go.Proofs.YtlhlkdeaiobfaaaDoor
