/- Law 16 (chain): ChainChecks. -/
import Derived.Test.YtlhlkdeaiobfaaaDoorChkS
import Derived.Test.YtlhlkdeaiobfaaaDoorAlvS
import Derived.Deep.DeepCutAuto
import Derived.Deep.CutBlock
namespace Go.Proofs.YtlhlkdeaiobfaaaDoor
open Go.RowKit
set_option linter.unusedSimpArgs false
set_option linter.unusedVariables false
set_option maxRecDepth 100000

theorem last_congr {X Y : List MfP} (h : Y.map (·.1) = X.map (·.1)) : (lastM Y).1 = (lastM X).1 := by
  have hl : Y.length = X.length := by have := congrArg List.length h; simpa using this
  rcases Nat.eq_zero_or_pos X.length with h0 | h0
  · rw [lastM_nil h0, lastM_nil (by omega)]
  · obtain ⟨n, hn⟩ : ∃ n, X.length = n + 1 := ⟨X.length - 1, by omega⟩
    rw [lastM_in hn, lastM_in (show Y.length = n + 1 by omega)]
    have h1 : (Y.map (·.1))[n]? = (X.map (·.1))[n]? := by rw [h]
    rw [List.getElem?_map, List.getElem?_map, List.getElem?_eq_getElem (by omega), List.getElem?_eq_getElem (by omega)] at h1
    simpa using h1
theorem headN_congr {X Y : List MfP} (h : Y.map (·.1) = X.map (·.1)) : headN Y = headN X := by
  have hl : Y.length = X.length := by have := congrArg List.length h; simpa using this
  unfold headN; rw [hl, last_congr h]
theorem headD_congr {X Y : List MfP} (h : Y.map (·.1) = X.map (·.1)) : headD Y = headD X := by
  have hl : Y.length = X.length := by have := congrArg List.length h; simpa using this
  unfold headD; rw [hl, last_congr h]
theorem chk_congr : ∀ {X Y A B : List MfP}, Y.map (·.1) = X.map (·.1) → A.length = B.length → (lastM A).1 = (lastM B).1 → chk A Y = chk B X
  | [], [], A, B, _, h1, _ => by simp [chk, h1]
  | x :: X, [], _, _, h, _, _ => by simp at h
  | [], y :: Y, _, _, h, _, _ => by simp at h
  | x :: X, y :: Y, A, B, h, h1, h2 => by
    simp only [List.map_cons, List.cons.injEq] at h
    unfold chk
    rw [h.1, h1, fol_congr h1 h2, chk_congr (A := A ++ [y]) (B := B ++ [x]) h.2 (by simp [h1]) (by rw [last_snoc, last_snoc, h.1])]
theorem chkM_congr {X Y : List MfP} (h : Y.map (·.1) = X.map (·.1)) : chkM Y = chkM X := chk_congr h rfl rfl
theorem longM_12 {X : List MfP} (h : longM X = false) : X.length ≤ 12 ∧ ∀ x ∈ X, x.1.ps.length ≤ 12 := by
  unfold longM at h
  rw [Bool.or_eq_false_iff] at h
  refine ⟨by have := h.2; simp at this; omega, fun x hx => ?_⟩
  have := List.any_eq_false.1 h.1 x hx
  simp at this; omega
def findT (o : Option (Nat × Nat)) : Int × Int × Bool := match o with
  | some (i, k) => (i, k, true)
  | none => (0, 0, false)
theorem findV_T (o : Option (Nat × Nat)) : findV o = .tuple #[.int .i64 (findT o).1, .int .i64 (findT o).2.1, .bool (findT o).2.2] := by
  cases o with
  | none => rfl
  | some q => rfl
set_option maxHeartbeats 16000000 in
theorem chainChecks_any (HSum : RSumLaw) (X : List MfP) (a : Option Addr) (c : Nat) (z : Int) (w : World) (hX : MsAt w a c X) (hL : Laid w) :
    Calls Tryd.prog 5 #[.slice a X.length c, .int .i64 z] w fun en w' => en = .returned (.bool true) ∧ Below w.heap.size w w' := by
  have hlx := hX.len
  have HAL := Lib.hid' (alive16_any w hL)
  have HLX := Lib.hid' (fun w1 (H : Below w.heap.size w w1) => long16_any X a c w1 (hX.below (Nat.le_refl _) H))
  have HCX := Lib.hid' (fun w1 (H : Below w.heap.size w w1) => ccheck_any X a c w1 (hX.below (Nat.le_refl _) H) (hL.below (Nat.le_refl _) H))
  have HHX := Lib.hid' (fun w1 (H : Below w.heap.size w w1) => head_any X a c w1 (hX.below (Nat.le_refl _) H) (hL.below (Nat.le_refl _) H))
  have HX := Lib.hid' hX
  have HSU := Lib.hid' HSum
  clear hX hL HSum
  go_enter Tryd.func5, Tryd.ntmps5
  go_upto_region 3 with (go_at_call 8; (with_reducible refine HAL.out.mono ?_); rintro e0 w1 ⟨rfl, hb1⟩)
  have HB1 := Lib.hid' hb1
  have HLX1 := Lib.hid' (HLX.out w1 hb1)
  clear HAL HLX hb1
  cases hlgx : longM X with
  | true =>
    rw [hlgx] at HLX1
    go_wp2_with (go_at_call 9; (with_reducible refine HLX1.out.mono ?_); rintro e0 w2 ⟨rfl, hb2⟩)
    go_ret
    exact ⟨rfl, HB1.out.trans (hb2.mono HB1.out.size)⟩
  | false =>
  rw [hlgx] at HLX1
  have HL12 := Lib.hid' (longM_12 hlgx)
  have hx12 := HL12.out.1
  clear hlgx
  go_upto_region 5 with (go_at_call 9; (with_reducible refine HLX1.out.mono ?_); rintro e0 w2 ⟨rfl, hb2⟩)
  have HB2 := Lib.hid' (HB1.out.trans (hb2.mono HB1.out.size))
  have HDO := Lib.hid' (documents_any X a c w2 (HX.out.below (Nat.le_refl _) HB2.out) HL12.out.1 HL12.out.2)
  clear HLX1 HB1 hb2 HL12
  go_upto_region 6 with (go_at_call 16; (with_reducible refine HDO.out.mono ?_); rintro e0 w3 ⟨yb, yd, Y, rfl, hym, hya, hb3⟩)
  have HB3 := Lib.hid' (HB2.out.trans (hb3.mono HB2.out.size))
  have HYL := Lib.hid' (show Y.length = X.length by have := congrArg List.length hym; simpa using this)
  have HCY := Lib.hid' (fun w1 (H : Below w3.heap.size w3 w1) => rchk_any HSU.out Y yb yd w1 (hya.below (Nat.le_refl _) H))
  have HHY := Lib.hid' (fun w1 (H : Below w3.heap.size w3 w1) => rhead_any HSU.out Y yb yd w1 (hya.below (Nat.le_refl _) H))
  rw [chkM_congr hym, HYL.out] at HCY
  rw [headD_congr hym, headN_congr hym, HYL.out] at HHY
  have hdx := headD_len X
  have HEQ := Lib.hid' (fun wq => eqD3 (headD X) (headD X) hdx hdx wq)
  have hz1 : (Tryd.prog.info? 24).map (·.size) = some (byteVs (headD X)).length := by rw [byteVs_length, hdx]; exact dig_size
  have hz3 : (Tryd.prog.info? 48).map (·.size) = some (byteVs (headD X)).length := by rw [byteVs_length, hdx]; exact rd_size
  have hl0 : zeroD.length = (byteVs (headD X)).length := by rw [byteVs_length, hdx]; rfl
  have h1d : (byteVs (headD X)).all (·.oneCell') = true := List.all_eq_true.2 (byteVs_one _)
  have HCX3 := Lib.hid' (HCX.out _ HB3.out)
  rw [show (headD X == headD X) = true from beq_self_eq_true _] at HEQ
  clear HDO HB2 hb3 hym hya HYL hdx HCX
  generalize byteVs (headD X) = D at *
  generalize headN X = n2 at *
  generalize (chkM X).1 = k1 at *
  generalize (chkM X).2 = n1 at *
  go_upto_region 7 with (go_at_call 10; (with_reducible refine HCX3.out.mono ?_); rintro e0 w4 ⟨rfl, hb4⟩)
  have HB4 := Lib.hid' (HB3.out.trans (hb4.mono HB3.out.size))
  have HCY4 := Lib.hid' (HCY.out _ hb4)
  have HW4 := Lib.hid' hb4
  clear HCX3 hb4 HCY
  go_upto_region 8 with (go_at_call 17; (with_reducible refine HCY4.out.mono ?_); rintro e0 w5 ⟨rfl, hb5⟩)
  have HB5 := Lib.hid' (HB4.out.trans (hb5.mono HB4.out.size))
  have HW5 := Lib.hid' (HW4.out.trans (hb5.mono HW4.out.size))
  have HHX5 := Lib.hid' (HHX.out _ HB5.out)
  clear HCY4 hb5 HW4 HB4 HHX
  go_upto_region 9 with (first | (go_at_call 14; (with_reducible refine HHX5.out.mono ?_); rintro e0 w6 ⟨rfl, hb6⟩; have HD : Sep w5 NoF [.box w6.heap.size zeroD 24] (w6.alloc (.cells #[.int .u8 0, .int .u8 0, .int .u8 0, .int .u8 0, .int .u8 0, .int .u8 0, .int .u8 0, .int .u8 0, .int .u8 0, .int .u8 0, .int .u8 0, .int .u8 0, .int .u8 0, .int .u8 0, .int .u8 0, .int .u8 0, .int .u8 0, .int .u8 0, .int .u8 0, .int .u8 0, .int .u8 0, .int .u8 0, .int .u8 0, .int .u8 0, .int .u8 0, .int .u8 0, .int .u8 0, .int .u8 0, .int .u8 0, .int .u8 0, .int .u8 0, .int .u8 0] 24)) := (Sep.nof hb6).allocAt w6.heap.size zeroD 24 rfl) | (refine Sep.storeB HD 0 rfl rfl 24 (.tmp 10) (.tmp 43) rfl D rfl rfl hz1 hl0 h1d ?_))
  have H1 := HD.setRow 0 rfl D
  generalize (w6.alloc (.cells #[.int .u8 0, .int .u8 0, .int .u8 0, .int .u8 0, .int .u8 0, .int .u8 0, .int .u8 0, .int .u8 0, .int .u8 0, .int .u8 0, .int .u8 0, .int .u8 0, .int .u8 0, .int .u8 0, .int .u8 0, .int .u8 0, .int .u8 0, .int .u8 0, .int .u8 0, .int .u8 0, .int .u8 0, .int .u8 0, .int .u8 0, .int .u8 0, .int .u8 0, .int .u8 0, .int .u8 0, .int .u8 0, .int .u8 0, .int .u8 0, .int .u8 0, .int .u8 0] 24)).setRow w6.heap.size D.toArray = w7 at *
  generalize w6.heap.size = N10 at *
  have HHY7 := Lib.hid' (HHY.out _ (HW5.out.trans (H1.toBelow.mono HW5.out.size)))
  clear HD hb6 HHX5 HHY HW5
  go_upto_region 10 with (first | (go_at_call 18; (with_reducible refine HHY7.out.mono ?_); rintro e0 w8 ⟨rfl, hb8⟩; have HD : Sep w5 NoF [.box w8.heap.size zeroD 48, .box N10 D 24] (w8.alloc (.cells #[.int .u8 0, .int .u8 0, .int .u8 0, .int .u8 0, .int .u8 0, .int .u8 0, .int .u8 0, .int .u8 0, .int .u8 0, .int .u8 0, .int .u8 0, .int .u8 0, .int .u8 0, .int .u8 0, .int .u8 0, .int .u8 0, .int .u8 0, .int .u8 0, .int .u8 0, .int .u8 0, .int .u8 0, .int .u8 0, .int .u8 0, .int .u8 0, .int .u8 0, .int .u8 0, .int .u8 0, .int .u8 0, .int .u8 0, .int .u8 0, .int .u8 0, .int .u8 0] 48)) := (H1.below hb8).allocAt w8.heap.size zeroD 48 rfl) | (refine Sep.storeB HD 0 rfl rfl 48 (.tmp 12) (.tmp 48) rfl D rfl rfl hz3 hl0 h1d ?_))
  have H2 := HD.setRow 0 rfl D
  generalize (w8.alloc (.cells #[.int .u8 0, .int .u8 0, .int .u8 0, .int .u8 0, .int .u8 0, .int .u8 0, .int .u8 0, .int .u8 0, .int .u8 0, .int .u8 0, .int .u8 0, .int .u8 0, .int .u8 0, .int .u8 0, .int .u8 0, .int .u8 0, .int .u8 0, .int .u8 0, .int .u8 0, .int .u8 0, .int .u8 0, .int .u8 0, .int .u8 0, .int .u8 0, .int .u8 0, .int .u8 0, .int .u8 0, .int .u8 0, .int .u8 0, .int .u8 0, .int .u8 0, .int .u8 0] 48)).setRow w8.heap.size D.toArray = w9 at *
  generalize w8.heap.size = N12 at *
  have HB9 := Lib.hid' (HB5.out.trans (H2.toBelow.mono HB5.out.size))
  have hr0 := (H2.box 0 rfl).range
  have hr1 := (H2.box 1 rfl).range
  have HQ := HEQ.out
  clear HD hb8 HHY7 H1 H2 HB5 HB3 HEQ hl0 h1d
  go_upto_region 12 with (first | (go_at_call 19; refine (num16_any _ _).mono ?_; rintro e0 wz ⟨rfl, rfl⟩) | (refine wpList_load_atG hr1 (by kernel_rfl) 24 (.tmp 10) rfl rfl _ Tryd.underlying24 rfl hz1 ?_) | (refine wpList_load_atG hr0 (by kernel_rfl) 48 (.tmp 12) rfl rfl _ Tryd.underlying48 rfl hz3 ?_))
  clear HQ hr0 hr1 hz1 hz3
  have HXr := Lib.hid' (HX.out.below (Nat.le_refl _) HB9.out)
  go_upto_if 72 with fail
  go_cut [14, 15, 16] (fun v14 v15 v16 wc => v14 = .int .i64 (beginM X) ∧ v15 = .int .i64 (lastM X).1.t ∧ v16 = .int .i64 (lastM X).1.r ∧ Hid (Below w.heap.size w wc))
  case first =>
    rcases Nat.eq_zero_or_pos X.length with h0 | h0
    · have h0' : ¬ (0 : Int) < (X.length : Int) := by omega
      have HV := Lib.hid' (show beginM X = 0 ∧ (lastM X).1.t = 0 ∧ (lastM X).1.r = 0 by
        rw [List.eq_nil_of_length_eq_zero h0]; exact ⟨rfl, rfl, rfl⟩)
      clear h0
      go_wp2_with fail
      go_meet
      exact ⟨by rw [HV.out.1], by rw [HV.out.2.1], by rw [HV.out.2.2], HB9⟩
    · have h0' : (0 : Int) < (X.length : Int) := by omega
      obtain ⟨n, hn⟩ : ∃ n, X.length = n + 1 := ⟨X.length - 1, by omega⟩
      have e1 : IntKind.i64.wrap ((X.length : Int) - 1) = (n : Int) := by rw [show (X.length : Int) - 1 = (n : Int) by omega]; exact IntWalk.i64_in _ (by omega)
      have e1' : (X.length : Int) - 1 = (n : Int) := by omega
      have hnl : (n : Int) < (X.length : Int) := by omega
      have HBG := Lib.hid' (show beginM X = (X[0]'(by omega)).1.f by
        unfold beginM; rw [List.head?_eq_getElem?, List.getElem?_eq_getElem (by omega)]; rfl)
      have HLA := Lib.hid' (lastM_in hn)
      obtain ⟨ba, oa, rfl, hba, hr0⟩ := MsAt.at HXr.out (k := 0) (by omega)
      obtain ⟨b2, o2, he, _, hrn⟩ := MsAt.at HXr.out (k := n) (by omega)
      simp only [Option.some.injEq, Addr.mk.injEq] at he
      obtain ⟨rfl, rfl, _⟩ := he
      have HCL := Lib.hid' (fun wq (hb : Below w9.heap.size w9 wq) => show wq.cell? ⟨ba, oa + 1, none⟩ = some (.int .i64 (beginM X)) ∧ wq.cell? ⟨ba, oa + n * 37 + 2, none⟩ = some (.int .i64 (lastM X).1.t) ∧ wq.cell? ⟨ba, oa + n * 37 + 3, none⟩ = some (.int .i64 (lastM X).1.r) from by
        rw [HBG.out, HLA.out]
        have q0 := World.rangeAt.below hr0 hb
        have qn := World.rangeAt.below hrn hb
        refine ⟨?_, qn 2 _ rfl, qn 3 _ rfl⟩
        have := q0 1 (.int .i64 (X[0]'(by omega)).1.f) rfl
        rwa [Nat.zero_mul, Nat.add_zero] at this)
      clear hr0 hrn hba hn h0 HBG HLA
      generalize beginM X = g1 at *
      generalize (lastM X).1.t = g2 at *
      generalize (lastM X).1.r = g3 at *
      go_upto_region 14 with fail
      refine startD (S := (fun w' => Below w9.heap.size w9 w')) (by kernel_rfl) ((Below.refl _ _).drew) (fun hH0 => ?_)
      simp only [List.length_cons, List.length_nil, Nat.reduceAdd, List.replicate_succ, List.replicate_zero]
      refine takeD (i := 0) (d := 73) (v := .slice (some ⟨ba, oa, none⟩) X.length c) rfl rfl (by kernel_rfl) (by kernel_rfl) (by kernel_rfl) (fun _ _ _ h => h) (yldV [(0, .slice (some ⟨ba, oa, none⟩) X.length c)] (by kernel_rfl) rfl (by kernel_rfl) ?_) hH0 ?_
      · intro w hSw; go_simp
      dsimp only [List.set_cons_zero, List.set_cons_succ]
      refine takeD (i := 1) (d := 74) (v := .pointer (some ⟨ba, oa, none⟩)) rfl rfl (by kernel_rfl) (by kernel_rfl) (by kernel_rfl) (fun _ _ _ h => h) (yldV [(73, .slice (some ⟨ba, oa, none⟩) X.length c)] (by kernel_rfl) rfl (by kernel_rfl) ?_) hH0 ?_
      · intro w hSw; first | (go_simp; done) | (go_simp; intro hh; exfalso; omega) | (go_simp; omega)
      dsimp only [List.set_cons_zero, List.set_cons_succ]
      refine takeD (i := 2) (d := 75) (v := .pointer (some ⟨ba, oa + 1, none⟩)) rfl rfl (by kernel_rfl) (by kernel_rfl) (by kernel_rfl) (fun _ _ _ h => h) (yldV [(74, .pointer (some ⟨ba, oa, none⟩))] (by kernel_rfl) rfl (by kernel_rfl) ?_) hH0 ?_
      · intro w hSw; go_simp
      dsimp only [List.set_cons_zero, List.set_cons_succ]
      refine takeD (i := 3) (d := 76) (v := .int .i64 g1) rfl rfl (by kernel_rfl) (by kernel_rfl) (by kernel_rfl) (fun _ _ _ h => h) (yldV [(75, .pointer (some ⟨ba, oa + 1, none⟩))] (by kernel_rfl) rfl (by kernel_rfl) ?_) hH0 ?_
      · intro w hSw; have q := (HCL.out w hSw); obtain ⟨q0, q2, q3⟩ := q; go_simp
      dsimp only [List.set_cons_zero, List.set_cons_succ]
      refine takeD (i := 4) (d := 77) (v := .slice (some ⟨ba, oa, none⟩) X.length c) rfl rfl (by kernel_rfl) (by kernel_rfl) (by kernel_rfl) (fun _ _ _ h => h) (yldV [(0, .slice (some ⟨ba, oa, none⟩) X.length c)] (by kernel_rfl) rfl (by kernel_rfl) ?_) hH0 ?_
      · intro w hSw; go_simp
      dsimp only [List.set_cons_zero, List.set_cons_succ]
      refine takeD (i := 5) (d := 78) (v := .slice (some ⟨ba, oa, none⟩) X.length c) rfl rfl (by kernel_rfl) (by kernel_rfl) (by kernel_rfl) (fun _ _ _ h => h) (yldV [(0, .slice (some ⟨ba, oa, none⟩) X.length c)] (by kernel_rfl) rfl (by kernel_rfl) ?_) hH0 ?_
      · intro w hSw; go_simp
      dsimp only [List.set_cons_zero, List.set_cons_succ]
      refine takeD (i := 6) (d := 79) (v := .int .i64 (X.length : Int)) rfl rfl (by kernel_rfl) (by kernel_rfl) (by kernel_rfl) (fun _ _ _ h => h) (yldV [(78, .slice (some ⟨ba, oa, none⟩) X.length c)] (by kernel_rfl) rfl (by kernel_rfl) ?_) hH0 ?_
      · intro w hSw; go_simp
      dsimp only [List.set_cons_zero, List.set_cons_succ]
      refine takeD (i := 7) (d := 80) (v := .int .i64 (n : Int)) rfl rfl (by kernel_rfl) (by kernel_rfl) (by kernel_rfl) (fun _ _ _ h => h) (yldV [(79, .int .i64 (X.length : Int))] (by kernel_rfl) rfl (by kernel_rfl) ?_) hH0 ?_
      · intro w hSw; first | (go_simp; done) | (go_simp; exact e1) | (go_simp; exact IntWalk.i64_in _ (by omega)) | (go_simp; omega)
      dsimp only [List.set_cons_zero, List.set_cons_succ]
      refine takeD (i := 8) (d := 81) (v := .pointer (some ⟨ba, oa + n * 37, none⟩)) rfl rfl (by kernel_rfl) (by kernel_rfl) (by kernel_rfl) (fun _ _ _ h => h) (yldV [(77, .slice (some ⟨ba, oa, none⟩) X.length c), (80, .int .i64 (n : Int))] (by kernel_rfl) rfl (by kernel_rfl) ?_) hH0 ?_
      · intro w hSw; first | (go_simp; done) | (go_simp; intro hh; exfalso; omega) | (go_simp; omega)
      dsimp only [List.set_cons_zero, List.set_cons_succ]
      refine takeD (i := 9) (d := 82) (v := .pointer (some ⟨ba, oa + n * 37 + 2, none⟩)) rfl rfl (by kernel_rfl) (by kernel_rfl) (by kernel_rfl) (fun _ _ _ h => h) (yldV [(81, .pointer (some ⟨ba, oa + n * 37, none⟩))] (by kernel_rfl) rfl (by kernel_rfl) ?_) hH0 ?_
      · intro w hSw; go_simp
      dsimp only [List.set_cons_zero, List.set_cons_succ]
      refine takeD (i := 10) (d := 83) (v := .int .i64 g2) rfl rfl (by kernel_rfl) (by kernel_rfl) (by kernel_rfl) (fun _ _ _ h => h) (yldV [(82, .pointer (some ⟨ba, oa + n * 37 + 2, none⟩))] (by kernel_rfl) rfl (by kernel_rfl) ?_) hH0 ?_
      · intro w hSw; have q := (HCL.out w hSw); obtain ⟨q0, q2, q3⟩ := q; go_simp
      dsimp only [List.set_cons_zero, List.set_cons_succ]
      refine takeD (i := 11) (d := 84) (v := .slice (some ⟨ba, oa, none⟩) X.length c) rfl rfl (by kernel_rfl) (by kernel_rfl) (by kernel_rfl) (fun _ _ _ h => h) (yldV [(0, .slice (some ⟨ba, oa, none⟩) X.length c)] (by kernel_rfl) rfl (by kernel_rfl) ?_) hH0 ?_
      · intro w hSw; go_simp
      dsimp only [List.set_cons_zero, List.set_cons_succ]
      refine takeD (i := 12) (d := 85) (v := .slice (some ⟨ba, oa, none⟩) X.length c) rfl rfl (by kernel_rfl) (by kernel_rfl) (by kernel_rfl) (fun _ _ _ h => h) (yldV [(0, .slice (some ⟨ba, oa, none⟩) X.length c)] (by kernel_rfl) rfl (by kernel_rfl) ?_) hH0 ?_
      · intro w hSw; go_simp
      dsimp only [List.set_cons_zero, List.set_cons_succ]
      refine takeD (i := 13) (d := 86) (v := .int .i64 (X.length : Int)) rfl rfl (by kernel_rfl) (by kernel_rfl) (by kernel_rfl) (fun _ _ _ h => h) (yldV [(85, .slice (some ⟨ba, oa, none⟩) X.length c)] (by kernel_rfl) rfl (by kernel_rfl) ?_) hH0 ?_
      · intro w hSw; go_simp
      dsimp only [List.set_cons_zero, List.set_cons_succ]
      refine takeD (i := 14) (d := 87) (v := .int .i64 (n : Int)) rfl rfl (by kernel_rfl) (by kernel_rfl) (by kernel_rfl) (fun _ _ _ h => h) (yldV [(86, .int .i64 (X.length : Int))] (by kernel_rfl) rfl (by kernel_rfl) ?_) hH0 ?_
      · intro w hSw; first | (go_simp; done) | (go_simp; exact e1) | (go_simp; exact IntWalk.i64_in _ (by omega)) | (go_simp; omega)
      dsimp only [List.set_cons_zero, List.set_cons_succ]
      refine takeD (i := 15) (d := 88) (v := .pointer (some ⟨ba, oa + n * 37, none⟩)) rfl rfl (by kernel_rfl) (by kernel_rfl) (by kernel_rfl) (fun _ _ _ h => h) (yldV [(84, .slice (some ⟨ba, oa, none⟩) X.length c), (87, .int .i64 (n : Int))] (by kernel_rfl) rfl (by kernel_rfl) ?_) hH0 ?_
      · intro w hSw; first | (go_simp; done) | (go_simp; intro hh; exfalso; omega) | (go_simp; omega)
      dsimp only [List.set_cons_zero, List.set_cons_succ]
      refine takeD (i := 16) (d := 89) (v := .pointer (some ⟨ba, oa + n * 37 + 3, none⟩)) rfl rfl (by kernel_rfl) (by kernel_rfl) (by kernel_rfl) (fun _ _ _ h => h) (yldV [(88, .pointer (some ⟨ba, oa + n * 37, none⟩))] (by kernel_rfl) rfl (by kernel_rfl) ?_) hH0 ?_
      · intro w hSw; go_simp
      dsimp only [List.set_cons_zero, List.set_cons_succ]
      refine takeD (i := 17) (d := 90) (v := .int .i64 g3) rfl rfl (by kernel_rfl) (by kernel_rfl) (by kernel_rfl) (fun _ _ _ h => h) (yldV [(89, .pointer (some ⟨ba, oa + n * 37 + 3, none⟩))] (by kernel_rfl) rfl (by kernel_rfl) ?_) hH0 ?_
      · intro w hSw; have q := (HCL.out w hSw); obtain ⟨q0, q2, q3⟩ := q; go_simp
      dsimp only [List.set_cons_zero, List.set_cons_succ]
      refine takeD (i := 18) (d := 14) (v := .int .i64 g1) rfl rfl (by kernel_rfl) (by kernel_rfl) (by kernel_rfl) (fun _ _ _ h => h) (yldV [(76, .int .i64 g1)] (by kernel_rfl) rfl (by kernel_rfl) ?_) hH0 ?_
      · intro w hSw; go_simp
      dsimp only [List.set_cons_zero, List.set_cons_succ]
      refine takeD (i := 19) (d := 15) (v := .int .i64 g2) rfl rfl (by kernel_rfl) (by kernel_rfl) (by kernel_rfl) (fun _ _ _ h => h) (yldV [(83, .int .i64 g2)] (by kernel_rfl) rfl (by kernel_rfl) ?_) hH0 ?_
      · intro w hSw; go_simp
      dsimp only [List.set_cons_zero, List.set_cons_succ]
      refine takeD (i := 20) (d := 16) (v := .int .i64 g3) rfl rfl (by kernel_rfl) (by kernel_rfl) (by kernel_rfl) (fun _ _ _ h => h) (yldV [(90, .int .i64 g3)] (by kernel_rfl) rfl (by kernel_rfl) ?_) hH0 ?_
      · intro w hSw; go_simp
      dsimp only [List.set_cons_zero, List.set_cons_succ]
      refine wpAnyH_done (by kernel_rfl) ?_ _
      have HBE := Lib.hid' (HB9.out.trans (Below.mono hH0 HB9.out.size))
      go_wp2_with fail
      go_meet
      exact ⟨rfl, rfl, rfl, HBE⟩
  case rest =>
  obtain ⟨rfl, rfl, rfl, HBC⟩ := hcut
  have HBE := Lib.hid' (fun w1 (H : Below w.heap.size w w1) => begin_any X a c w1 (HX.out.below (Nat.le_refl _) H))
  have HEN := Lib.hid' (fun w1 (H : Below w.heap.size w w1) => end_any X a c w1 (HX.out.below (Nat.le_refl _) H))
  have HMA := Lib.hid' (fun w1 (H : Below w.heap.size w w1) => mark_any X a c w1 (HX.out.below (Nat.le_refl _) H))
  have HFI := Lib.hid' (fun w1 (H : Below w.heap.size w w1) => cfind_any X a c z w1 (HX.out.below (Nat.le_refl _) H))
  rw [findV_T] at HFI
  obtain ⟨T, hT⟩ : ∃ T, T = findT (findM 0 X z) := ⟨_, rfl⟩
  have HT := Lib.hid' hT
  rw [← hT] at HFI
  obtain ⟨fi, fk, fb⟩ := T
  clear hT HXr HB9
  generalize beginM X = g1 at *
  generalize (lastM X).1.t = g2 at *
  generalize (lastM X).1.r = g3 at *
  have HBE0 := Lib.hid' (HBE.out _ HBC.out)
  have HEN0 := Lib.hid' (HEN.out _ HBC.out)
  go_upto_region 17 with (first | (go_at_call 20; (with_reducible refine HBE0.out.mono ?_); rintro e0 wz ⟨rfl, rfl⟩) | (go_at_call 21; (with_reducible refine HEN0.out.mono ?_); rintro e0 wa ⟨rfl, hba⟩; have HBA := Lib.hid' (HBC.out.trans (hba.mono HBC.out.size)); have HMA0 := Lib.hid' (HMA.out _ HBA.out)) | (go_at_call 22; (with_reducible refine HMA0.out.mono ?_); rintro e0 wb ⟨rfl, hbb⟩))
  have HBB := Lib.hid' (HBA.out.trans (hbb.mono HBA.out.size))
  have HFI0 := Lib.hid' (HFI.out _ HBB.out)
  clear HBE HEN HMA HFI HBE0 HEN0 HMA0 hba hbb HBC HBA
  go_upto_region 18 with (go_at_call 23; (with_reducible refine HFI0.out.mono ?_); rintro e0 wd ⟨rfl, hbd⟩)
  have HBD := Lib.hid' (HBB.out.trans (hbd.mono HBB.out.size))
  clear HFI0 HBB hbd
  go_wp2_with fail
  go_loopw [116] (fun v116 wr => ∃ k : Nat, v116 = .int .i64 (k : Nat) ∧ k ≤ X.length ∧ Hid (findM 0 X z = findM k (X.drop k) z) ∧ Hid (Below w.heap.size w wr)) (fun v116 _ => X.length - (intOf v116).toNat)
  case atStart => exact ⟨0, rfl, Nat.zero_le _, Lib.hid' (by rw [List.drop_zero]), HBD⟩
  case round =>
    clear HBD
    obtain ⟨k, rfl, hk, HF, HB⟩ := hrel
    by_cases hlt : k < X.length
    · have hlt' : (k : Int) < (X.length : Int) := by omega
      have HXr := Lib.hid' (HX.out.below (Nat.le_refl _) HB.out)
      obtain ⟨ba, oa, rfl, hba, hra⟩ := MsAt.at HXr.out hlt
      have ex := HXr.out.each _ (List.getElem_mem hlt)
      have ox := HX.out.ok _ (List.getElem_mem hlt)
      have HN := Lib.hid' (HF.out.trans (findM_next hlt z))
      clear HXr HF
      generalize X[k] = xp at *
      obtain ⟨x, pa, pc⟩ := xp
      replace hra : wr.rangeAt ba (oa + k * 37) (mfV x pa pc) := hra
      have hzm : (Tryd.prog.info? 27).map (·.size) = some (mfV x pa pc).length := by rw [mfV_len ox]; exact mf_size
      have hz2 : zeroMV.length = (mfV x pa pc).length := by rw [mfV_len ox]; rfl
      have hone : (mfV x pa pc).all (·.oneCell') = true := List.all_eq_true.2 mfV_one
      have HMF := Lib.hid' (fun w1 (H : Below wr.heap.size wr w1) => mfind_any x pa pc z w1 ox (ex.below (Nat.le_refl _) H))
      have HZ : Sep wr NoF [.box wr.heap.size zeroMV 27] (wr.alloc (.cells #[.int .i64 0, .int .i64 0, .int .i64 0, .int .i64 0, .int .u8 0, .int .u8 0, .int .u8 0, .int .u8 0, .int .u8 0, .int .u8 0, .int .u8 0, .int .u8 0, .int .u8 0, .int .u8 0, .int .u8 0, .int .u8 0, .int .u8 0, .int .u8 0, .int .u8 0, .int .u8 0, .int .u8 0, .int .u8 0, .int .u8 0, .int .u8 0, .int .u8 0, .int .u8 0, .int .u8 0, .int .u8 0, .int .u8 0, .int .u8 0, .int .u8 0, .int .u8 0, .int .u8 0, .int .u8 0, .int .u8 0, .int .u8 0, .slice none 0 0] 27)) := (Sep.start wr).allocAt wr.heap.size zeroMV 27 rfl
      have HBX := HZ.setRow 0 rfl (mfV x pa pc)
      replace HN : Hid (findM 0 X z = if 0 ≤ mfind x z then some (k, (mfind x z).toNat) else findM (k + 1) (X.drop (k + 1)) z) := HN
      clear ex ox hba
      generalize mfV x pa pc = PX at *
      generalize mfind x z = mf at *
      go_upto_region 21 with (first | (refine wpList_load_at hra rfl 27 (.tmp 119) rfl rfl _ Tryd.underlying27 rfl hzm ?_) | (refine Sep.storeB HZ 0 rfl rfl 27 (.tmp 21) (.tmp 120) rfl PX rfl rfl hzm hz2 hone ?_))
      have HMF5 := Lib.hid' (HMF.out _ HBX.toBelow)
      have HB5 := Lib.hid' (HB.out.trans (HBX.toBelow.mono HB.out.size))
      clear HZ hra hz2 hone HMF
      generalize (wr.alloc (.cells #[.int .i64 0, .int .i64 0, .int .i64 0, .int .i64 0, .int .u8 0, .int .u8 0, .int .u8 0, .int .u8 0, .int .u8 0, .int .u8 0, .int .u8 0, .int .u8 0, .int .u8 0, .int .u8 0, .int .u8 0, .int .u8 0, .int .u8 0, .int .u8 0, .int .u8 0, .int .u8 0, .int .u8 0, .int .u8 0, .int .u8 0, .int .u8 0, .int .u8 0, .int .u8 0, .int .u8 0, .int .u8 0, .int .u8 0, .int .u8 0, .int .u8 0, .int .u8 0, .int .u8 0, .int .u8 0, .int .u8 0, .int .u8 0, .slice none 0 0] 27)).setRow wr.heap.size PX.toArray = w5 at *
      generalize wr.heap.size = N5 at *
      by_cases hm : 0 ≤ mf
      · have hT2 := HT.out
        rw [HN.out, if_pos hm] at hT2
        simp only [findT, Prod.mk.injEq] at hT2
        obtain ⟨rfl, rfl, rfl⟩ := hT2
        obtain ⟨m, rfl⟩ := Int.eq_ofNat_of_zero_le hm
        have d1 : decide ((0 : Int) ≤ (m : Int)) = true := by simp
        have d2 : max (m : Int) 0 = (m : Int) := by omega
        rw [d1, d2] at HMF5
        rw [Int.toNat_natCast]
        clear hm HT HN d1 d2
        go_wp2_with (first | (refine Sep.loadB HBX 0 rfl rfl 27 (.tmp 21) rfl rfl _ Tryd.underlying27 rfl hzm ?_) | (go_at_call 24; (with_reducible refine HMF5.out.mono ?_); rintro e0 w6 ⟨rfl, hb6⟩))
        go_ret
        exact ⟨by simp, HB5.out.trans (hb6.mono HB5.out.size)⟩
      · have d1 : decide ((0 : Int) ≤ mf) = false := by simpa using hm
        rw [d1] at HMF5
        have HF2 := Lib.hid' (HN.out.trans (if_neg hm))
        clear hm HN d1
        generalize max mf 0 = mm at *
        go_wp2_with (first | (refine Sep.loadB HBX 0 rfl rfl 27 (.tmp 21) rfl rfl _ Tryd.underlying27 rfl hzm ?_) | (go_at_call 24; (with_reducible refine HMF5.out.mono ?_); rintro e0 w6 ⟨rfl, hb6⟩))
        have HB6 := Lib.hid' (HB5.out.trans (hb6.mono HB5.out.size))
        go_roundw
        case rel => exact ⟨k + 1, by go_num, by omega, HF2, HB6⟩
        case measure => simp [intOf]; omega
    · obtain rfl : k = X.length := by omega
      have hT2 := HT.out
      rw [HF.out, List.drop_length] at hT2
      simp only [findM, findT, Prod.mk.injEq] at hT2
      obtain ⟨rfl, rfl, rfl⟩ := hT2
      clear hlt hk HF HT
      go_wp2_with fail
      go_ret
      exact ⟨by simp, HB.out⟩
end Go.Proofs.YtlhlkdeaiobfaaaDoor
