/- Law 21 (plan): PlanEnds, PlanCovers. -/
import Derived.Test.YtlhlkdeaiobfaaaDoorPlnC
namespace Go.Proofs.YtlhlkdeaiobfaaaDoor
open Go.RowKit
set_option linter.unusedSimpArgs false
set_option linter.unusedVariables false
set_option maxRecDepth 100000

theorem planOf_err {X : List MfP} {n : Int} (h : (planOf X n).1 ≠ 0) : (planOf X n).2 = zeroPln := by
  unfold planOf at h ⊢
  split
  · rfl
  · rename_i h1
    rw [if_neg h1] at h
    split
    · rfl
    · rename_i h2
      rw [if_neg h2] at h
      split
      · rfl
      · rename_i h3
        rw [if_neg h3] at h
        exact absurd rfl h
theorem planOf_ok {X : List MfP} {n : Int} (h : (planOf X n).1 = 0) : Good [] X ∧ X ≠ [] ∧ beginM X ≤ n ∧ n ≤ (lastM X).1.t ∧ planOf X n = (0, ⟨n, beginM X, markAt X n, planItems n (markAt X n) X⟩) := by
  unfold planOf at h ⊢
  split at h
  · rename_i h1; exact absurd h h1
  · rename_i h1
    rw [if_neg h1]
    split at h
    · cases h
    · rename_i h2
      rw [if_neg h2]
      split at h
      · cases h
      · rename_i h3
        rw [if_neg h3]
        exact ⟨good_of_chk (A := []) (Classical.byContradiction h1), fun e => h2 (by rw [e]; rfl), by omega, by omega, rfl⟩
theorem planOf_at {X : List MfP} {n : Int} (hg : Good [] X) (hne : X ≠ []) (h1 : beginM X ≤ n) (h2 : n ≤ (lastM X).1.t) : planOf X n = (0, ⟨n, beginM X, markAt X n, planItems n (markAt X n) X⟩) := by
  unfold planOf chkM
  rw [chk_of_good hg, if_neg (by simp), if_neg (fun h => hne (List.eq_nil_of_length_eq_zero h)), if_neg (by omega)]
theorem longM_len {X : List MfP} (h : longM X = false) : X.length ≤ 12 := by
  unfold longM at h
  rw [Bool.or_eq_false_iff] at h
  have := h.2
  simp at this; omega
theorem lastM_ok {w : World} {a : Option Addr} {c : Nat} {X : List MfP} (h : MsAt w a c X) : (lastM X).1.ok := h.last.2
theorem beginM_ir {w : World} {a : Option Addr} {c : Nat} {X : List MfP} (h : MsAt w a c X) : IR (beginM X) := by
  cases X with
  | nil => exact ir_0
  | cons x L => exact (h.ok x List.mem_cons_self).f
set_option maxHeartbeats 16000000 in
theorem planEnds_any (X : List MfP) (a : Option Addr) (c : Nat) (w : World) (hX : MsAt w a c X) (hL : Laid w) :
    Calls Tryd.prog 6 #[.slice a X.length c] w fun e w' => e = .returned (.bool true) ∧ Below w.heap.size w w' := by
  have hlen := hX.len
  have HAL := Lib.hid' (alive21_any w hL)
  have HLG := Lib.hid' (fun w1 (H : Below w.heap.size w w1) => long16_any X a c w1 (hX.below (Nat.le_refl _) H))
  have HCK := Lib.hid' (fun w1 (H : Below w.heap.size w w1) => ccheck_any X a c w1 (hX.below (Nat.le_refl _) H) (hL.below (Nat.le_refl _) H))
  have HBG := Lib.hid' (fun w1 (H : Below w.heap.size w w1) => begin_any X a c w1 (hX.below (Nat.le_refl _) H))
  have HEN := Lib.hid' (fun w1 (H : Below w.heap.size w w1) => end_any X a c w1 (hX.below (Nat.le_refl _) H))
  have HMK := Lib.hid' (fun w1 (H : Below w.heap.size w w1) => mark_any X a c w1 (hX.below (Nat.le_refl _) H))
  have hie := (lastM_ok hX).t
  have hib := beginM_ir hX
  have HPL := Lib.hid' (fun n (hn : IR n) (hxl : X.length ≤ 1048576) w1 (H : Below w.heap.size w w1) => plan_any X a c n w1 (hX.below (Nat.le_refl _) H) (hL.below (Nat.le_refl _) H) hxl hn)
  clear hX hL
  go_enter Tryd.func6, Tryd.ntmps6
  go_upto_region 3 with (go_at_call 25; refine HAL.out.mono ?_; rintro e w1 ⟨rfl, hb1⟩)
  have HLG1 := Lib.hid' (HLG.out w1 hb1)
  cases hlg : longM X with
  | true =>
    rw [hlg] at HLG1
    go_wp2_with (go_at_call 9; refine HLG1.out.mono ?_; rintro e w2 ⟨rfl, hb2⟩; have HB2 := Lib.hid' (hb1.trans (hb2.mono hb1.size)))
    go_ret
    exact ⟨rfl, HB2.out⟩
  | false =>
  rw [hlg] at HLG1
  have hx12 := longM_len hlg
  by_cases h0 : X.length = 0
  · have hx0 : ((X.length : Int) == 0) = true := by rw [beq_iff_eq]; omega
    clear h0
    go_wp2_with (go_at_call 9; refine HLG1.out.mono ?_; rintro e w2 ⟨rfl, hb2⟩; have HB2 := Lib.hid' (hb1.trans (hb2.mono hb1.size)))
    go_ret
    exact ⟨rfl, HB2.out⟩
  have hx0 : ((X.length : Int) == 0) = false := by rw [beq_eq_false_iff_ne]; omega
  go_upto_region 5 with (go_at_call 9; refine HLG1.out.mono ?_; rintro e w2 ⟨rfl, hb2⟩; have HB2 := Lib.hid' (hb1.trans (hb2.mono hb1.size)))
  clear hb1 hb2 HLG HLG1 HAL
  have HCK2 := Lib.hid' (HCK.out w2 HB2.out)
  clear HCK
  by_cases hck : (chkM X).2 = 0
  case neg =>
    rw [errV_pos hck] at HCK2
    generalize (chkM X).2 = ck at *
    generalize (chkM X).1 = cp at *
    go_wp2_with (go_at_call 10; refine HCK2.out.mono ?_; rintro e w3 ⟨rfl, hb3⟩; have HB3 := Lib.hid' (HB2.out.trans (hb3.mono HB2.out.size)))
    go_ret
    exact ⟨rfl, HB3.out⟩
  have hgood := good_of_chk (A := []) (L := X) hck
  have hne : X ≠ [] := fun e => h0 (by rw [e]; rfl)
  obtain ⟨q0, q1, q2⟩ := plan_begin hgood hne
  rw [hck, errV_0] at HCK2
  have hp1 := planOf_at (n := (lastM X).1.t) hgood hne q1 (Int.le_refl _)
  have hp2 := planOf_at (n := beginM X) hgood hne (Int.le_refl _) q1
  have HPA := HPL.out _ hie (by omega)
  have HPB := HPL.out _ hib (by omega)
  rw [hp1] at HPA
  rw [hp2] at HPB
  have hr1 := plan_run hgood hne (n := (lastM X).1.t) q1 (Int.le_refl _)
  have hr2 := plan_run hgood hne (n := beginM X) (Int.le_refl _) q1
  have hm1 := markAt_good hgood hne (n := (lastM X).1.t) (Int.le_refl _) (by omega)
  have hm1' := markAt_le X (lastM X).1.t
  have hm2 := markAt_good hgood hne (n := beginM X) q1 q0
  have hm2' := markAt_le X (beginM X)
  have he := good_each hgood
  have hl1 := planItems_len (lastM X).1.t (markAt X (lastM X).1.t) X he
  have hl2 := planItems_len (beginM X) (markAt X (beginM X)) X he
  have hs1 := hr1.size
  have hs2 := hr2.size
  have hn1 := hr1.in
  have hn2 := hr2.in
  clear hp1 hp2 hr1 hr2 he hgood hne hck HPL
  generalize planItems (lastM X).1.t (markAt X (lastM X).1.t) X = I1 at *
  generalize planItems (beginM X) (markAt X (beginM X)) X = I2 at *
  generalize markAt X (lastM X).1.t = m1 at *
  generalize markAt X (beginM X) = m2 at *
  generalize (lastM X).1.t = en at *
  generalize (lastM X).1.r = rk at *
  generalize beginM X = bg at *
  generalize (chkM X).1 = cp at *
  have HS1 := Lib.hid' (fun ia ic wq (h : SlV wq (.slice ia I1.length ic) I1.length (I1.flatMap itV)) => psize_any en bg m1 ia ic I1 wq h (fun x hx => by have := hn1 x hx; omega) (by omega))
  have HS2 := Lib.hid' (fun ia ic wq (h : SlV wq (.slice ia I2.length ic) I2.length (I2.flatMap itV)) => psize_any bg bg m2 ia ic I2 wq h (fun x hx => by have := hn2 x hx; omega) (by omega))
  rw [hs1, show max bg m1 = max bg m1 from rfl] at HS1
  rw [hs2, show bg - max bg m2 = 0 by omega] at HS2
  have HPA' := Lib.hid' HPA
  have HPB' := Lib.hid' HPB
  clear hs1 hs2 hn1 hn2 hl1 hl2 HPA HPB
  go_upto_region 8 with (go_at_call 10; refine HCK2.out.mono ?_; rintro e w3 ⟨rfl, hb3⟩; have HB3 := Lib.hid' (HB2.out.trans (hb3.mono HB2.out.size)))
  clear HB2 HCK2 hb3
  have HBG3 := Lib.hid' (HBG.out w3 HB3.out)
  have HEN3 := Lib.hid' (HEN.out w3 HB3.out)
  go_upto_region 9 with (first | (go_at_call 20; refine HBG3.out.mono ?_; rintro e w' ⟨rfl, rfl⟩) | (go_at_call 21; refine HEN3.out.mono ?_; rintro e w4 ⟨rfl, hb4⟩; have HB4 := Lib.hid' (HB3.out.trans (hb4.mono HB3.out.size)); have HMK4 := Lib.hid' (HMK.out w4 HB4.out)) | (go_at_call 22; refine HMK4.out.mono ?_; rintro e w5 ⟨rfl, hb5⟩; have HB5 := Lib.hid' (HB4.out.trans (hb5.mono HB4.out.size))))
  clear HB3 HB4 hb4 hb5 HMK4 HMK HEN HEN3 HBG HBG3
  have HPA5 := Lib.hid' (HPA'.out w5 HB5.out)
  clear HPA'
  have hz1 : ∀ ia ic, (Tryd.prog.info? 60).map (·.size) = some (plV en bg m1 ia I1.length ic).length := fun _ _ => pl_size
  have hz2 : ∀ ia ic, (Tryd.prog.info? 60).map (·.size) = some (plV bg bg m2 ia I2.length ic).length := fun _ _ => pl_size
  have HZ := Lib.hid' (And.intro hz1 hz2)
  clear hz1 hz2
  go_upto_region 10 with (first | (go_at_call 26; refine HPA5.out.mono ?_; rintro e w6 ⟨ia, ic, rfl, hi1, hb6⟩; have H6 : Sep w NoF [.box w6.heap.size plZ 60] (w6.alloc (.cells #[.int .i64 0, .int .i64 0, .int .i64 0, .slice none 0 0] 60)) := ((Sep.nof HB5.out).below hb6).allocAt w6.heap.size plZ 60 rfl) | (refine Sep.storeB H6 0 rfl rfl 60 (.tmp 8) (.tmp 38) rfl (plV en bg m1 ia I1.length ic) rfl rfl (HZ.out.1 ia ic) rfl rfl ?_))
  have H7 := H6.setRow 0 rfl (plV en bg m1 ia I1.length ic)
  have hi1' : SlV ((w6.alloc (.cells #[.int .i64 0, .int .i64 0, .int .i64 0, .slice none 0 0] 60)).setRow w6.heap.size (plV en bg m1 ia I1.length ic).toArray) (.slice ia I1.length ic) I1.length (I1.flatMap itV) := hi1.below (Nat.le_refl _) (((Sep.start w6).allocAt w6.heap.size plZ 60 rfl).setRow 0 rfl (plV en bg m1 ia I1.length ic)).toBelow
  generalize (w6.alloc (.cells #[.int .i64 0, .int .i64 0, .int .i64 0, .slice none 0 0] 60)).setRow w6.heap.size (plV en bg m1 ia I1.length ic).toArray = w7 at *
  generalize w6.heap.size = N8 at *
  have HPB7 := Lib.hid' (HPB'.out w7 H7.toBelow)
  have HI1 := Lib.hid' hi1'
  clear HPB' H6 HB5 hb6 hi1 hi1' HPA5
  have he0 := errV_0
  go_upto_region 11 with (first | (go_at_call 26; refine HPB7.out.mono ?_; rintro e w8 ⟨ja, jc, rfl, hi2, hb8⟩; have H8 : Sep w NoF [.box w8.heap.size plZ 60, .box N8 (plV en bg m1 ia I1.length ic) 60] (w8.alloc (.cells #[.int .i64 0, .int .i64 0, .int .i64 0, .slice none 0 0] 60)) := (H7.below hb8).allocAt w8.heap.size plZ 60 rfl) | (refine Sep.storeB H8 0 rfl rfl 60 (.tmp 10) (.tmp 44) rfl (plV bg bg m2 ja I2.length jc) rfl rfl (HZ.out.2 ja jc) rfl rfl ?_))
  have H9 := H8.setRow 0 rfl (plV bg bg m2 ja I2.length jc)
  have hbb := (((Sep.start w8).allocAt w8.heap.size plZ 60 rfl).setRow 0 rfl (plV bg bg m2 ja I2.length jc)).toBelow
  have HX1 := Lib.hid' ((HI1.out.below (Nat.le_refl _) hb8).below (Nat.le_refl _) hbb)
  have HX2 := Lib.hid' (hi2.below (Nat.le_refl _) hbb)
  have hN8 := H9.ne 0 1 rfl rfl (by decide)
  clear hbb hi2 HI1 hb8
  have e0 : Sep w NoF [.box w8.heap.size (plV bg bg m2 ja I2.length jc) 60, .box N8 (plV en bg m1 ia I1.length ic) 60] ((w8.alloc (.cells plZ.toArray 60)).setRow w8.heap.size (plV bg bg m2 ja I2.length jc).toArray) := H9
  have HX1' : Hid (SlV ((w8.alloc (.cells plZ.toArray 60)).setRow w8.heap.size (plV bg bg m2 ja I2.length jc).toArray) (.slice ia I1.length ic) I1.length (I1.flatMap itV)) := HX1
  have HX2' : Hid (SlV ((w8.alloc (.cells plZ.toArray 60)).setRow w8.heap.size (plV bg bg m2 ja I2.length jc).toArray) (.slice ja I2.length jc) I2.length (I2.flatMap itV)) := HX2
  rw [show (#[.int .i64 0, .int .i64 0, .int .i64 0, .slice none 0 0] : Array Value) = plZ.toArray from rfl]
  clear HX1 HX2 H9 H8 H7 HPB7
  generalize (w8.alloc (.cells plZ.toArray 60)).setRow w8.heap.size (plV bg bg m2 ja I2.length jc).toArray = w9 at *
  generalize w8.heap.size = N10 at *
  have HSA := Lib.hid' (fun wq (hb : Below w9.heap.size w9 wq) => HS1.out ia ic wq (HX1'.out.below (Nat.le_refl _) hb))
  have HSB := Lib.hid' (fun wq (hb : Below w9.heap.size w9 wq) => HS2.out ja jc wq (HX2'.out.below (Nat.le_refl _) hb))
  have HBL := Lib.hid' e0.toBelow
  have g0 := e0.cell 1 rfl 0 (v := .int .i64 en) rfl
  have g1 := e0.cell 1 rfl 1 (v := .int .i64 bg) rfl
  have g2 := e0.cell 1 rfl 2 (v := .int .i64 m1) rfl
  have g3 := e0.cell 1 rfl 3 (v := .slice ia I1.length ic) rfl
  have f0 := e0.cell 0 rfl 0 (v := .int .i64 bg) rfl
  have f1 := e0.cell 0 rfl 1 (v := .int .i64 bg) rfl
  have f2 := e0.cell 0 rfl 2 (v := .int .i64 m2) rfl
  have f3 := e0.cell 0 rfl 3 (v := .slice ja I2.length jc) rfl
  have hl1 := e0.lt 1 rfl
  have hl0 := e0.lt 0 rfl
  have tb1 : decide (m1 ≤ min rk en) = true := by rw [decide_eq_true_eq]; omega
  have hww : w.heap.size ≤ w9.heap.size := HBL.out.size
  have HR1 := Lib.hid' (fun (wq : World) (hb : Below w9.heap.size w9 wq) => World.rangeAt.below (e0.box 1 rfl).range hb)
  have HR2 := Lib.hid' (fun (wq : World) (hb : Below w9.heap.size w9 wq) => World.rangeAt.below (e0.box 0 rfl).range hb)
  have tb2 : ((en - max bg m1) == max (en - max bg m1) 0) = true := by rw [beq_iff_eq]; omega
  obtain ⟨hm1a, hm1b⟩ := hm1
  have hzA := HZ.out.1 ia ic
  have hzB := HZ.out.2 ja jc
  clear HS1 HS2 HX1' HX2' e0 g0 g1 g3 f0 f1 f2 f3 hm2 hm2' HZ
  refine wp_region_held_drew (S := (fun w' => Below w9.heap.size w9 w')) (by kernel_rfl) ((Below.refl _ _).drew) (fun hH0 => ?_)
  refine wpAnyH_take (i := 0) (oi := _) (v := .nilIface) rfl (by kernel_rfl) (by kernel_rfl) (by kernel_rfl) (fun _ _ _ h => h) (Or.inl ⟨by rfl, ?_⟩) hH0 ?_
  · intro w hSw; go_simp
  simp only [Act.put, List.getElem_toArray, List.getElem_cons_zero, List.getElem_cons_succ, List.setIfInBounds_toArray, List.set_cons_zero, List.set_cons_succ]
  refine wpAnyH_take (i := 1) (oi := _) (v := .bool true) rfl (by kernel_rfl) (by kernel_rfl) (by kernel_rfl) (fun _ _ _ h => h) (Or.inl ⟨by rfl, ?_⟩) hH0 ?_
  · intro w hSw; go_simp
  simp only [Act.put, List.getElem_toArray, List.getElem_cons_zero, List.getElem_cons_succ, List.setIfInBounds_toArray, List.set_cons_zero, List.set_cons_succ]
  refine wpAnyH_take (i := 2) (oi := _) (v := .bool true) rfl (by kernel_rfl) (by kernel_rfl) (by kernel_rfl) (fun _ _ _ h => h) (Or.inl ⟨by rfl, ?_⟩) hH0 ?_
  · intro w hSw; go_simp
  simp only [Act.put, List.getElem_toArray, List.getElem_cons_zero, List.getElem_cons_succ, List.setIfInBounds_toArray, List.set_cons_zero, List.set_cons_succ]
  refine wpAnyH_take (i := 3) (oi := _) (v := .nilIface) rfl (by kernel_rfl) (by kernel_rfl) (by kernel_rfl) (fun _ _ _ h => h) (Or.inl ⟨by rfl, ?_⟩) hH0 ?_
  · intro w hSw; go_simp
  simp only [Act.put, List.getElem_toArray, List.getElem_cons_zero, List.getElem_cons_succ, List.setIfInBounds_toArray, List.set_cons_zero, List.set_cons_succ]
  refine wpAnyH_take (i := 4) (oi := _) (v := .bool true) rfl (by kernel_rfl) (by kernel_rfl) (by kernel_rfl) (fun _ _ _ h => h) (Or.inl ⟨by rfl, ?_⟩) hH0 ?_
  · intro w hSw; go_simp
  simp only [Act.put, List.getElem_toArray, List.getElem_cons_zero, List.getElem_cons_succ, List.setIfInBounds_toArray, List.set_cons_zero, List.set_cons_succ]
  refine wpAnyH_take (i := 5) (oi := _) (v := .bool true) rfl (by kernel_rfl) (by kernel_rfl) (by kernel_rfl) (fun _ _ _ h => h) (Or.inl ⟨by rfl, ?_⟩) hH0 ?_
  · intro w hSw; go_simp
  simp only [Act.put, List.getElem_toArray, List.getElem_cons_zero, List.getElem_cons_succ, List.setIfInBounds_toArray, List.set_cons_zero, List.set_cons_succ]
  refine wpAnyH_take (i := 6) (oi := _) (v := .bool true) rfl (by kernel_rfl) (by kernel_rfl) (by kernel_rfl) (fun _ _ _ h => h) (Or.inl ⟨by rfl, ?_⟩) hH0 ?_
  · intro w hSw; go_simp
  simp only [Act.put, List.getElem_toArray, List.getElem_cons_zero, List.getElem_cons_succ, List.setIfInBounds_toArray, List.set_cons_zero, List.set_cons_succ]
  refine wpAnyH_take (i := 7) (oi := _) (v := .pointer (some ⟨N8, 2, none⟩)) rfl (by kernel_rfl) (by kernel_rfl) (by kernel_rfl) (fun _ _ _ h => h) (Or.inl ⟨by rfl, ?_⟩) hH0 ?_
  · intro w hSw; go_simp
  simp only [Act.put, List.getElem_toArray, List.getElem_cons_zero, List.getElem_cons_succ, List.setIfInBounds_toArray, List.set_cons_zero, List.set_cons_succ]
  refine wpAnyH_take (i := 8) (oi := _) (v := .int .i64 m1) rfl (by kernel_rfl) (by kernel_rfl) (by kernel_rfl) (fun _ _ _ h => h) (Or.inl ⟨by rfl, ?_⟩) hH0 ?_
  · intro w hSw; have e := (hSw.cell (p := ⟨N8, 2, none⟩) hl1).trans g2; go_simp
  simp only [Act.put, List.getElem_toArray, List.getElem_cons_zero, List.getElem_cons_succ, List.setIfInBounds_toArray, List.set_cons_zero, List.set_cons_succ]
  refine wpAnyH_take (i := 9) (oi := _) (v := .int .i64 rk) rfl (by kernel_rfl) (by kernel_rfl) (by kernel_rfl) (fun _ _ _ h => h) (Or.inl ⟨by rfl, ?_⟩) hH0 ?_
  · intro w hSw; go_simp
  simp only [Act.put, List.getElem_toArray, List.getElem_cons_zero, List.getElem_cons_succ, List.setIfInBounds_toArray, List.set_cons_zero, List.set_cons_succ]
  refine wpAnyH_take (i := 10) (oi := _) (v := .int .i64 en) rfl (by kernel_rfl) (by kernel_rfl) (by kernel_rfl) (fun _ _ _ h => h) (Or.inl ⟨by rfl, ?_⟩) hH0 ?_
  · intro w hSw; go_simp
  simp only [Act.put, List.getElem_toArray, List.getElem_cons_zero, List.getElem_cons_succ, List.setIfInBounds_toArray, List.set_cons_zero, List.set_cons_succ]
  refine wpAnyH_take (i := 11) (oi := _) (v := .int .i64 (min rk en)) rfl (by kernel_rfl) (by kernel_rfl) (by kernel_rfl) (fun _ _ _ h => h) (Or.inl ⟨by rfl, ?_⟩) hH0 ?_
  · intro w hSw; go_simp
  simp only [Act.put, List.getElem_toArray, List.getElem_cons_zero, List.getElem_cons_succ, List.setIfInBounds_toArray, List.set_cons_zero, List.set_cons_succ]
  refine wpAnyH_take (i := 12) (oi := _) (v := .bool true) rfl (by kernel_rfl) (by kernel_rfl) (by kernel_rfl) (fun _ _ _ h => h) (Or.inl ⟨by rfl, ?_⟩) hH0 ?_
  · intro w hSw; go_simp
  simp only [Act.put, List.getElem_toArray, List.getElem_cons_zero, List.getElem_cons_succ, List.setIfInBounds_toArray, List.set_cons_zero, List.set_cons_succ]
  refine wpAnyH_take (i := 13) (oi := _) (v := .bool true) rfl (by kernel_rfl) (by kernel_rfl) (by kernel_rfl) (fun _ _ _ h => h) (Or.inl ⟨by rfl, ?_⟩) hH0 ?_
  · intro w hSw; go_simp
  simp only [Act.put, List.getElem_toArray, List.getElem_cons_zero, List.getElem_cons_succ, List.setIfInBounds_toArray, List.set_cons_zero, List.set_cons_succ]
  refine wpAnyH_take (i := 14) (oi := _) (v := .bool true) rfl (by kernel_rfl) (by kernel_rfl) (by kernel_rfl) (fun _ _ _ h => h) (Or.inl ⟨by rfl, ?_⟩) hH0 ?_
  · intro w hSw; go_simp
  simp only [Act.put, List.getElem_toArray, List.getElem_cons_zero, List.getElem_cons_succ, List.setIfInBounds_toArray, List.set_cons_zero, List.set_cons_succ]
  refine wpAnyH_take (i := 15) (oi := _) (v := .agg (plV en bg m1 ia I1.length ic).toArray) rfl (by kernel_rfl) (by kernel_rfl) (by kernel_rfl) (fun _ _ _ h => h) (yieldsIf_load_mid (by kernel_rfl) 60 (.tmp 8) rfl N8 0 rfl (plV en bg m1 ia I1.length ic) _ (fun wq hb => HR1.out wq hb) Tryd.underlying60 rfl hzA) hH0 ?_
  simp only [Act.put, List.getElem_toArray, List.getElem_cons_zero, List.getElem_cons_succ, List.setIfInBounds_toArray, List.set_cons_zero, List.set_cons_succ]
  refine wpAnyH_take (i := 17) (oi := _) (v := .int .i64 en) rfl (by kernel_rfl) (by kernel_rfl) (by kernel_rfl) (fun _ _ _ h => h) (Or.inl ⟨by rfl, ?_⟩) hH0 ?_
  · intro w hSw; go_simp
  simp only [Act.put, List.getElem_toArray, List.getElem_cons_zero, List.getElem_cons_succ, List.setIfInBounds_toArray, List.set_cons_zero, List.set_cons_succ]
  refine wpAnyH_take (i := 18) (oi := _) (v := .int .i64 bg) rfl (by kernel_rfl) (by kernel_rfl) (by kernel_rfl) (fun _ _ _ h => h) (Or.inl ⟨by rfl, ?_⟩) hH0 ?_
  · intro w hSw; go_simp
  simp only [Act.put, List.getElem_toArray, List.getElem_cons_zero, List.getElem_cons_succ, List.setIfInBounds_toArray, List.set_cons_zero, List.set_cons_succ]
  refine wpAnyH_take (i := 19) (oi := _) (v := .pointer (some ⟨N8, 2, none⟩)) rfl (by kernel_rfl) (by kernel_rfl) (by kernel_rfl) (fun _ _ _ h => h) (Or.inl ⟨by rfl, ?_⟩) hH0 ?_
  · intro w hSw; go_simp
  simp only [Act.put, List.getElem_toArray, List.getElem_cons_zero, List.getElem_cons_succ, List.setIfInBounds_toArray, List.set_cons_zero, List.set_cons_succ]
  refine wpAnyH_take (i := 20) (oi := _) (v := .int .i64 m1) rfl (by kernel_rfl) (by kernel_rfl) (by kernel_rfl) (fun _ _ _ h => h) (Or.inl ⟨by rfl, ?_⟩) hH0 ?_
  · intro w hSw; have e := (hSw.cell (p := ⟨N8, 2, none⟩) hl1).trans g2; go_simp
  simp only [Act.put, List.getElem_toArray, List.getElem_cons_zero, List.getElem_cons_succ, List.setIfInBounds_toArray, List.set_cons_zero, List.set_cons_succ]
  refine wpAnyH_take (i := 21) (oi := _) (v := .int .i64 (max bg m1)) rfl (by kernel_rfl) (by kernel_rfl) (by kernel_rfl) (fun _ _ _ h => h) (Or.inl ⟨by rfl, ?_⟩) hH0 ?_
  · intro w hSw; go_simp
  simp only [Act.put, List.getElem_toArray, List.getElem_cons_zero, List.getElem_cons_succ, List.setIfInBounds_toArray, List.set_cons_zero, List.set_cons_succ]
  refine wpAnyH_take (i := 22) (oi := _) (v := .int .i64 (en - (max bg m1))) rfl (by kernel_rfl) (by kernel_rfl) (by kernel_rfl) (fun _ _ _ h => h) (Or.inl ⟨by rfl, ?_⟩) hH0 ?_
  · intro w hSw; go_simp; exact IntWalk.i64_in _ (by omega)
  simp only [Act.put, List.getElem_toArray, List.getElem_cons_zero, List.getElem_cons_succ, List.setIfInBounds_toArray, List.set_cons_zero, List.set_cons_succ]
  refine wpAnyH_take (i := 23) (oi := _) (v := .int .i64 (max (en - (max bg m1)) 0)) rfl (by kernel_rfl) (by kernel_rfl) (by kernel_rfl) (fun _ _ _ h => h) (Or.inl ⟨by rfl, ?_⟩) hH0 ?_
  · intro w hSw; go_simp
  simp only [Act.put, List.getElem_toArray, List.getElem_cons_zero, List.getElem_cons_succ, List.setIfInBounds_toArray, List.set_cons_zero, List.set_cons_succ]
  refine wpAnyH_ready (rs := [16]) (by kernel_rfl) (by simp) (AllReadyH.cons (o := _) rfl (fun K hK => ?_) AllReadyH.nil)
  go_simp
  refine (HSA.out _ hH0).mono ?_
  rintro en0 wx0 ⟨rfl, hbx0⟩
  refine hK.out _ _ ?_ (fun hH1 => ?_)
  · exact Below.trans hH0 (hbx0.mono (Below.size hH0))
  clear hK K
  refine wpAnyH_take (i := 24) (oi := _) (v := .bool true) rfl (by kernel_rfl) (by kernel_rfl) (by kernel_rfl) (fun _ _ _ h => h) (Or.inl ⟨by rfl, ?_⟩) hH1 ?_
  · intro w hSw; go_simp
  simp only [Act.put, List.getElem_toArray, List.getElem_cons_zero, List.getElem_cons_succ, List.setIfInBounds_toArray, List.set_cons_zero, List.set_cons_succ]
  refine wpAnyH_take (i := 25) (oi := _) (v := .bool true) rfl (by kernel_rfl) (by kernel_rfl) (by kernel_rfl) (fun _ _ _ h => h) (Or.inl ⟨by rfl, ?_⟩) hH1 ?_
  · intro w hSw; go_simp
  simp only [Act.put, List.getElem_toArray, List.getElem_cons_zero, List.getElem_cons_succ, List.setIfInBounds_toArray, List.set_cons_zero, List.set_cons_succ]
  refine wpAnyH_take (i := 26) (oi := _) (v := .bool true) rfl (by kernel_rfl) (by kernel_rfl) (by kernel_rfl) (fun _ _ _ h => h) (Or.inl ⟨by rfl, ?_⟩) hH1 ?_
  · intro w hSw; go_simp
  simp only [Act.put, List.getElem_toArray, List.getElem_cons_zero, List.getElem_cons_succ, List.setIfInBounds_toArray, List.set_cons_zero, List.set_cons_succ]
  refine wpAnyH_take (i := 27) (oi := _) (v := .agg (plV bg bg m2 ja I2.length jc).toArray) rfl (by kernel_rfl) (by kernel_rfl) (by kernel_rfl) (fun _ _ _ h => h) (yieldsIf_load_mid (by kernel_rfl) 60 (.tmp 10) rfl N10 0 rfl (plV bg bg m2 ja I2.length jc) _ (fun wq hb => HR2.out wq hb) Tryd.underlying60 rfl hzB) hH1 ?_
  simp only [Act.put, List.getElem_toArray, List.getElem_cons_zero, List.getElem_cons_succ, List.setIfInBounds_toArray, List.set_cons_zero, List.set_cons_succ]
  refine wpAnyH_ready (rs := [28]) (by kernel_rfl) (by simp) (AllReadyH.cons (o := _) rfl (fun K hK => ?_) AllReadyH.nil)
  go_simp
  refine (HSB.out _ hH1).mono ?_
  rintro en1 wx1 ⟨rfl, hbx1⟩
  refine hK.out _ _ ?_ (fun hH2 => ?_)
  · exact Below.trans hH1 (hbx1.mono (Below.size hH1))
  clear hK K
  refine wpAnyH_take (i := 29) (oi := _) (v := .bool true) rfl (by kernel_rfl) (by kernel_rfl) (by kernel_rfl) (fun _ _ _ h => h) (Or.inl ⟨by rfl, ?_⟩) hH2 ?_
  · intro w hSw; go_simp
  simp only [Act.put, List.getElem_toArray, List.getElem_cons_zero, List.getElem_cons_succ, List.setIfInBounds_toArray, List.set_cons_zero, List.set_cons_succ]
  refine wpAnyH_take (i := 30) (oi := _) (v := .bool true) rfl (by kernel_rfl) (by kernel_rfl) (by kernel_rfl) (fun _ _ _ h => h) (Or.inl ⟨by rfl, ?_⟩) hH2 ?_
  · intro w hSw; go_simp
  simp only [Act.put, List.getElem_toArray, List.getElem_cons_zero, List.getElem_cons_succ, List.setIfInBounds_toArray, List.set_cons_zero, List.set_cons_succ]
  refine wpAnyH_take (i := 31) (oi := _) (v := .bool true) rfl (by kernel_rfl) (by kernel_rfl) (by kernel_rfl) (fun _ _ _ h => h) (Or.inl ⟨by rfl, ?_⟩) hH2 ?_
  · intro w hSw; go_simp
  simp only [Act.put, List.getElem_toArray, List.getElem_cons_zero, List.getElem_cons_succ, List.setIfInBounds_toArray, List.set_cons_zero, List.set_cons_succ]
  refine wpAnyH_done (by kernel_rfl) ?_ _
  have HF := Lib.hid' (HBL.out.trans (Below.mono hH2 hww))
  go_wp2
  go_ret
  exact ⟨rfl, HF.out⟩


end Go.Proofs.YtlhlkdeaiobfaaaDoor
