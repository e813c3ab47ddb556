/- Law 16 (chain): ChainGrows. -/
import Derived.Test.YtlhlkdeaiobfaaaDoorChnL
import Derived.Test.YtlhlkdeaiobfaaaDoorAlvS
import Derived.Test.YtlhlkdeaiobfaaaDoorStpL
namespace Go.Proofs.YtlhlkdeaiobfaaaDoor
open Go.RowKit
set_option linter.unusedSimpArgs false
set_option linter.unusedVariables false
set_option maxRecDepth 100000

theorem longM_len {X : List MfP} (h : longM X = false) : X.length ≤ 12 := by
  unfold longM at h
  rw [Bool.or_eq_false_iff] at h
  have := h.2
  simp at this; omega
theorem nextM_ok' {w : World} {a : Option Addr} {c : Nat} {X : List MfP} (h : MsAt w a c X) {m : Mf} (om : m.ok) : (nextM X m.f m.r m.ps).2.ok := by
  unfold nextM
  split
  · exact zeroM_ok
  · split
    · exact zeroM_ok
    · split
      · exact zeroM_ok
      · rename_i h3
        have hc : (nextX X m.f m.r m.ps).check = 0 := Classical.byContradiction h3
        obtain ⟨q1, q2, q3, q4, _⟩ := mcheck_0 hc
        show (nextX X m.f m.r m.ps).ok
        exact ⟨irc (by omega), irc (by omega), irc (by omega), irc (by omega), headD_len X, om.ps⟩
set_option maxHeartbeats 16000000 in
theorem chainGrows_any (HSum : RSumLaw) (X : List MfP) (a : Option Addr) (c : Nat) (m : Mf) (pa : Option Addr) (pc : Nat) (Z : List MfP) (b : Option Addr) (e : Nat) (w : World) (hX : MsAt w a c X) (hm : PtsAt w pa pc m.ps) (om : m.ok) (hZ : MsAt w b e Z) (hL : Laid w) :
    Calls Tryd.prog 4 #[.slice a X.length c, .agg (mfV m pa pc).toArray, .slice b Z.length e] w fun en w' => en = .returned (.bool true) ∧ Below w.heap.size w w' := by
  have hlx := hX.len
  have hlz := hZ.len
  have hlm := hm.len
  have HAL := Lib.hid' (fun w1 (H : Below w.heap.size w w1) => alive16_any w1 (hL.below (Nat.le_refl _) H))
  have HLX := Lib.hid' (fun w1 (H : Below w.heap.size w w1) => long16_any X a c w1 (hX.below (Nat.le_refl _) H))
  have HLZ := Lib.hid' (fun w1 (H : Below w.heap.size w w1) => long16_any Z b e w1 (hZ.below (Nat.le_refl _) H))
  have HCX := Lib.hid' (fun w1 (H : Below w.heap.size w w1) => ccheck_any X a c w1 (hX.below (Nat.le_refl _) H) (hL.below (Nat.le_refl _) H))
  have HCZ := Lib.hid' (fun w1 (H : Below w.heap.size w w1) => ccheck_any Z b e w1 (hZ.below (Nat.le_refl _) H) (hL.below (Nat.le_refl _) H))
  have HHX := Lib.hid' (fun w1 (H : Below w.heap.size w w1) => head_any X a c w1 (hX.below (Nat.le_refl _) H) (hL.below (Nat.le_refl _) H))
  have HHZ := Lib.hid' (fun w1 (H : Below w.heap.size w w1) => head_any Z b e w1 (hZ.below (Nat.le_refl _) H) (hL.below (Nat.le_refl _) H))
  have HCM := Lib.hid' (fun w1 (H : Below w.heap.size w w1) => common_any X Z a b c e w1 (hX.below (Nat.le_refl _) H) (hZ.below (Nat.le_refl _) H))
  have HCO := Lib.hid' (fun (hl : X.length = Z.length) (kx : ∀ x ∈ X, x.1.check = 0) (kz : ∀ z ∈ Z, z.1.check = 0) w1 (H : Below w.heap.size w w1) => collides_any HSum X Z a b c e w1 (hX.below (Nat.le_refl _) H) (hZ.below (Nat.le_refl _) H) hl kx kz)
  have HNX := Lib.hid' (fun (hpl : m.ps.length ≤ 1073741824) w1 (H : Below w.heap.size w w1) => cnext_any X a c m.f m.r m.ps pa pc w1 (hX.below (Nat.le_refl _) H) (hm.below (Nat.le_refl _) H) om.ps (hL.below (Nat.le_refl _) H) om.f om.r hpl)
  have HX := Lib.hid' hX
  have HLD := Lib.hid' hL
  have HOZ := Lib.hid' hZ.ok
  have HOM := Lib.hid' om
  have m36 := mfV_36 om pa pc
  clear hX hZ hm hL om HSum
  go_enter Tryd.func4, Tryd.ntmps4
  go_upto_region 1 with fail
  have H0 : Sep w NoF [.box w.heap.size (mfV m pa pc) 27] (w.alloc (.cells (mfV m pa pc).toArray 27)) := (Sep.start w).allocAt w.heap.size (mfV m pa pc) 27 rfl
  generalize w.alloc (.cells (mfV m pa pc).toArray 27) = w0 at *
  have HAL0 := Lib.hid' (HAL.out w0 H0.toBelow)
  go_upto_region 3 with (go_at_call 8; refine HAL0.out.mono ?_; rintro e0 w1 ⟨rfl, hb1⟩; have H1 := H0.below hb1)
  have HB1 := Lib.hid' H1.toBelow
  have HLX1 := Lib.hid' (HLX.out w1 HB1.out)
  clear HAL HAL0 HLX H0 hb1
  cases hlgx : longM X with
  | true =>
    rw [hlgx] at HLX1
    go_wp2_with (first | (go_at_call 9; with_reducible (refine HLX1.out.mono ?_); rintro e0 w2 ⟨rfl, hb2⟩; have HB2 := Lib.hid' (HB1.out.trans (hb2.mono HB1.out.size)); have HLZ2 := Lib.hid' (HLZ.out _ HB2.out)) | (go_at_call 9; with_reducible (refine HLZ2.out.mono ?_); rintro e0 w3 ⟨rfl, hb3⟩; have HB3 := Lib.hid' (HB2.out.trans (hb3.mono HB2.out.size)); have cc6 := (H1.below (hb2.trans (hb3.mono hb2.size))).cell 0 rfl 36 m36))
    go_ret
    exact ⟨rfl, HB2.out⟩
  | false =>
  rw [hlgx] at HLX1
  have hx12 := longM_len hlgx
  cases hlgz : longM Z with
  | true =>
    rw [hlgz] at HLZ
    go_wp2_with (first | (go_at_call 9; with_reducible (refine HLX1.out.mono ?_); rintro e0 w2 ⟨rfl, hb2⟩; have HB2 := Lib.hid' (HB1.out.trans (hb2.mono HB1.out.size)); have HLZ2 := Lib.hid' (HLZ.out _ HB2.out)) | (go_at_call 9; with_reducible (refine HLZ2.out.mono ?_); rintro e0 w3 ⟨rfl, hb3⟩; have HB3 := Lib.hid' (HB2.out.trans (hb3.mono HB2.out.size)); have cc6 := (H1.below (hb2.trans (hb3.mono hb2.size))).cell 0 rfl 36 m36))
    go_ret
    exact ⟨rfl, HB3.out⟩
  | false =>
  rw [hlgz] at HLZ
  have hz12 := longM_len hlgz
  by_cases hp12 : 12 < m.ps.length
  · have hp' : (12 : Int) < (m.ps.length : Int) := by omega
    clear hp12
    go_wp2_with (first | (go_at_call 9; with_reducible (refine HLX1.out.mono ?_); rintro e0 w2 ⟨rfl, hb2⟩; have HB2 := Lib.hid' (HB1.out.trans (hb2.mono HB1.out.size)); have HLZ2 := Lib.hid' (HLZ.out _ HB2.out)) | (go_at_call 9; with_reducible (refine HLZ2.out.mono ?_); rintro e0 w3 ⟨rfl, hb3⟩; have HB3 := Lib.hid' (HB2.out.trans (hb3.mono HB2.out.size)); have cc6 := (H1.below (hb2.trans (hb3.mono hb2.size))).cell 0 rfl 36 m36))
    go_ret
    exact ⟨rfl, HB3.out⟩
  have hp' : ¬ (12 : Int) < (m.ps.length : Int) := by omega
  have HNX2 := Lib.hid' (HNX.out (by omega))
  go_upto_region 5 with (first | (go_at_call 9; with_reducible (refine HLX1.out.mono ?_); rintro e0 w2 ⟨rfl, hb2⟩; have HB2 := Lib.hid' (HB1.out.trans (hb2.mono HB1.out.size)); have HLZ2 := Lib.hid' (HLZ.out _ HB2.out)) | (go_at_call 9; with_reducible (refine HLZ2.out.mono ?_); rintro e0 w3 ⟨rfl, hb3⟩; have HB3 := Lib.hid' (HB2.out.trans (hb3.mono HB2.out.size)); have cc6 := (H1.below (hb2.trans (hb3.mono hb2.size))).cell 0 rfl 36 m36))
  have H3 := (H1.below (hb2.trans (hb3.mono hb2.size)))
  clear HLX1 HLZ2 HLZ HNX hlgx hlgz hb2 hb3 HB2 H1 HB1 cc6 hp' hp12
  have c1 := H3.cell 0 rfl 1 (v := .int .i64 m.f) rfl
  have c3 := H3.cell 0 rfl 3 (v := .int .i64 m.r) rfl
  have c6 := H3.cell 0 rfl 36 m36
  have HNX3 := Lib.hid' (HNX2.out _ H3.toBelow)
  obtain ⟨q, hq⟩ : ∃ q, q = nextM X m.f m.r m.ps := ⟨_, rfl⟩
  have HQO := Lib.hid' (show q.2.ok by rw [hq]; exact nextM_ok' HX.out HOM.out)
  have HQC := Lib.hid' (fun (h : q.1 = 0) (r : Option Addr × Nat) => show chkM (X ++ [(q.2, r)]) = (X.length + 1, 0) by rw [hq] at h ⊢; exact next_chk h r)
  rw [← hq] at HNX3
  clear hq HNX2
  have hmz : ∀ na nc, (Tryd.prog.info? 27).map (·.size) = some (mfV q.2 na nc).length := fun na nc => by rw [mfV_len HQO.out]; exact mf_size
  have hmz2 : ∀ na nc, zeroMV.length = (mfV q.2 na nc).length := fun na nc => by rw [mfV_len HQO.out]; rfl
  go_upto_region 6 with (first | (go_at_call 13; refine HNX3.out.mono ?_; rintro e0 w5 ⟨na, nc, rfl, hpn, hb5⟩; have H5 : Sep w NoF [.box w5.heap.size zeroMV 27, .box w.heap.size (mfV m pa pc) 27] (w5.alloc (.cells #[.int .i64 0, .int .i64 0, .int .i64 0, .int .i64 0, .int .u8 0, .int .u8 0, .int .u8 0, .int .u8 0, .int .u8 0, .int .u8 0, .int .u8 0, .int .u8 0, .int .u8 0, .int .u8 0, .int .u8 0, .int .u8 0, .int .u8 0, .int .u8 0, .int .u8 0, .int .u8 0, .int .u8 0, .int .u8 0, .int .u8 0, .int .u8 0, .int .u8 0, .int .u8 0, .int .u8 0, .int .u8 0, .int .u8 0, .int .u8 0, .int .u8 0, .int .u8 0, .int .u8 0, .int .u8 0, .int .u8 0, .int .u8 0, .slice none 0 0] 27)) := (H3.below hb5).allocAt w5.heap.size zeroMV 27 rfl) | (refine Sep.storeB H5 0 rfl rfl 27 (.tmp 7) (.tmp 42) rfl (mfV q.2 na nc) rfl rfl (hmz na nc) (hmz2 na nc) (List.all_eq_true.2 mfV_one) ?_))
  have H6 := H5.setRow 0 rfl (mfV q.2 na nc)
  have hpn6 : PtsAt ((w5.alloc (.cells #[.int .i64 0, .int .i64 0, .int .i64 0, .int .i64 0, .int .u8 0, .int .u8 0, .int .u8 0, .int .u8 0, .int .u8 0, .int .u8 0, .int .u8 0, .int .u8 0, .int .u8 0, .int .u8 0, .int .u8 0, .int .u8 0, .int .u8 0, .int .u8 0, .int .u8 0, .int .u8 0, .int .u8 0, .int .u8 0, .int .u8 0, .int .u8 0, .int .u8 0, .int .u8 0, .int .u8 0, .int .u8 0, .int .u8 0, .int .u8 0, .int .u8 0, .int .u8 0, .int .u8 0, .int .u8 0, .int .u8 0, .int .u8 0, .slice none 0 0] 27)).setRow w5.heap.size (mfV q.2 na nc).toArray) na nc q.2.ps := hpn.below (Nat.le_refl _) (((Sep.start w5).allocAt w5.heap.size zeroMV 27 rfl).setRow 0 rfl (mfV q.2 na nc)).toBelow
  generalize (w5.alloc (.cells #[.int .i64 0, .int .i64 0, .int .i64 0, .int .i64 0, .int .u8 0, .int .u8 0, .int .u8 0, .int .u8 0, .int .u8 0, .int .u8 0, .int .u8 0, .int .u8 0, .int .u8 0, .int .u8 0, .int .u8 0, .int .u8 0, .int .u8 0, .int .u8 0, .int .u8 0, .int .u8 0, .int .u8 0, .int .u8 0, .int .u8 0, .int .u8 0, .int .u8 0, .int .u8 0, .int .u8 0, .int .u8 0, .int .u8 0, .int .u8 0, .int .u8 0, .int .u8 0, .int .u8 0, .int .u8 0, .int .u8 0, .int .u8 0, .slice none 0 0] 27)).setRow w5.heap.size (mfV q.2 na nc).toArray = w6 at *
  generalize w5.heap.size = N7 at *
  clear H5 hb5 HNX3 H3 c1 c3 c6 hmz2 HB3 hpn
  have HB6 := Lib.hid' H6.toBelow
  have HY37 := mfV_len HQO.out na nc
  have hzq := hmz na nc
  have HRG := Lib.hid' (fun wq (hb : Below w6.heap.size w6 wq) => World.rangeAt.below (H6.box 0 rfl).range hb)
  have hone : ∀ u ∈ mfV q.2 na nc, u.oneCell' = true := mfV_one
  have HXF := Lib.hid' (show (X.flatMap mV).length = X.length * 37 from flat_in_len X (fun x hx => mfV_len (HX.out.ok x hx) _ _))
  have HXS := Lib.hid' (fun wq (hb : Below w6.heap.size w6 wq) => (HX.out.below (Nat.le_refl _) (HB6.out.trans (hb.mono HB6.out.size))).row)
  have HXO := Lib.hid' (show ∀ u ∈ X.flatMap mV, u.oneCell' = true by
    intro u hu
    obtain ⟨x, hx, h2⟩ := List.mem_flatMap.1 hu
    exact mfV_one u h2)
  have HCQ := Lib.hid' (fun (h0 : q.1 = 0) wq aa cc (hb : Below w6.heap.size w6 wq) (hs : SlV wq (.slice aa (0 + X.length + 1) cc) (0 + X.length + 1) (([] ++ X.flatMap mV) ++ mfV q.2 na nc)) =>
    show Calls Tryd.prog 10 #[.slice aa (0 + X.length + 1) cc] wq fun e w' => e = .returned (.tuple #[.int .i64 ((X.length : Int) + 1), .nilIface]) ∧ Below wq.heap.size wq w' from by
      have hb0 := HB6.out.trans (hb.mono HB6.out.size)
      have hlen : (X ++ [(q.2, na, nc)]).length = 0 + X.length + 1 := by simp
      have hms : MsAt wq aa cc (X ++ [(q.2, na, nc)]) := ⟨by
        rw [hlen, show (X ++ [(q.2, na, nc)]).flatMap mV = ([] ++ X.flatMap mV) ++ mfV q.2 na nc by rw [List.flatMap_append]; simp [mV]]
        exact hs, fun x hx => by
        rcases List.mem_append.1 hx with h | h
        · exact (HX.out.each x h).below (Nat.le_refl _) hb0
        · rw [List.mem_singleton] at h; subst h; exact hpn6.below (Nat.le_refl _) hb, fun x hx => by
        rcases List.mem_append.1 hx with h | h
        · exact HX.out.ok x h
        · rw [List.mem_singleton] at h; subst h; exact HQO.out⟩
      have hc := ccheck_any (X ++ [(q.2, na, nc)]) aa cc wq hms (HLD.out.below (Nat.le_refl _) hb0)
      rw [HQC.out h0, hlen, errV_0, show (((X.length + 1, 0) : Nat × Nat).1 : Int) = (X.length : Int) + 1 by simp] at hc
      exact hc)
  clear hpn6
  generalize mfV q.2 na nc = Y at *
  go_upto_if 45 with fail
  go_cut [] (fun wc => Hid (Below w.heap.size w wc))
  case first =>
    by_cases h0 : q.1 = 0
    rotate_left
    · have hq0 : (q.1 == 0) = false := by rw [beq_eq_false_iff_ne]; exact h0
      clear h0 HCQ
      go_wp2_with fail
      go_meet
      exact HB6
    · have hq0 : (q.1 == 0) = true := by rw [beq_iff_eq]; exact h0
      have HCQ2 := Lib.hid' (HCQ.out h0)
      clear h0 HCQ
      go_upto_region 7 with fail
      refine startD (S := (fun w' => Below w6.heap.size w6 w')) (by kernel_rfl) ((Below.refl _ _).drew) (fun hH0 => ?_)
      simp only [List.length_cons, List.length_nil, Nat.reduceAdd, List.replicate_succ, List.replicate_zero]
      have HP0 : Sep w6 NoF [] w6.drew := (Sep.start w6).drew
      generalize w6.drew = w7 at *
      refine takeD (i := 1) (d := 48) (v := .slice a X.length c) rfl rfl (by kernel_rfl) (by kernel_rfl) (by kernel_rfl) (fun _ _ _ h => h) (yldV [(0, .slice a X.length c)] (by kernel_rfl) rfl (by kernel_rfl) ?_) hH0 ?_
      · intro w hSw; go_simp
      dsimp only [List.set_cons_zero, List.set_cons_succ]
      refine takeD (i := 3) (d := 50) (v := .agg Y.toArray) rfl rfl (by kernel_rfl) (by kernel_rfl) (by kernel_rfl) (fun _ _ _ h => h) (yieldsIf_load_mid (by kernel_rfl) 27 (.tmp 7) rfl N7 0 rfl Y _ (fun wq hb => HRG.out wq hb) Tryd.underlying27 rfl hzq) hH0 ?_
      dsimp only [List.set_cons_zero, List.set_cons_succ]
      refine wpAnyH_ready (rs := [0, 4]) (by kernel_rfl) (by simp) (AllReadyH.cons (o := _) rfl (fun K hK => ?_) (AllReadyH.cons (o := _) rfl (fun K hK => ?_) AllReadyH.nil))
      · skip
        go_simp
        have HP1 := HP0.newRowAt (w7.heap.size) 27 37 (by simp)
        refine hK.out _ _ ?_ (fun hH1 => ?_)
        · exact HP1.toBelow
        clear hK K
        try simp only [Act.put, List.getElem_toArray, List.getElem_cons_zero, List.getElem_cons_succ, List.setIfInBounds_toArray, List.set_cons_zero, List.set_cons_succ]
        refine wpAnyH_ready (rs := [2, 4]) (by kernel_rfl) (by simp) (AllReadyH.cons (o := _) rfl (fun K hK => ?_) (AllReadyH.cons (o := _) rfl (fun K hK => ?_) AllReadyH.nil))
        · skip
          refine Sep.appendSlStep (w := (w7.alloc (.cells #[] 27))) etMfs rfl (.tmp 47) (.tmp 48) rfl HP1 0 rfl rfl X.length (X.flatMap mV) _ rfl (HXS.out _ HP1.toBelow) HXF.out HXO.out (by omega) ?_
          intro a9 c9 w9 HP2
          refine hK.out _ _ ?_ (fun hH2 => ?_)
          · exact HP2.toBelow
          clear hK K
          simp only [Act.put, List.getElem_toArray, List.getElem_cons_zero, List.getElem_cons_succ, List.setIfInBounds_toArray, List.set_cons_zero, List.set_cons_succ]
          refine wpAnyH_ready (rs := [4]) (by kernel_rfl) (by simp) (AllReadyH.cons (o := _) rfl (fun K hK => ?_) AllReadyH.nil)
          have HP3 := HP2.allocAt w9.heap.size Y 27 rfl
          refine step_bs1 (w := w9) etMfs rfl (.tmp 50) rfl Y rfl HY37 (by decide) ?_
          refine hK.out _ _ ?_ (fun hH3 => ?_)
          · exact HP3.toBelow
          clear hK K
          simp only [Act.put, List.getElem_toArray, List.getElem_cons_zero, List.getElem_cons_succ, List.setIfInBounds_toArray, List.set_cons_zero, List.set_cons_succ]
          refine wpAnyH_ready (rs := [5]) (by kernel_rfl) (by simp) (AllReadyH.cons (o := _) rfl (fun K hK => ?_) AllReadyH.nil)
          refine Sep.appendSlStep (w := (w9.alloc (.cells Y.toArray 27))) etMfs rfl (.tmp 49) (.tmp 51) rfl HP3 1 rfl rfl 1 Y _ rfl (slv_box (HP3.box 0 rfl) 0 Y 1 (by decide) (fun j u hu => by rw [Nat.zero_add]; exact hu)) (by rw [HY37]) hone (by omega) ?_
          intro a11 c11 w11 HP4
          refine hK.out _ _ ?_ (fun hH4 => ?_)
          · exact HP4.toBelow
          clear hK K
          simp only [Act.put, List.getElem_toArray, List.getElem_cons_zero, List.getElem_cons_succ, List.setIfInBounds_toArray, List.set_cons_zero, List.set_cons_succ]
          refine wpAnyH_ready (rs := [6]) (by kernel_rfl) (by simp) (AllReadyH.cons (o := _) rfl (fun K hK => ?_) AllReadyH.nil)
          go_simp
          have HC9 := HCQ2.out _ _ _ HP4.toBelow (SlV.of_own (HP4.row 0 rfl))
          rw [Nat.zero_add] at HC9
          with_reducible refine HC9.mono ?_
          rintro en w12 ⟨rfl, hb12⟩
          clear HC9
          refine hK.out _ _ ?_ (fun hH5 => ?_)
          · exact Below.trans hH4 (hb12.mono (Below.size hH4))
          clear hK K
          simp only [Act.put, List.getElem_toArray, List.getElem_cons_zero, List.getElem_cons_succ, List.setIfInBounds_toArray, List.set_cons_zero, List.set_cons_succ]
          refine takeD (i := 7) (d := 46) (v := .tuple #[.int .i64 ((X.length : Int) + 1), .nilIface]) rfl rfl (by kernel_rfl) (by kernel_rfl) (by kernel_rfl) (fun _ _ _ h => h) (yldV [(53, .tuple #[.int .i64 ((X.length : Int) + 1), .nilIface])] (by kernel_rfl) rfl (by kernel_rfl) ?_) hH5 ?_
          · intro w hSw; go_simp
          dsimp only [List.set_cons_zero, List.set_cons_succ]
          refine takeD (i := 8) (d := 54) (v := .int .i64 ((X.length : Int) + 1)) rfl rfl (by kernel_rfl) (by kernel_rfl) (by kernel_rfl) (fun _ _ _ h => h) (yldV [(46, .tuple #[.int .i64 ((X.length : Int) + 1), .nilIface])] (by kernel_rfl) rfl (by kernel_rfl) ?_) hH5 ?_
          · intro w hSw; go_simp
          dsimp only [List.set_cons_zero, List.set_cons_succ]
          refine takeD (i := 9) (d := 55) (v := .nilIface) rfl rfl (by kernel_rfl) (by kernel_rfl) (by kernel_rfl) (fun _ _ _ h => h) (yldV [(46, .tuple #[.int .i64 ((X.length : Int) + 1), .nilIface])] (by kernel_rfl) rfl (by kernel_rfl) ?_) hH5 ?_
          · intro w hSw; go_simp
          dsimp only [List.set_cons_zero, List.set_cons_succ]
          refine takeD (i := 10) (d := 9) (v := .int .i64 ((X.length : Int) + 1)) rfl rfl (by kernel_rfl) (by kernel_rfl) (by kernel_rfl) (fun _ _ _ h => h) (yldV [(54, .int .i64 ((X.length : Int) + 1))] (by kernel_rfl) rfl (by kernel_rfl) ?_) hH5 ?_
          · intro w hSw; go_simp
          dsimp only [List.set_cons_zero, List.set_cons_succ]
          refine takeD (i := 11) (d := 10) (v := .nilIface) rfl rfl (by kernel_rfl) (by kernel_rfl) (by kernel_rfl) (fun _ _ _ h => h) (yldV [(55, .nilIface)] (by kernel_rfl) rfl (by kernel_rfl) ?_) hH5 ?_
          · intro w hSw; go_simp
          dsimp only [List.set_cons_zero, List.set_cons_succ]
          refine wpAnyH_done (by kernel_rfl) ?_ _
          have HBX := Lib.hid' (HB6.out.trans (Below.mono hH5 HB6.out.size))
          have hx13 : (X.length : Int) ≤ 12 := by omega
          go_wp2_with fail
          go_meet
          exact HBX
        · skip
          have HP2 := HP1.allocAt (w7.alloc (.cells #[] 27)).heap.size Y 27 rfl
          refine step_bs1 (w := (w7.alloc (.cells #[] 27))) etMfs rfl (.tmp 50) rfl Y rfl HY37 (by decide) ?_
          refine hK.out _ _ ?_ (fun hH2 => ?_)
          · exact HP2.toBelow
          clear hK K
          simp only [Act.put, List.getElem_toArray, List.getElem_cons_zero, List.getElem_cons_succ, List.setIfInBounds_toArray, List.set_cons_zero, List.set_cons_succ]
          refine wpAnyH_ready (rs := [2]) (by kernel_rfl) (by simp) (AllReadyH.cons (o := _) rfl (fun K hK => ?_) AllReadyH.nil)
          refine Sep.appendSlStep (w := ((w7.alloc (.cells #[] 27)).alloc (.cells Y.toArray 27))) etMfs rfl (.tmp 47) (.tmp 48) rfl HP2 1 rfl rfl X.length (X.flatMap mV) _ rfl (HXS.out _ HP2.toBelow) HXF.out HXO.out (by omega) ?_
          intro a9 c9 w9 HP3
          refine hK.out _ _ ?_ (fun hH3 => ?_)
          · exact HP3.toBelow
          clear hK K
          simp only [Act.put, List.getElem_toArray, List.getElem_cons_zero, List.getElem_cons_succ, List.setIfInBounds_toArray, List.set_cons_zero, List.set_cons_succ]
          refine wpAnyH_ready (rs := [5]) (by kernel_rfl) (by simp) (AllReadyH.cons (o := _) rfl (fun K hK => ?_) AllReadyH.nil)
          refine Sep.appendSlStep (w := w9) etMfs rfl (.tmp 49) (.tmp 51) rfl HP3 0 rfl rfl 1 Y _ rfl (slv_box (HP3.box 1 rfl) 0 Y 1 (by decide) (fun j u hu => by rw [Nat.zero_add]; exact hu)) (by rw [HY37]) hone (by omega) ?_
          intro a11 c11 w11 HP4
          refine hK.out _ _ ?_ (fun hH4 => ?_)
          · exact HP4.toBelow
          clear hK K
          simp only [Act.put, List.getElem_toArray, List.getElem_cons_zero, List.getElem_cons_succ, List.setIfInBounds_toArray, List.set_cons_zero, List.set_cons_succ]
          refine wpAnyH_ready (rs := [6]) (by kernel_rfl) (by simp) (AllReadyH.cons (o := _) rfl (fun K hK => ?_) AllReadyH.nil)
          go_simp
          have HC9 := HCQ2.out _ _ _ HP4.toBelow (SlV.of_own (HP4.row 0 rfl))
          rw [Nat.zero_add] at HC9
          with_reducible refine HC9.mono ?_
          rintro en w12 ⟨rfl, hb12⟩
          clear HC9
          refine hK.out _ _ ?_ (fun hH5 => ?_)
          · exact Below.trans hH4 (hb12.mono (Below.size hH4))
          clear hK K
          simp only [Act.put, List.getElem_toArray, List.getElem_cons_zero, List.getElem_cons_succ, List.setIfInBounds_toArray, List.set_cons_zero, List.set_cons_succ]
          refine takeD (i := 7) (d := 46) (v := .tuple #[.int .i64 ((X.length : Int) + 1), .nilIface]) rfl rfl (by kernel_rfl) (by kernel_rfl) (by kernel_rfl) (fun _ _ _ h => h) (yldV [(53, .tuple #[.int .i64 ((X.length : Int) + 1), .nilIface])] (by kernel_rfl) rfl (by kernel_rfl) ?_) hH5 ?_
          · intro w hSw; go_simp
          dsimp only [List.set_cons_zero, List.set_cons_succ]
          refine takeD (i := 8) (d := 54) (v := .int .i64 ((X.length : Int) + 1)) rfl rfl (by kernel_rfl) (by kernel_rfl) (by kernel_rfl) (fun _ _ _ h => h) (yldV [(46, .tuple #[.int .i64 ((X.length : Int) + 1), .nilIface])] (by kernel_rfl) rfl (by kernel_rfl) ?_) hH5 ?_
          · intro w hSw; go_simp
          dsimp only [List.set_cons_zero, List.set_cons_succ]
          refine takeD (i := 9) (d := 55) (v := .nilIface) rfl rfl (by kernel_rfl) (by kernel_rfl) (by kernel_rfl) (fun _ _ _ h => h) (yldV [(46, .tuple #[.int .i64 ((X.length : Int) + 1), .nilIface])] (by kernel_rfl) rfl (by kernel_rfl) ?_) hH5 ?_
          · intro w hSw; go_simp
          dsimp only [List.set_cons_zero, List.set_cons_succ]
          refine takeD (i := 10) (d := 9) (v := .int .i64 ((X.length : Int) + 1)) rfl rfl (by kernel_rfl) (by kernel_rfl) (by kernel_rfl) (fun _ _ _ h => h) (yldV [(54, .int .i64 ((X.length : Int) + 1))] (by kernel_rfl) rfl (by kernel_rfl) ?_) hH5 ?_
          · intro w hSw; go_simp
          dsimp only [List.set_cons_zero, List.set_cons_succ]
          refine takeD (i := 11) (d := 10) (v := .nilIface) rfl rfl (by kernel_rfl) (by kernel_rfl) (by kernel_rfl) (fun _ _ _ h => h) (yldV [(55, .nilIface)] (by kernel_rfl) rfl (by kernel_rfl) ?_) hH5 ?_
          · intro w hSw; go_simp
          dsimp only [List.set_cons_zero, List.set_cons_succ]
          refine wpAnyH_done (by kernel_rfl) ?_ _
          have HBX := Lib.hid' (HB6.out.trans (Below.mono hH5 HB6.out.size))
          have hx13 : (X.length : Int) ≤ 12 := by omega
          go_wp2_with fail
          go_meet
          exact HBX
      · skip
        have HP1 := HP0.allocAt w7.heap.size Y 27 rfl
        refine step_bs1 (w := w7) etMfs rfl (.tmp 50) rfl Y rfl HY37 (by decide) ?_
        refine hK.out _ _ ?_ (fun hH1 => ?_)
        · exact HP1.toBelow
        clear hK K
        simp only [Act.put, List.getElem_toArray, List.getElem_cons_zero, List.getElem_cons_succ, List.setIfInBounds_toArray, List.set_cons_zero, List.set_cons_succ]
        refine wpAnyH_ready (rs := [0]) (by kernel_rfl) (by simp) (AllReadyH.cons (o := _) rfl (fun K hK => ?_) AllReadyH.nil)
        go_simp
        have HP2 := HP1.newRowAt (w7.heap.size + 1) 27 37 (by simp)
        refine hK.out _ _ ?_ (fun hH2 => ?_)
        · exact HP2.toBelow
        clear hK K
        try simp only [Act.put, List.getElem_toArray, List.getElem_cons_zero, List.getElem_cons_succ, List.setIfInBounds_toArray, List.set_cons_zero, List.set_cons_succ]
        refine wpAnyH_ready (rs := [2]) (by kernel_rfl) (by simp) (AllReadyH.cons (o := _) rfl (fun K hK => ?_) AllReadyH.nil)
        refine Sep.appendSlStep (w := ((w7.alloc (.cells Y.toArray 27)).alloc (.cells #[] 27))) etMfs rfl (.tmp 47) (.tmp 48) rfl HP2 0 rfl rfl X.length (X.flatMap mV) _ rfl (HXS.out _ HP2.toBelow) HXF.out HXO.out (by omega) ?_
        intro a9 c9 w9 HP3
        refine hK.out _ _ ?_ (fun hH3 => ?_)
        · exact HP3.toBelow
        clear hK K
        simp only [Act.put, List.getElem_toArray, List.getElem_cons_zero, List.getElem_cons_succ, List.setIfInBounds_toArray, List.set_cons_zero, List.set_cons_succ]
        refine wpAnyH_ready (rs := [5]) (by kernel_rfl) (by simp) (AllReadyH.cons (o := _) rfl (fun K hK => ?_) AllReadyH.nil)
        refine Sep.appendSlStep (w := w9) etMfs rfl (.tmp 49) (.tmp 51) rfl HP3 0 rfl rfl 1 Y _ rfl (slv_box (HP3.box 1 rfl) 0 Y 1 (by decide) (fun j u hu => by rw [Nat.zero_add]; exact hu)) (by rw [HY37]) hone (by omega) ?_
        intro a11 c11 w11 HP4
        refine hK.out _ _ ?_ (fun hH4 => ?_)
        · exact HP4.toBelow
        clear hK K
        simp only [Act.put, List.getElem_toArray, List.getElem_cons_zero, List.getElem_cons_succ, List.setIfInBounds_toArray, List.set_cons_zero, List.set_cons_succ]
        refine wpAnyH_ready (rs := [6]) (by kernel_rfl) (by simp) (AllReadyH.cons (o := _) rfl (fun K hK => ?_) AllReadyH.nil)
        go_simp
        have HC9 := HCQ2.out _ _ _ HP4.toBelow (SlV.of_own (HP4.row 0 rfl))
        rw [Nat.zero_add] at HC9
        with_reducible refine HC9.mono ?_
        rintro en w12 ⟨rfl, hb12⟩
        clear HC9
        refine hK.out _ _ ?_ (fun hH5 => ?_)
        · exact Below.trans hH4 (hb12.mono (Below.size hH4))
        clear hK K
        simp only [Act.put, List.getElem_toArray, List.getElem_cons_zero, List.getElem_cons_succ, List.setIfInBounds_toArray, List.set_cons_zero, List.set_cons_succ]
        refine takeD (i := 7) (d := 46) (v := .tuple #[.int .i64 ((X.length : Int) + 1), .nilIface]) rfl rfl (by kernel_rfl) (by kernel_rfl) (by kernel_rfl) (fun _ _ _ h => h) (yldV [(53, .tuple #[.int .i64 ((X.length : Int) + 1), .nilIface])] (by kernel_rfl) rfl (by kernel_rfl) ?_) hH5 ?_
        · intro w hSw; go_simp
        dsimp only [List.set_cons_zero, List.set_cons_succ]
        refine takeD (i := 8) (d := 54) (v := .int .i64 ((X.length : Int) + 1)) rfl rfl (by kernel_rfl) (by kernel_rfl) (by kernel_rfl) (fun _ _ _ h => h) (yldV [(46, .tuple #[.int .i64 ((X.length : Int) + 1), .nilIface])] (by kernel_rfl) rfl (by kernel_rfl) ?_) hH5 ?_
        · intro w hSw; go_simp
        dsimp only [List.set_cons_zero, List.set_cons_succ]
        refine takeD (i := 9) (d := 55) (v := .nilIface) rfl rfl (by kernel_rfl) (by kernel_rfl) (by kernel_rfl) (fun _ _ _ h => h) (yldV [(46, .tuple #[.int .i64 ((X.length : Int) + 1), .nilIface])] (by kernel_rfl) rfl (by kernel_rfl) ?_) hH5 ?_
        · intro w hSw; go_simp
        dsimp only [List.set_cons_zero, List.set_cons_succ]
        refine takeD (i := 10) (d := 9) (v := .int .i64 ((X.length : Int) + 1)) rfl rfl (by kernel_rfl) (by kernel_rfl) (by kernel_rfl) (fun _ _ _ h => h) (yldV [(54, .int .i64 ((X.length : Int) + 1))] (by kernel_rfl) rfl (by kernel_rfl) ?_) hH5 ?_
        · intro w hSw; go_simp
        dsimp only [List.set_cons_zero, List.set_cons_succ]
        refine takeD (i := 11) (d := 10) (v := .nilIface) rfl rfl (by kernel_rfl) (by kernel_rfl) (by kernel_rfl) (fun _ _ _ h => h) (yldV [(55, .nilIface)] (by kernel_rfl) rfl (by kernel_rfl) ?_) hH5 ?_
        · intro w hSw; go_simp
        dsimp only [List.set_cons_zero, List.set_cons_succ]
        refine wpAnyH_done (by kernel_rfl) ?_ _
        have HBX := Lib.hid' (HB6.out.trans (Below.mono hH5 HB6.out.size))
        have hx13 : (X.length : Int) ≤ 12 := by omega
        go_wp2_with fail
        go_meet
        exact HBX
  case rest =>
  clear HB6 H6 HRG hone HXF HXS HXO HCQ HY37 hzq hmz HQC HQO HLD
  have HB7 := Lib.hid' hcut.out
  clear hcut
  have HGX := Lib.hid' (fun (g1 : (chkM X).2 = 0) => good_each (good_of_chk (A := []) (L := X) g1))
  have HGZ := Lib.hid' (fun (g2 : (chkM Z).2 = 0) => good_each (good_of_chk (A := []) (L := Z) g2))
  have HCX7 := Lib.hid' (HCX.out _ HB7.out)
  generalize (chkM X).1 = k1 at *
  generalize (chkM Z).1 = k2 at *
  generalize errV (headN X) = E3 at *
  generalize errV (headN Z) = E4 at *
  have hdx := headD_len X
  have hdz := headD_len Z
  have HEQ := Lib.hid' (fun wq => eqD (headD X) (headD Z) hdx hdz wq)
  have hzx : (Tryd.prog.info? 24).map (·.size) = some (byteVs (headD X)).length := by rw [byteVs_length, hdx]; exact dig_size
  have hzz : (Tryd.prog.info? 24).map (·.size) = some (byteVs (headD Z)).length := by rw [byteVs_length, hdz]; exact dig_size
  have hlx0 : zeroD.length = (byteVs (headD X)).length := by rw [byteVs_length, hdx]; rfl
  have hlz0 : zeroD.length = (byteVs (headD Z)).length := by rw [byteVs_length, hdz]; rfl
  have h1x : (byteVs (headD X)).all (·.oneCell') = true := List.all_eq_true.2 (byteVs_one _)
  have h1z : (byteVs (headD Z)).all (·.oneCell') = true := List.all_eq_true.2 (byteVs_one _)
  have HFX := Lib.hid' (show ∀ (hh : (headD X == headD Z) = true) (hl : X.length = Z.length) (g1 : (chkM X).2 = 0) (g2 : (chkM Z).2 = 0), comM X Z = X.length ∨ colM X Z = true from fun hh hl g1 g2 =>
    heads_same hl (good_of_chk (A := []) g1) (good_of_chk (A := []) g2) HX.out.ok HOZ.out (beq_iff_eq.1 hh))
  generalize byteVs (headD X) = DX at *
  generalize byteVs (headD Z) = DZ at *
  generalize (headD X == headD Z) = hd at *
  generalize (chkM X).2 = n1 at *
  generalize (chkM Z).2 = n2 at *
  go_upto_region 11 with (go_at_call 10; refine HCX7.out.mono ?_; rintro e0 w8 ⟨rfl, hb8⟩)
  have HB8 := Lib.hid' (HB7.out.trans (hb8.mono HB7.out.size))
  have HCZ8 := Lib.hid' (HCZ.out _ HB8.out)
  clear HCX HCX7 hb8 HB7
  go_upto_region 12 with (go_at_call 10; refine HCZ8.out.mono ?_; rintro e0 w9 ⟨rfl, hb9⟩)
  have HB9 := Lib.hid' (HB8.out.trans (hb9.mono HB8.out.size))
  have HHX9 := Lib.hid' (HHX.out _ HB9.out)
  clear HCZ HCZ8 hb9 HB8 HHX
  go_upto_region 13 with (first | (go_at_call 14; refine HHX9.out.mono ?_; rintro e0 w10 ⟨rfl, hb10⟩; have HD : Sep w NoF [.box w10.heap.size zeroD 24] (w10.alloc (.cells #[.int .u8 0, .int .u8 0, .int .u8 0, .int .u8 0, .int .u8 0, .int .u8 0, .int .u8 0, .int .u8 0, .int .u8 0, .int .u8 0, .int .u8 0, .int .u8 0, .int .u8 0, .int .u8 0, .int .u8 0, .int .u8 0, .int .u8 0, .int .u8 0, .int .u8 0, .int .u8 0, .int .u8 0, .int .u8 0, .int .u8 0, .int .u8 0, .int .u8 0, .int .u8 0, .int .u8 0, .int .u8 0, .int .u8 0, .int .u8 0, .int .u8 0, .int .u8 0] 24)) := (Sep.nof (HB9.out.trans (hb10.mono HB9.out.size))).allocAt w10.heap.size zeroD 24 rfl) | (refine Sep.storeB HD 0 rfl rfl 24 (.tmp 15) (.tmp 78) rfl DX rfl rfl hzx hlx0 h1x ?_))
  have HD1 := HD.setRow 0 rfl DX
  generalize (w10.alloc (.cells #[.int .u8 0, .int .u8 0, .int .u8 0, .int .u8 0, .int .u8 0, .int .u8 0, .int .u8 0, .int .u8 0, .int .u8 0, .int .u8 0, .int .u8 0, .int .u8 0, .int .u8 0, .int .u8 0, .int .u8 0, .int .u8 0, .int .u8 0, .int .u8 0, .int .u8 0, .int .u8 0, .int .u8 0, .int .u8 0, .int .u8 0, .int .u8 0, .int .u8 0, .int .u8 0, .int .u8 0, .int .u8 0, .int .u8 0, .int .u8 0, .int .u8 0, .int .u8 0] 24)).setRow w10.heap.size DX.toArray = w11 at *
  generalize w10.heap.size = N15 at *
  have HHZ11 := Lib.hid' (HHZ.out _ HD1.toBelow)
  clear HD hb10 HHX9 HHZ HB9
  go_upto_region 14 with (first | (go_at_call 14; refine HHZ11.out.mono ?_; rintro e0 w12 ⟨rfl, hb12⟩; have HD : Sep w NoF [.box w12.heap.size zeroD 24, .box N15 DX 24] (w12.alloc (.cells #[.int .u8 0, .int .u8 0, .int .u8 0, .int .u8 0, .int .u8 0, .int .u8 0, .int .u8 0, .int .u8 0, .int .u8 0, .int .u8 0, .int .u8 0, .int .u8 0, .int .u8 0, .int .u8 0, .int .u8 0, .int .u8 0, .int .u8 0, .int .u8 0, .int .u8 0, .int .u8 0, .int .u8 0, .int .u8 0, .int .u8 0, .int .u8 0, .int .u8 0, .int .u8 0, .int .u8 0, .int .u8 0, .int .u8 0, .int .u8 0, .int .u8 0, .int .u8 0] 24)) := (HD1.below hb12).allocAt w12.heap.size zeroD 24 rfl) | (refine Sep.storeB HD 0 rfl rfl 24 (.tmp 17) (.tmp 83) rfl DZ rfl rfl hzz hlz0 h1z ?_))
  have HD2 := HD.setRow 0 rfl DZ
  generalize (w12.alloc (.cells #[.int .u8 0, .int .u8 0, .int .u8 0, .int .u8 0, .int .u8 0, .int .u8 0, .int .u8 0, .int .u8 0, .int .u8 0, .int .u8 0, .int .u8 0, .int .u8 0, .int .u8 0, .int .u8 0, .int .u8 0, .int .u8 0, .int .u8 0, .int .u8 0, .int .u8 0, .int .u8 0, .int .u8 0, .int .u8 0, .int .u8 0, .int .u8 0, .int .u8 0, .int .u8 0, .int .u8 0, .int .u8 0, .int .u8 0, .int .u8 0, .int .u8 0, .int .u8 0] 24)).setRow w12.heap.size DZ.toArray = w13 at *
  generalize w12.heap.size = N17 at *
  have HBF := Lib.hid' HD2.toBelow
  clear HD hb12 HHZ11 HD1 hlx0 hlz0 h1x h1z hdx hdz
  by_cases g1 : n1 = 0
  rotate_left
  · have b1 : (n1 != 0) = true := by rw [bne_iff_ne]; exact g1
    clear g1 HFX HEQ
    go_wp2_with fail
    go_ret
    exact ⟨rfl, HBF.out⟩
  have b1 : (n1 != 0) = false := by rw [bne_eq_false_iff_eq]; exact g1
  by_cases g2 : n2 = 0
  rotate_left
  · have b2 : (n2 != 0) = true := by rw [bne_iff_ne]; exact g2
    clear g1 g2 HFX HEQ
    go_wp2_with fail
    go_ret
    exact ⟨rfl, HBF.out⟩
  have b2 : (n2 != 0) = false := by rw [bne_eq_false_iff_eq]; exact g2
  by_cases hl : X.length = Z.length
  rotate_left
  · have hl' : ((X.length : Int) != (Z.length : Int)) = true := by rw [bne_iff_ne]; omega
    clear hl g1 g2 HFX HEQ
    go_wp2_with fail
    go_ret
    exact ⟨rfl, HBF.out⟩
  have hl' : ((X.length : Int) != (Z.length : Int)) = false := by rw [bne_eq_false_iff_eq]; omega
  have HLQ := Lib.hid' hl
  have hll : (X.length : Int) = (Z.length : Int) := by omega
  have HG1 := Lib.hid' g1
  have HG2 := Lib.hid' g2
  clear g1 g2 hl hll
  have HQ := HEQ.out
  have r1 := (HD2.box 1 rfl).range
  have r0 := (HD2.box 0 rfl).range
  cases hd with
  | false =>
    clear HFX HEQ
    go_wp2_with (first | (refine wpList_load_atG r1 (by kernel_rfl) 24 (.tmp 15) rfl rfl _ Tryd.underlying24 rfl hzx ?_) | (refine wpList_load_atG r0 (by kernel_rfl) 24 (.tmp 17) rfl rfl _ Tryd.underlying24 rfl hzz ?_))
    go_ret
    exact ⟨rfl, HBF.out⟩
  | true =>
    have HOR := Lib.hid' (HFX.out rfl HLQ.out HG1.out HG2.out)
    have HCM13 := Lib.hid' (HCM.out _ HBF.out)
    have HCO2 := Lib.hid' (HCO.out HLQ.out (HGX.out HG1.out) (HGZ.out HG2.out))
    clear HFX HEQ HCM HCO
    generalize comM X Z = cm at *
    generalize colM X Z = co at *
    go_upto_region 16 with (first | (refine wpList_load_atG r1 (by kernel_rfl) 24 (.tmp 15) rfl rfl _ Tryd.underlying24 rfl hzx ?_) | (refine wpList_load_atG r0 (by kernel_rfl) 24 (.tmp 17) rfl rfl _ Tryd.underlying24 rfl hzz ?_))
    clear r1 r0 HQ HD2 hl'
    by_cases hc : cm = X.length
    · have hc' : ((cm : Int) == (X.length : Int)) = true := by rw [beq_iff_eq]; omega
      clear hc HOR
      go_wp2_with (go_at_call 15; refine HCM13.out.mono ?_; rintro e0 w14 ⟨rfl, hb14⟩)
      go_ret
      exact ⟨rfl, HBF.out.trans (hb14.mono HBF.out.size)⟩
    · have hc' : ((cm : Int) == (X.length : Int)) = false := by rw [beq_eq_false_iff_ne]; omega
      have hco : co = true := HOR.out.resolve_left hc
      rw [hco] at HCO2
      clear hc HOR hco
      go_wp2_with (first | (go_at_call 15; refine HCM13.out.mono ?_; rintro e0 w14 ⟨rfl, hb14⟩; have HB14 := Lib.hid' (HBF.out.trans (hb14.mono HBF.out.size)); have HCO14 := Lib.hid' (HCO2.out _ HB14.out)) | (go_at_call 12; refine HCO14.out.mono ?_; rintro e0 w15 ⟨rfl, hb15⟩))
      go_ret
      exact ⟨rfl, HB14.out.trans (hb15.mono HB14.out.size)⟩
end Go.Proofs.YtlhlkdeaiobfaaaDoor
