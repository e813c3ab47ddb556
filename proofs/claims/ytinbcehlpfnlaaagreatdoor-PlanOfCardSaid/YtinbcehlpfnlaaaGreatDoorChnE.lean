/- Layer 16 (chain): which manifests are a chain. -/
import Derived.Test.YtinbcehlpfnlaaaGreatDoorChnD
namespace Go.Proofs.YtinbcehlpfnlaaaGreatDoor
open Go.RowKit
set_option linter.unusedSimpArgs false
set_option linter.unusedVariables false
set_option maxRecDepth 100000

theorem SlV.cap {w : World} {a : Option Addr} {n m c : Nat} {cs : List Value} (h : SlV w (.slice a n c) m cs) : n = m ∧ m ≤ c ∧ c ≤ 9223372036854775807 := by
  obtain ⟨_, _, he, h1, h2, _⟩ := h; cases he; unfold maxLen at h2; exact ⟨rfl, h1, by omega⟩
set_option maxHeartbeats 8000000 in
theorem ccheck_any (X : List MfP) (a : Option Addr) (c : Nat) (w : World) (hX : MsAt w a c X) (hL : Laid w) :
    Calls Tryz.prog 15 #[.slice a X.length c] w fun e w' => e = .returned (.tuple #[.int .i64 ((chkM X).1 : Nat), errV (chkM X).2]) ∧ Below w.heap.size w w' := by
  have hlen := hX.len
  have hcap := (SlV.cap hX.row).2.1
  have hcap2 := (SlV.cap hX.row).2.2
  have HX := Lib.hid' hX
  have HL := Lib.hid' hL
  clear hX hL
  go_enter Tryz.func15, Tryz.ntmps15
  go_wp2_with fail
  go_loopw [9] (fun v9 wr => ∃ k : Nat, v9 = .int .i64 k ∧ k ≤ X.length ∧ Hid (chkM X = chk (X.take k) (X.drop k)) ∧ Hid (Below w.heap.size w wr)) (fun v9 _ => X.length - (intOf v9).toNat)
  case atStart => exact ⟨0, rfl, Nat.zero_le _, Lib.hid' rfl, Lib.hid' (Below.refl _ _)⟩
  case round =>
    obtain ⟨k, rfl, hk, HC, HB⟩ := hrel
    by_cases hlt : k < X.length
    · have HXr := Lib.hid' (HX.out.below (Nat.le_refl _) HB.out)
      obtain ⟨bb, off, rfl, hbb, hrg⟩ := MsAt.at HXr.out hlt
      have HG := Lib.hid' hrg
      have hkc : k ≤ c := by omega
      have hok := HX.out.ok _ (List.getElem_mem hlt)
      have heach := HXr.out.each _ (List.getElem_mem hlt)
      have HN := Lib.hid' (HC.out.trans (chk_next hlt))
      have HTK := Lib.hid' (show MsAt wr (some ⟨bb, off, none⟩) c (X.take k) from HXr.out.take (by omega))
      have hy37 := mfV_len hok X[k].2.1 X[k].2.2
      have hTl : (X.take k).length = k := by rw [List.length_take]; omega
      have hLr := Lib.hid' (HL.out.below (Nat.le_refl _) HB.out)
      have HCK := Lib.hid' (fun w1 (H : Below wr.heap.size wr w1) => mcheck_any X[k].1 X[k].2.1 X[k].2.2 w1 hok (heach.below (Nat.le_refl _) H))
      have HFO := Lib.hid' (fun w1 (H : Below wr.heap.size wr w1) => follows_any (X.take k) (some ⟨bb, off, none⟩) c X[k] w1 (HTK.out.below (Nat.le_refl _) H) hok (hLr.out.below (Nat.le_refl _) H))
      rw [hTl] at HFO
      have HNX := Lib.hid' (show chkM X = if X[k].1.check ≠ 0 then (k, X[k].1.check) else if folB (X.take k) X[k].1 = false then (k, 12) else chk (X.take (k + 1)) (X.drop (k + 1)) from HN.out)
      have hmz : (Tryz.prog.info? 48).map (·.size) = some (mV X[k]).length := by unfold mV; rw [hy37]; exact mf_size
      have hpl0 : zeroMV.length = (mV X[k]).length := by unfold mV; rw [hy37]; rfl
      have hp1 : (mV X[k]).all (·.oneCell') = true := List.all_eq_true.2 mfV_one
      have hMV : (mV X[k]) = mfV X[k].1 X[k].2.1 X[k].2.2 := rfl
      rw [← hMV] at HCK
      clear hrg heach hok hy37 HTK HN HXr hMV hTl
      generalize folB (X.take k) X[k].1 = fb at *
      generalize X[k].1.check = ck at *
      generalize mV X[k] = Y at *
      have HZ : Sep wr NoF [.box wr.heap.size zeroMV 48] (wr.alloc (.cells #[.int .i64 0, .int .i64 0, .int .i64 0, .int .i64 0, .int .u8 0, .int .u8 0, .int .u8 0, .int .u8 0, .int .u8 0, .int .u8 0, .int .u8 0, .int .u8 0, .int .u8 0, .int .u8 0, .int .u8 0, .int .u8 0, .int .u8 0, .int .u8 0, .int .u8 0, .int .u8 0, .int .u8 0, .int .u8 0, .int .u8 0, .int .u8 0, .int .u8 0, .int .u8 0, .int .u8 0, .int .u8 0, .int .u8 0, .int .u8 0, .int .u8 0, .int .u8 0, .int .u8 0, .int .u8 0, .int .u8 0, .int .u8 0, .slice none 0 0] 48)) := (Sep.start wr).allocAt wr.heap.size zeroMV 48 rfl
      have HY := HZ.setRow 0 rfl Y
      go_upto_region 4 with (first | (refine wpList_load_at HG.out rfl 48 (.tmp 12) rfl rfl _ Tryz.underlying48 rfl hmz ?_) | (refine Sep.storeB HZ 0 rfl rfl 48 (.tmp 5) (.tmp 13) rfl Y rfl rfl hmz hpl0 hp1 ?_))
      generalize ((wr.alloc (.cells #[.int .i64 0, .int .i64 0, .int .i64 0, .int .i64 0, .int .u8 0, .int .u8 0, .int .u8 0, .int .u8 0, .int .u8 0, .int .u8 0, .int .u8 0, .int .u8 0, .int .u8 0, .int .u8 0, .int .u8 0, .int .u8 0, .int .u8 0, .int .u8 0, .int .u8 0, .int .u8 0, .int .u8 0, .int .u8 0, .int .u8 0, .int .u8 0, .int .u8 0, .int .u8 0, .int .u8 0, .int .u8 0, .int .u8 0, .int .u8 0, .int .u8 0, .int .u8 0, .int .u8 0, .int .u8 0, .int .u8 0, .int .u8 0, .slice none 0 0] 48)).setRow wr.heap.size Y.toArray) = w5 at *
      clear HZ HG hpl0 hp1
      have HCK5 := Lib.hid' (HCK.out w5 HY.toBelow)
      by_cases hck : ck = 0
      · have HN1 := Lib.hid' (HNX.out.trans (if_neg (by simpa using hck)))
        rw [hck, errV_0] at HCK5
        clear hck HNX HCK
        go_upto_region 7 with (first | (refine Sep.loadB HY 0 rfl rfl 48 (.tmp 5) rfl rfl _ Tryz.underlying48 rfl hmz ?_) | (go_at_call 26; refine HCK5.out.mono ?_; rintro e w6 ⟨rfl, hb6⟩))
        have H6 := HY.below hb6
        have HRG := Lib.hid' (fun wq (hb : Below w6.heap.size w6 wq) => World.rangeAt.below (H6.box 0 rfl).range hb)
        have HFO6 := Lib.hid' (fun wq (hb : Below w6.heap.size w6 wq) => HFO.out wq (H6.below hb).toBelow)
        have HB6 := Lib.hid' (HB.out.trans (H6.toBelow.mono HB.out.size))
        have hwr6 : w.heap.size ≤ w6.heap.size := Nat.le_trans HB.out.size H6.toBelow.size
        clear HCK5 HFO HY hb6 H6 HB hLr
        generalize wr.heap.size = N at *
        refine wp_region_held_drew (S := (fun w' => Below w6.heap.size w6 w')) (by kernel_rfl) ((Below.refl _ _).drew) (fun hH0 => ?_)
        refine wpAnyH_take (i := 0) (oi := _) (v := .slice (some ⟨bb, off, none⟩) X.length c) rfl (by kernel_rfl) (by kernel_rfl) (by kernel_rfl) (fun _ _ _ h => h) (Or.inl ⟨by rfl, ?_⟩) hH0 ?_
        · intro w hSw; go_simp
        simp only [Act.put, List.getElem_toArray, List.getElem_cons_zero, List.getElem_cons_succ, List.setIfInBounds_toArray, List.set_cons_zero, List.set_cons_succ]
        refine wpAnyH_take (i := 1) (oi := _) (v := .int .i64 (k : Int)) rfl (by kernel_rfl) (by kernel_rfl) (by kernel_rfl) (fun _ _ _ h => h) (Or.inl ⟨by rfl, ?_⟩) hH0 ?_
        · intro w hSw; go_simp
        simp only [Act.put, List.getElem_toArray, List.getElem_cons_zero, List.getElem_cons_succ, List.setIfInBounds_toArray, List.set_cons_zero, List.set_cons_succ]
        refine wpAnyH_take (i := 2) (oi := _) (v := .slice (some ⟨bb, off, none⟩) k c) rfl (by kernel_rfl) (by kernel_rfl) (by kernel_rfl) (fun _ _ _ h => h) (Or.inl ⟨by rfl, ?_⟩) hH0 ?_
        · intro w hSw; go_simp
        simp only [Act.put, List.getElem_toArray, List.getElem_cons_zero, List.getElem_cons_succ, List.setIfInBounds_toArray, List.set_cons_zero, List.set_cons_succ]
        refine wpAnyH_take (i := 3) (oi := _) (v := .agg Y.toArray) rfl (by kernel_rfl) (by kernel_rfl) (by kernel_rfl) (fun _ _ _ h => h) (yieldsIf_load_mid (by kernel_rfl) 48 (.tmp 5) rfl N 0 rfl Y _ (fun wq hb => HRG.out wq hb) Tryz.underlying48 rfl hmz) hH0 ?_
        simp only [Act.put, List.getElem_toArray, List.getElem_cons_zero, List.getElem_cons_succ, List.setIfInBounds_toArray, List.set_cons_zero, List.set_cons_succ]
        refine wpAnyH_ready (rs := [4]) (by kernel_rfl) (by simp) (AllReadyH.cons (o := _) rfl (fun K hK => ?_) AllReadyH.nil)
        go_simp
        refine (HFO6.out _ hH0).mono ?_
        rintro en wx ⟨rfl, hbx⟩
        refine hK.out _ _ ?_ (fun hH1 => ?_)
        · exact Below.trans hH0 (hbx.mono (Below.size hH0))
        clear hK K
        refine wpAnyH_take (i := 5) (oi := _) (v := .bool (!fb)) rfl (by kernel_rfl) (by kernel_rfl) (by kernel_rfl) (fun _ _ _ h => h) (Or.inl ⟨by rfl, ?_⟩) hH1 ?_
        · intro w hSw; go_simp
        simp only [Act.put, List.getElem_toArray, List.getElem_cons_zero, List.getElem_cons_succ, List.setIfInBounds_toArray, List.set_cons_zero, List.set_cons_succ]
        refine wpAnyH_done (by kernel_rfl) ?_ _
        have HBE := Lib.hid' (HB6.out.trans (Below.mono hH1 hwr6))
        cases fb with
        | true =>
          have HN2 := Lib.hid' (HN1.out.trans (if_neg (by decide)))
          go_wp2_with fail
          go_roundw
          case rel => exact ⟨k + 1, by go_num, by omega, HN2, HBE⟩
          case measure => simp [intOf]; omega
        | false =>
          have HN2 := Lib.hid' (HN1.out.trans (if_pos rfl))
          go_wp2_with fail
          go_ret2
          exact ⟨ret_eq (by rw [HN2.out]; rfl), HBE.out⟩
      · have HN1 := Lib.hid' (HNX.out.trans (if_pos hck))
        rw [errV_pos hck] at HCK5
        have HE := Lib.hid' (errV_pos hck)
        clear hck HNX HCK HFO
        go_upto_region 5 with (first | (refine Sep.loadB HY 0 rfl rfl 48 (.tmp 5) rfl rfl _ Tryz.underlying48 rfl hmz ?_) | (go_at_call 26; refine HCK5.out.mono ?_; rintro e w6 ⟨rfl, hb6⟩))
        have HB6 := Lib.hid' (HB.out.trans ((HY.below hb6).toBelow.mono HB.out.size))
        go_wp2_with fail
        go_ret2
        exact ⟨ret_eq (by rw [HN1.out, HE.out]; rfl), HB6.out⟩
    · obtain rfl : k = X.length := by omega
      have HN2 := Lib.hid' (HC.out.trans (chk_end X))
      go_wp2_with fail
      go_ret2
      exact ⟨ret_eq (by rw [HN2.out]; rfl), HB.out⟩
end Go.Proofs.YtinbcehlpfnlaaaGreatDoor
