/- Layer 15 (manifest): a manifest's check. -/
import Derived.Test.YtinbcehlpfnlaaaGreatDoorManB
import Derived.Deep.DeepCutAuto
import Derived.Deep.CutBlock
namespace Go.Proofs.YtinbcehlpfnlaaaGreatDoor
open Go.RowKit
set_option linter.unusedSimpArgs false
set_option linter.unusedVariables false
set_option maxRecDepth 100000

theorem mfV_36 {x : Mf} (h : x.ok) (a : Option Addr) (c : Nat) : (mfV x a c)[36]? = some (.slice a x.ps.length c) := by
  have := byteVs_length x.p
  rw [h.p] at this
  simp [mfV, this]
theorem mfV_range {x : Mf} (h : x.ok) (a : Option Addr) (c : Nat) {w : World} {b o : Nat} (hr : w.rangeAt b o (mfV x a c)) : w.rangeAt b (o + 4) (byteVs x.p) := by
  intro j v hv
  have hj : j < (byteVs x.p).length := (List.getElem?_eq_some_iff.1 hv).1
  rw [Nat.add_assoc]
  refine hr (4 + j) v ?_
  unfold mfV
  rw [List.append_assoc, List.getElem?_append_right (by simp)]
  simp only [List.length_cons, List.length_nil, Nat.zero_add, Nat.reduceAdd, Nat.add_sub_cancel_left]
  rw [List.getElem?_append_left hj]; exact hv
theorem BoxW.range {N t : Nat} {R : List Value} {w : World} (h : BoxW N R t w) : w.rangeAt N 0 R := fun j v hv => by rw [Nat.zero_add]; exact h.box.1 j v hv
theorem mcheck_eq (x : Mf) : x.check = if inR x.n 999999 = false ∨ inR x.f 1048576 = false ∨ inR x.t 1048576 = false ∨ inR x.r 1048576 = false then 1
    else if x.t < x.f ∨ x.n = 0 ∧ x.p ≠ zero32B then 2 else if 1024 < x.ps.length then 3
    else if (partsCheck x.ps x.f).1 ≠ 0 then (partsCheck x.ps x.f).1 else if (partsCheck x.ps x.f).2 ≠ x.t then 2 else 0 := by
  unfold Mf.check
  have e : (x.n < 0 ∨ 999999 < x.n ∨ x.f < 0 ∨ 1048576 < x.f ∨ x.t < 0 ∨ 1048576 < x.t ∨ x.r < 0 ∨ 1048576 < x.r) ↔ (inR x.n 999999 = false ∨ inR x.f 1048576 = false ∨ inR x.t 1048576 = false ∨ inR x.r 1048576 = false) := by
    simp [inR]; omega
  by_cases h : (x.n < 0 ∨ 999999 < x.n ∨ x.f < 0 ∨ 1048576 < x.f ∨ x.t < 0 ∨ 1048576 < x.t ∨ x.r < 0 ∨ 1048576 < x.r)
  · rw [if_pos h, if_pos (e.1 h)]
  · rw [if_neg h, if_neg (fun q => h (e.2 q))]
theorem partsCheck_next {l : List Pt} {k : Nat} (hk : k < l.length) (a : Int) : partsCheck (l.drop k) a = if l[k].check a ≠ 0 then (l[k].check a, a) else partsCheck (l.drop (k + 1)) (a + l[k].m) := by
  rw [List.drop_eq_getElem_cons hk]; rfl
theorem Pt.check_0 {x : Pt} {a : Int} (h : x.check a = 0) : 1 ≤ x.m ∧ x.m ≤ 64 ∧ x.f = a := by
  unfold Pt.check at h
  split at h
  · cases h
  · split at h
    · cases h
    · omega
def zeroPt : List Value := [.int .i64 0, .int .i64 0, .int .i64 0] ++ byteVs zero32B
theorem zpt_lit : (#[.int .i64 0, .int .i64 0, .int .i64 0, .int .u8 0, .int .u8 0, .int .u8 0, .int .u8 0, .int .u8 0, .int .u8 0, .int .u8 0, .int .u8 0, .int .u8 0, .int .u8 0, .int .u8 0, .int .u8 0, .int .u8 0, .int .u8 0, .int .u8 0, .int .u8 0, .int .u8 0, .int .u8 0, .int .u8 0, .int .u8 0, .int .u8 0, .int .u8 0, .int .u8 0, .int .u8 0, .int .u8 0, .int .u8 0, .int .u8 0, .int .u8 0, .int .u8 0, .int .u8 0, .int .u8 0, .int .u8 0] : Array Value) = zeroPt.toArray := rfl
theorem pt_size : (Tryz.prog.info? 53).map (·.size) = some 35 := by kernel_rfl
theorem mf_size : (Tryz.prog.info? 48).map (·.size) = some 37 := by kernel_rfl
theorem inR_le {x m : Int} (h : inR x m = true) : 0 ≤ x ∧ x ≤ m := by unfold inR at h; simpa using h
set_option maxHeartbeats 4000000 in
theorem mcheck_any (x : Mf) (a : Option Addr) (c : Nat) (w : World) (ho : x.ok) (hp : PtsAt w a c x.ps) :
    Calls Tryz.prog 26 #[.agg (mfV x a c).toArray] w fun e w' => e = .returned (errV x.check) ∧ Below w.heap.size w w' := by
  have HP := Lib.hid' hp
  have HO := Lib.hid' ho
  have hpl := hp.len
  have HC := Lib.hid' (mcheck_eq x)
  have H36 := mfV_36 ho a c
  clear hp
  go_enter Tryz.func26, Tryz.ntmps26
  go_upto_region 1 with fail
  have H0 : Sep w NoF [.box w.heap.size (mfV x a c) 48] (w.alloc (.cells (mfV x a c).toArray 48)) := (Sep.start w).allocAt (w.heap.size) (mfV x a c) 48 rfl
  have hrg := mfV_range ho a c (H0.box 0 rfl).range
  have HR := Lib.hid' hrg
  have c0 := H0.cell 0 rfl 0 (v := .int .i64 x.n) rfl
  have c1 := H0.cell 0 rfl 1 (v := .int .i64 x.f) rfl
  have c2 := H0.cell 0 rfl 2 (v := .int .i64 x.t) rfl
  have c3 := H0.cell 0 rfl 3 (v := .int .i64 x.r) rfl
  have c36 := H0.cell 0 rfl 36 H36
  clear hrg H36 ho
  have HBX := Lib.hid' (H0.box 0 rfl)
  have HB := Lib.hid' H0.toBelow
  have hN : w.heap.size < (w.alloc (.cells (mfV x a c).toArray 48)).heap.size := H0.lt 0 rfl
  generalize w.alloc (.cells (mfV x a c).toArray 48) = w1 at *
  cases hb0 : inR x.n 999999
  case false =>
    have HC2 := Lib.hid' (HC.out.trans (if_pos ((.inl hb0))))
    go_wp2_with (go_at_call 38; refine (min_any _ _ _).mono ?_; rintro e w' ⟨rfl, rfl⟩)
    go_ret
    exact ⟨ret_eq (by rw [HC2.out]; rfl), HB.out⟩
  cases hb1 : inR x.f 1048576
  case false =>
    have HC2 := Lib.hid' (HC.out.trans (if_pos (.inr ((.inl hb1)))))
    go_wp2_with (go_at_call 38; refine (min_any _ _ _).mono ?_; rintro e w' ⟨rfl, rfl⟩)
    go_ret
    exact ⟨ret_eq (by rw [HC2.out]; rfl), HB.out⟩
  cases hb2 : inR x.t 1048576
  case false =>
    have HC2 := Lib.hid' (HC.out.trans (if_pos (.inr (.inr ((.inl hb2))))))
    go_wp2_with (go_at_call 38; refine (min_any _ _ _).mono ?_; rintro e w' ⟨rfl, rfl⟩)
    go_ret
    exact ⟨ret_eq (by rw [HC2.out]; rfl), HB.out⟩
  cases hb3 : inR x.r 1048576
  case false =>
    have HC2 := Lib.hid' (HC.out.trans (if_pos (.inr (.inr (.inr (hb3))))))
    go_wp2_with (go_at_call 38; refine (min_any _ _ _).mono ?_; rintro e w' ⟨rfl, rfl⟩)
    go_ret
    exact ⟨ret_eq (by rw [HC2.out]; rfl), HB.out⟩
  replace HC := Lib.hid' (HC.out.trans (if_neg (by simp [hb0, hb1, hb2, hb3])))
  have r0 := inR_le hb0
  have r1 := inR_le hb1
  have r2 := inR_le hb2
  go_upto_region 3 with (go_at_call 38; refine (min_any _ _ _).mono ?_; rintro e w' ⟨rfl, rfl⟩)
  by_cases hft : x.t < x.f
  · have HC2 := Lib.hid' (HC.out.trans (if_pos (.inl hft)))
    go_wp2_with (go_at_call 38; refine (min_any _ _ _).mono ?_; rintro e w' ⟨rfl, rfl⟩)
    go_ret
    exact ⟨ret_eq (by rw [HC2.out]; rfl), HB.out⟩
  -- the way on, behind the second test
  have HON : ∀ wq, Below w1.heap.size w1 wq → Below w.heap.size w wq := fun wq h => HB.out.trans (h.mono (by omega))
  by_cases hnp : x.n = 0 ∧ x.p ≠ zero32B
  · have HC2 := Lib.hid' (HC.out.trans (if_pos (.inr hnp)))
    have hn0 : (x.n == 0) = true := by rw [beq_iff_eq]; exact hnp.1
    have hz0 : (x.p == zero32B) = false := by rw [beq_eq_false_iff_ne]; exact hnp.2
    have HSZ := Lib.hid' (szero_any x.p HO.out.p w1)
    rw [hz0] at HSZ
    have hz : (Tryz.prog.info? 45).map (·.size) = some (byteVs x.p).length := by rw [byteVs_length, HO.out.p]; exact dig_size
    have hb0' := hb0
    clear hnp
    go_wp2_with (first | (go_at_call 38; refine (min_any _ _ _).mono ?_; rintro e w' ⟨rfl, rfl⟩) | (refine wpList_load_atG HR.out (by kernel_rfl) 45 (.tmp 42) rfl rfl _ Tryz.underlying45 rfl hz ?_) | (go_at_call 39; refine HSZ.out.mono ?_; rintro e w2 ⟨rfl, hb⟩))
    go_ret
    exact ⟨ret_eq (by rw [HC2.out]; rfl), HON _ hb⟩
  replace HC := Lib.hid' (HC.out.trans (if_neg (by rintro (h | h); exact hft h; exact hnp h)))
  go_cut [31] (fun v31 wc => v31 = .bool false ∧ Hid (Below w1.heap.size w1 wc))
  case first =>
    have hft2 : ¬ (x.t < x.f) := hft
    by_cases hn : x.n = 0
    · have hn0 : (x.n == 0) = true := by rw [beq_iff_eq]; exact hn
      have hz0 : (x.p == zero32B) = true := by rw [beq_iff_eq]; exact Classical.byContradiction (fun h => hnp ⟨hn, h⟩)
      have HSZ := Lib.hid' (szero_any x.p HO.out.p w1)
      rw [hz0] at HSZ
      have hz : (Tryz.prog.info? 45).map (·.size) = some (byteVs x.p).length := by rw [byteVs_length, HO.out.p]; exact dig_size
      clear hnp hn
      go_wp2_with (first | (go_at_call 38; refine (min_any _ _ _).mono ?_; rintro e w' ⟨rfl, rfl⟩) | (refine wpList_load_atG HR.out (by kernel_rfl) 45 (.tmp 42) rfl rfl _ Tryz.underlying45 rfl hz ?_) | (go_at_call 39; refine HSZ.out.mono ?_; rintro e w2 ⟨rfl, hb⟩))
      go_meet
      exact ⟨rfl, Lib.hid' hb⟩
    · have hn0 : (x.n == 0) = false := by rw [beq_eq_false_iff_ne]; exact hn
      clear hnp hn
      go_wp2_with (go_at_call 38; refine (min_any _ _ _).mono ?_; rintro e w' ⟨rfl, rfl⟩)
      go_meet
      exact ⟨rfl, Lib.hid' (Below.refl _ _)⟩
  case rest =>
  obtain ⟨rfl, HW⟩ := hcut
  have hcb := HW.out
  replace c1 := (hcb.cell (p := ⟨w.heap.size, 1, none⟩) hN).trans c1
  replace c2 := (hcb.cell (p := ⟨w.heap.size, 2, none⟩) hN).trans c2
  replace c36 := (hcb.cell (p := ⟨w.heap.size, 36, none⟩) hN).trans c36
  have hNc := hcb.size
  have HBC := Lib.hid' (HON _ hcb)
  clear hcb HW c0 c3 HR HBX HB HON hb0 hb1 hb2 hb3 r0 r2 hnp
  replace hN : w.heap.size < wc.heap.size := by omega
  clear hNc
  by_cases hps : 1024 < x.ps.length
  · have HC2 := Lib.hid' (HC.out.trans (if_pos hps))
    have hps' : (1024 : Int) < (x.ps.length : Int) := by omega
    clear hps
    go_wp2
    go_ret
    exact ⟨ret_eq (by rw [HC2.out]; rfl), HBC.out⟩
  replace HC := Lib.hid' (HC.out.trans (if_neg hps))
  have hps' : ¬ (1024 : Int) < (x.ps.length : Int) := by omega
  go_wp2_with fail
  go_loopw [60, 3] (fun v60 v3 wr => ∃ (k : Nat) (at' : Int), v60 = .int .i64 k ∧ k ≤ x.ps.length ∧ v3 = .int .i64 at' ∧ x.f ≤ at' ∧ at' ≤ x.f + 64 * k ∧ Hid (partsCheck x.ps x.f = partsCheck (x.ps.drop k) at') ∧ Hid (Below wc.heap.size wc wr)) (fun v60 _ _ => x.ps.length - (intOf v60).toNat)
  case atStart => exact ⟨0, x.f, rfl, Nat.zero_le _, rfl, by omega, by omega, Lib.hid' (by rw [List.drop_zero]), Lib.hid' (Below.refl _ _)⟩
  case round =>
    obtain ⟨k, at', rfl, hk, rfl, ha1, ha2, HPC, HBr⟩ := hrel
    have hwr := HBr.out.size
    by_cases hlt : k < x.ps.length
    · have hlt' : (k : Int) < (x.ps.length : Int) := by omega
      have hk1024 : (x.ps.length : Int) ≤ 1024 := by omega
      obtain ⟨bb, off, rfl, hbb, hrg⟩ := PtsAt.at (HP.out.below (Nat.le_refl _) (HBC.out.trans (HBr.out.mono (by have := HBC.out.size; omega)))) HO.out.ps hlt
      have HG := Lib.hid' hrg
      have hyo := HO.out.ps _ (List.getElem_mem hlt)
      have HNX := Lib.hid' (HPC.out.trans (partsCheck_next hlt at'))
      clear hrg HPC
      generalize x.ps[k] = y at *
      have hpz : (Tryz.prog.info? 53).map (·.size) = some (ptV y).length := by rw [ptV_len hyo]; exact pt_size
      have hpl0 : zeroPt.length = (ptV y).length := by rw [ptV_len hyo]; rfl
      have hp1 : (ptV y).all (·.oneCell') = true := List.all_eq_true.2 ptV_one
      have HZ : Sep wr NoF [.box wr.heap.size zeroPt 53] (wr.alloc (.cells #[.int .i64 0, .int .i64 0, .int .i64 0, .int .u8 0, .int .u8 0, .int .u8 0, .int .u8 0, .int .u8 0, .int .u8 0, .int .u8 0, .int .u8 0, .int .u8 0, .int .u8 0, .int .u8 0, .int .u8 0, .int .u8 0, .int .u8 0, .int .u8 0, .int .u8 0, .int .u8 0, .int .u8 0, .int .u8 0, .int .u8 0, .int .u8 0, .int .u8 0, .int .u8 0, .int .u8 0, .int .u8 0, .int .u8 0, .int .u8 0, .int .u8 0, .int .u8 0, .int .u8 0, .int .u8 0, .int .u8 0] 53)) := (Sep.start wr).allocAt wr.heap.size zeroPt 53 rfl
      have HY := HZ.setRow 0 rfl (ptV y)
      go_upto_region 11 with (first | (refine wpList_load_at HG.out rfl 53 (.tmp 62) rfl rfl _ Tryz.underlying53 rfl hpz ?_) | (refine Sep.storeB HZ 0 rfl rfl 53 (.tmp 5) (.tmp 63) rfl (ptV y) rfl rfl hpz hpl0 hp1 ?_))
      have y1 := HY.cell 0 rfl 1 (v := .int .i64 y.m) rfl
      generalize ((wr.alloc (.cells #[.int .i64 0, .int .i64 0, .int .i64 0, .int .u8 0, .int .u8 0, .int .u8 0, .int .u8 0, .int .u8 0, .int .u8 0, .int .u8 0, .int .u8 0, .int .u8 0, .int .u8 0, .int .u8 0, .int .u8 0, .int .u8 0, .int .u8 0, .int .u8 0, .int .u8 0, .int .u8 0, .int .u8 0, .int .u8 0, .int .u8 0, .int .u8 0, .int .u8 0, .int .u8 0, .int .u8 0, .int .u8 0, .int .u8 0, .int .u8 0, .int .u8 0, .int .u8 0, .int .u8 0, .int .u8 0, .int .u8 0] 53)).setRow wr.heap.size (ptV y).toArray) = w5 at *
      clear HZ HG hpl0 hp1
      have HPK := Lib.hid' (pcheck_any y at' hyo.m hyo.s w5)
      go_upto_region 12 with (first | (refine Sep.loadB HY 0 rfl rfl 53 (.tmp 5) rfl rfl _ Tryz.underlying53 rfl hpz ?_) | (go_at_call 40; refine HPK.out.mono ?_; rintro e w6 ⟨rfl, hb6⟩))
      have HB6 := Lib.hid' (HBr.out.trans ((HY.toBelow.trans (hb6.mono HY.toBelow.size)).mono hwr))
      have y1' := (hb6.cell (p := ⟨wr.heap.size, 1, none⟩) (HY.lt 0 rfl)).trans y1
      have hl6 := hb6.size
      have hly := HY.lt 0 rfl
      clear y1 HY HPK hb6 hpz
      by_cases hy0 : y.check at' = 0
      · obtain ⟨hm1, hm2, _⟩ := Pt.check_0 hy0
        have hw1 : IntKind.i64.wrap (at' + y.m) = at' + y.m := IntWalk.i64_in _ (by omega)
        have HN2 := Lib.hid' (HNX.out.trans (if_neg (by simpa using hy0)))
        rw [hy0, errV_0]
        clear hy0 HNX
        go_wp2_with fail
        go_roundw
        case rel => exact ⟨k + 1, at' + y.m, by go_num, by omega, by first | rfl | rw [hw1] | simp [hw1], by omega, by omega, HN2, HB6⟩
        case measure => simp [intOf]; omega
      · have HN2 := Lib.hid' (HNX.out.trans (if_pos hy0))
        rw [errV_pos hy0]
        have hcp : (partsCheck x.ps x.f).1 ≠ 0 := by rw [HN2.out]; exact hy0
        have HC2 := Lib.hid' (HC.out.trans ((if_pos hcp).trans (by rw [HN2.out])))
        clear hcp HNX
        go_wp2_with fail
        refine bodyPost_ret (v := errV (y.check at')) (by rw [errV_pos hy0]; simp [results, Tryz.results26, go_sem]) rfl ?_
        exact ⟨ret_eq (by rw [HC2.out]), HBC.out.trans (HB6.out.mono (by have := HBC.out.size; omega))⟩
    · obtain rfl : k = x.ps.length := by omega
      have HN2 := Lib.hid' (show partsCheck x.ps x.f = (0, at') by rw [HPC.out, List.drop_length]; rfl)
      have c2' := (HBr.out.cell (p := ⟨w.heap.size, 2, none⟩) hN).trans c2
      have HBE := Lib.hid' (HBC.out.trans (HBr.out.mono (by have := HBC.out.size; omega)))
      have HCE := Lib.hid' (HC.out.trans (if_neg (by rw [HN2.out]; simp)))
      by_cases hat : at' = x.t
      · have HC2 := Lib.hid' (HCE.out.trans (if_neg (by rw [HN2.out]; simpa using hat)))
        have hb9 : (at' != x.t) = false := by rw [bne_eq_false_iff_eq]; exact hat
        clear hat
        go_wp2
        go_ret
        exact ⟨ret_eq (by rw [HC2.out]; rfl), HBE.out⟩
      · have HC2 := Lib.hid' (HCE.out.trans (if_pos (by rw [HN2.out]; exact hat)))
        have hb9 : (at' != x.t) = true := by rw [bne_iff_ne]; exact hat
        clear hat
        go_wp2
        go_ret
        exact ⟨ret_eq (by rw [HC2.out]; rfl), HBE.out⟩
  
end Go.Proofs.YtinbcehlpfnlaaaGreatDoor
