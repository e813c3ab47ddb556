/- The document's checks of manifests and chains. -/
import Derived.Test.YtinbcehlpfnlaaaGreatDoorColS
import Derived.Deep.DeepCutAuto
import Derived.Deep.CutBlock
import Derived.Test.YtinbcehlpfnlaaaGreatDoorDocA
import Derived.Great.Walk
import Derived.Test.YtinbcehlpfnlaaaGreatDoorChnS
import Derived.Test.YtinbcehlpfnlaaaGreatDoorAlvS
import Derived.Test.YtinbcehlpfnlaaaGreatDoorStpL
namespace Go.Proofs.YtinbcehlpfnlaaaGreatDoor
open Go.RowKit
set_option linter.unusedSimpArgs false
set_option linter.unusedVariables false
set_option maxRecDepth 100000

def v3 (x : Mf) (j : Nat) : Int := [x.f, x.t, x.r].getD j 0
def in3 (x : Mf) (j : Nat) : Prop := 0 ≤ v3 x j ∧ v3 x j ≤ 1048576
theorem in3_bad {x : Mf} {k : Nat} (hk : k < 3) (h : ¬ in3 x k) : x.n < 0 ∨ 999999 < x.n ∨ x.f < 0 ∨ 1048576 < x.f ∨ x.t < 0 ∨ 1048576 < x.t ∨ x.r < 0 ∨ 1048576 < x.r := by
  unfold in3 v3 at h
  obtain rfl | rfl | rfl : k = 0 ∨ k = 1 ∨ k = 2 := by omega
  · have h2 : ¬ (0 ≤ x.f ∧ x.f ≤ 1048576) := h
    omega
  · have h2 : ¬ (0 ≤ x.t ∧ x.t ≤ 1048576) := h
    omega
  · have h2 : ¬ (0 ≤ x.r ∧ x.r ≤ 1048576) := h
    omega
theorem in3_all {x : Mf} (h : ∀ j, j < 3 → in3 x j) : 0 ≤ x.f ∧ x.f ≤ 1048576 ∧ 0 ≤ x.t ∧ x.t ≤ 1048576 ∧ 0 ≤ x.r ∧ x.r ≤ 1048576 :=
  ⟨(h 0 (by decide)).1, (h 0 (by decide)).2, (h 1 (by decide)).1, (h 1 (by decide)).2, (h 2 (by decide)).1, (h 2 (by decide)).2⟩
theorem v3_get (x : Mf) {k : Nat} (h : k < 3) : ([.int .i64 x.f, .int .i64 x.t, .int .i64 x.r] : List Value)[k]? = some (.int .i64 (v3 x k)) := by
  obtain rfl | rfl | rfl : k = 0 ∨ k = 1 ∨ k = 2 := by omega
  · rfl
  · rfl
  · rfl
theorem pt15_size : (Tryz.prog.info? 69).map (·.size) = some 35 := by kernel_rfl
theorem neqD3 (a : List UInt8) (ha : a.length = 32) (w : World) : (Op.equalIn 10000 64 (.agg (byteVs a).toArray) (.agg #[.int .u8 0, .int .u8 0, .int .u8 0, .int .u8 0, .int .u8 0, .int .u8 0, .int .u8 0, .int .u8 0, .int .u8 0, .int .u8 0, .int .u8 0, .int .u8 0, .int .u8 0, .int .u8 0, .int .u8 0, .int .u8 0, .int .u8 0, .int .u8 0, .int .u8 0, .int .u8 0, .int .u8 0, .int .u8 0, .int .u8 0, .int .u8 0, .int .u8 0, .int .u8 0, .int .u8 0, .int .u8 0, .int .u8 0, .int .u8 0, .int .u8 0, .int .u8 0])).run Tryz.prog w = .ok (a == zero32B) w := eqD3 a zero32B ha rfl w
set_option maxHeartbeats 16000000 in
theorem rcheck_any (x : Mf) (a : Option Addr) (c : Nat) (w : World) (ho : x.ok) (hp : PtsAt w a c x.ps) :
    Calls Tryz.prog 31 #[.agg (mfV x a c).toArray] w fun e w' => e = .returned (.int .i64 ((x.check : Nat) : Int)) ∧ Below w.heap.size w w' := by
  have HP := Lib.hid' hp
  have HO := Lib.hid' ho
  have hpl := hp.len
  have HC := Lib.hid' (show x.check = if x.n < 0 ∨ 999999 < x.n ∨ x.f < 0 ∨ 1048576 < x.f ∨ x.t < 0 ∨ 1048576 < x.t ∨ x.r < 0 ∨ 1048576 < x.r then 1
    else if x.t < x.f ∨ x.n = 0 ∧ x.p ≠ zero32B then 2 else if 1024 < x.ps.length then 3
    else if (partsCheck x.ps x.f).1 ≠ 0 then (partsCheck x.ps x.f).1 else if (partsCheck x.ps x.f).2 ≠ x.t then 2 else 0 from rfl)
  have H36 := mfV_36 ho a c
  clear hp
  go_enter Tryz.func31, Tryz.ntmps31
  go_upto_region 1 with fail
  have H0 : Sep w NoF [.box w.heap.size (mfV x a c) 67] (w.alloc (.cells (mfV x a c).toArray 67)) := (Sep.start w).allocAt (w.heap.size) (mfV x a c) 67 rfl
  have c1 := H0.cell 0 rfl 1 (v := .int .i64 x.f) rfl
  have c2 := H0.cell 0 rfl 2 (v := .int .i64 x.t) rfl
  have c3 := H0.cell 0 rfl 3 (v := .int .i64 x.r) rfl
  have hN : w.heap.size < (w.alloc (.cells (mfV x a c).toArray 67)).heap.size := H0.lt 0 rfl
  generalize w.alloc (.cells (mfV x a c).toArray 67) = w1 at *
  have H1 := H0.allocAt w1.heap.size [.int .i64 x.f, .int .i64 x.t, .int .i64 x.r] 3 rfl
  go_wp2_with fail
  generalize w1.alloc (.cells #[.int .i64 x.f, .int .i64 x.t, .int .i64 x.r] 3) = w2 at *
  generalize w1.heap.size = N14 at *
  have HB := Lib.hid' H1.toBelow
  have c0 := H1.cell 1 rfl 0 (v := .int .i64 x.n) rfl
  have d1 := H1.cell 1 rfl 1 (v := .int .i64 x.f) rfl
  have d2 := H1.cell 1 rfl 2 (v := .int .i64 x.t) rfl
  have c36 := H1.cell 1 rfl 36 H36
  have HCL := Lib.hid' (fun k (hk : k < 3) => H1.cell 0 rfl k (v := .int .i64 (v3 x k)) (v3_get x hk))
  have hrg := mfV_range ho a c (H1.box 1 rfl).range
  have HR := Lib.hid' hrg
  have hM := H1.lt 1 rfl
  clear c1 c2 c3 hN H0 H36 hrg ho
  go_loop [16] (fun v16 => ∃ k : Nat, v16 = .int .i64 (k : Nat) ∧ k ≤ 3 ∧ Hid (∀ j, j < k → in3 x j)) (fun v16 => 3 - (intOf v16).toNat)
  case atStart => exact ⟨0, rfl, by decide, Lib.hid' (fun j hj => by omega)⟩
  case round =>
    obtain ⟨k, rfl, hk, HK⟩ := hrel
    by_cases hk3 : k < 3
    · have hk3' : (k : Int) < 3 := by omega
      have cy := HCL.out k hk3
      by_cases hy : in3 x k
      · have HK2 := Lib.hid' (show ∀ j, j < k + 1 → in3 x j from fun j hj => by
          by_cases hjk : j = k
          · subst hjk; exact hy
          · exact HK.out j (by omega))
        have y0 : ¬ v3 x k < 0 := by have := hy.1; omega
        have y1 : ¬ 1048576 < v3 x k := by have := hy.2; omega
        clear hy HK
        generalize v3 x k = y at *
        go_wp2_with fail
        go_round
        case rel => exact ⟨k + 1, by go_num, by omega, HK2⟩
        case measure => simp [intOf]; omega
      · have HC2 := Lib.hid' (HC.out.trans (if_pos (in3_bad hk3 hy)))
        by_cases y0 : v3 x k < 0
        · clear hy HK
          generalize v3 x k = y at *
          go_wp2_with fail
          go_ret
          exact ⟨ret_eq (by rw [HC2.out]; rfl), HB.out⟩
        · have y1 : 1048576 < v3 x k := by
            have : ¬ (0 ≤ v3 x k ∧ v3 x k ≤ 1048576) := hy
            omega
          clear hy HK
          generalize v3 x k = y at *
          go_wp2_with fail
          go_ret
          exact ⟨ret_eq (by rw [HC2.out]; rfl), HB.out⟩
    obtain rfl : k = 3 := by omega
    obtain ⟨f0, f1, t0, t1, r0, r1⟩ := in3_all HK.out
    clear HK HCL hk hk3
    rw [show ((3 : Nat) : Int) = 3 from rfl]
    by_cases hn0 : x.n < 0
    · have HC2 := Lib.hid' (HC.out.trans (if_pos (.inl hn0)))
      go_wp2_with fail
      go_ret
      exact ⟨ret_eq (by rw [HC2.out]; rfl), HB.out⟩
    by_cases hn1 : 999999 < x.n
    · have HC2 := Lib.hid' (HC.out.trans (if_pos (.inr (.inl hn1))))
      go_wp2_with fail
      go_ret
      exact ⟨ret_eq (by rw [HC2.out]; rfl), HB.out⟩
    replace HC := Lib.hid' (HC.out.trans (if_neg (by omega)))
    by_cases hft : x.t < x.f
    · have HC2 := Lib.hid' (HC.out.trans (if_pos (.inl hft)))
      go_wp2_with fail
      go_ret
      exact ⟨ret_eq (by rw [HC2.out]; rfl), HB.out⟩
    have hz : (Tryz.prog.info? 64).map (·.size) = some (byteVs x.p).length := by rw [byteVs_length, HO.out.p]; exact rd_size
    have HEQ := Lib.hid' (fun wq => neqD3 x.p HO.out.p wq)
    by_cases hnp : x.n = 0 ∧ x.p ≠ zero32B
    · have HC2 := Lib.hid' (HC.out.trans (if_pos (.inr hnp)))
      have hn0 : (x.n == 0) = true := by rw [beq_iff_eq]; exact hnp.1
      have hz0 : (x.p == zero32B) = false := by rw [beq_eq_false_iff_ne]; exact hnp.2
      rw [hz0] at HEQ
      have HQ := HEQ.out
      clear hnp HEQ hz0
      generalize byteVs x.p = PX at *
      go_wp2_with (refine wpList_load_atG HR.out (by kernel_rfl) 64 (.tmp 45) rfl rfl _ Tryz.underlying64 rfl hz ?_)
      go_ret
      exact ⟨ret_eq (by rw [HC2.out]; rfl), HB.out⟩
    replace HC := Lib.hid' (HC.out.trans (if_neg (by rintro (h | h); exact hft h; exact hnp h)))
    go_upto_region 9 with fail
    go_cut [50] (fun v50 wc => v50 = .bool false ∧ wc = w2)
    case first =>
      by_cases hn : x.n = 0
      · have hn0 : (x.n == 0) = true := by rw [beq_iff_eq]; exact hn
        have hz0 : (x.p == zero32B) = true := by rw [beq_iff_eq]; exact Classical.byContradiction (fun h => hnp ⟨hn, h⟩)
        rw [hz0] at HEQ
        have HQ := HEQ.out
        clear hnp hn HEQ hz0
        generalize byteVs x.p = PX at *
        go_wp2_with (refine wpList_load_atG HR.out (by kernel_rfl) 64 (.tmp 45) rfl rfl _ Tryz.underlying64 rfl hz ?_)
        go_meet
        exact ⟨rfl, rfl⟩
      · have hn0 : (x.n == 0) = false := by rw [beq_eq_false_iff_ne]; exact hn
        clear hnp hn
        go_wp2_with fail
        go_meet
        exact ⟨rfl, rfl⟩
    case rest =>
    obtain ⟨rfl, rfl⟩ := hcut
    clear HEQ hz HR c0 hnp hn0 hn1
    by_cases hps : 1024 < x.ps.length
    · have HC2 := Lib.hid' (HC.out.trans (if_pos hps))
      have hps' : (1024 : Int) < (x.ps.length : Int) := by omega
      clear hps
      go_wp2_with fail
      go_ret
      exact ⟨ret_eq (by rw [HC2.out]; rfl), HB.out⟩
    replace HC := Lib.hid' (HC.out.trans (if_neg hps))
    have hps' : ¬ (1024 : Int) < (x.ps.length : Int) := by omega
    clear hps
    go_wp2_with fail
    go_loopw [60, 5] (fun v60 v5 wr => ∃ (k : Nat) (at' : Int), v60 = .int .i64 k ∧ k ≤ x.ps.length ∧ v5 = .int .i64 at' ∧ x.f ≤ at' ∧ at' ≤ x.f + 64 * k ∧ Hid (partsCheck x.ps x.f = partsCheck (x.ps.drop k) at') ∧ Hid (Below wc.heap.size wc wr)) (fun v60 _ _ => x.ps.length - (intOf v60).toNat)
    case atStart => exact ⟨0, x.f, rfl, Nat.zero_le _, rfl, by omega, by omega, Lib.hid' (by rw [List.drop_zero]), Lib.hid' (Below.refl _ _)⟩
    case round =>
      obtain ⟨k, at', rfl, hk, rfl, ha1, ha2, HPC, HBr⟩ := hrel
      have hwr := HBr.out.size
      by_cases hlt : k < x.ps.length
      · have hlt' : (k : Int) < (x.ps.length : Int) := by omega
        have hk1024 : (x.ps.length : Int) ≤ 1024 := by omega
        obtain ⟨bb, off, rfl, hbb, hrg⟩ := PtsAt.at (HP.out.below (Nat.le_refl _) (HB.out.trans (HBr.out.mono (by have := HB.out.size; omega)))) HO.out.ps hlt
        have HG := Lib.hid' hrg
        have hyo := HO.out.ps _ (List.getElem_mem hlt)
        have HNX := Lib.hid' (HPC.out.trans (partsCheck_next hlt at'))
        clear hrg HPC
        generalize x.ps[k] = y at *
        have hpz : (Tryz.prog.info? 69).map (·.size) = some (ptV y).length := by rw [ptV_len hyo]; exact pt15_size
        have hpl0 : zeroPt.length = (ptV y).length := by rw [ptV_len hyo]; rfl
        have hp1 : (ptV y).all (·.oneCell') = true := List.all_eq_true.2 ptV_one
        have HZ : Sep wr NoF [.box wr.heap.size zeroPt 69] (wr.alloc (.cells #[.int .i64 0, .int .i64 0, .int .i64 0, .int .u8 0, .int .u8 0, .int .u8 0, .int .u8 0, .int .u8 0, .int .u8 0, .int .u8 0, .int .u8 0, .int .u8 0, .int .u8 0, .int .u8 0, .int .u8 0, .int .u8 0, .int .u8 0, .int .u8 0, .int .u8 0, .int .u8 0, .int .u8 0, .int .u8 0, .int .u8 0, .int .u8 0, .int .u8 0, .int .u8 0, .int .u8 0, .int .u8 0, .int .u8 0, .int .u8 0, .int .u8 0, .int .u8 0, .int .u8 0, .int .u8 0, .int .u8 0] 69)) := (Sep.start wr).allocAt wr.heap.size zeroPt 69 rfl
        have HY := HZ.setRow 0 rfl (ptV y)
        go_upto_region 17 with (first | (refine wpList_load_at HG.out rfl 69 (.tmp 62) rfl rfl _ Tryz.underlying69 rfl hpz ?_) | (refine Sep.storeB HZ 0 rfl rfl 69 (.tmp 7) (.tmp 63) rfl (ptV y) rfl rfl hpz hpl0 hp1 ?_))
        have y0 := HY.cell 0 rfl 0 (v := .int .i64 y.f) rfl
        have y1 := HY.cell 0 rfl 1 (v := .int .i64 y.m) rfl
        have y2 := HY.cell 0 rfl 2 (v := .int .i64 y.s) rfl
        generalize (wr.alloc (.cells #[.int .i64 0, .int .i64 0, .int .i64 0, .int .u8 0, .int .u8 0, .int .u8 0, .int .u8 0, .int .u8 0, .int .u8 0, .int .u8 0, .int .u8 0, .int .u8 0, .int .u8 0, .int .u8 0, .int .u8 0, .int .u8 0, .int .u8 0, .int .u8 0, .int .u8 0, .int .u8 0, .int .u8 0, .int .u8 0, .int .u8 0, .int .u8 0, .int .u8 0, .int .u8 0, .int .u8 0, .int .u8 0, .int .u8 0, .int .u8 0, .int .u8 0, .int .u8 0, .int .u8 0, .int .u8 0, .int .u8 0] 69)).setRow wr.heap.size (ptV y).toArray = w5 at *
        have HB6 := Lib.hid' (HBr.out.trans (HY.toBelow.mono hwr))
        have HBE := Lib.hid' (HB.out.trans (HB6.out.mono (by have := HB.out.size; omega)))
        clear HZ HG hpl0 hp1 HY hpz
        have HCB := Lib.hid' (fun (n : Nat) (hn : n ≠ 0) (h : y.check at' = n) => show x.check = n from by
          have h0 : y.check at' ≠ 0 := by rw [h]; exact hn
          have HN2 := HNX.out.trans (if_pos h0)
          have hcp : (partsCheck x.ps x.f).1 ≠ 0 := by rw [HN2]; exact h0
          exact (HC.out.trans ((if_pos hcp).trans (by rw [HN2]))).trans h)
        have HYC := Lib.hid' (show y.check at' = if y.m < 1 ∨ 64 < y.m ∨ y.s < 1 ∨ 65536 < y.s then 1 else if y.f ≠ at' then 2 else 0 from rfl)
        by_cases a1 : y.m < 1
        · have HC2 := Lib.hid' (HCB.out 1 (by decide) (HYC.out.trans (if_pos (.inl a1))))
          go_wp2_with fail
          go_ret
          exact ⟨ret_eq (by rw [HC2.out]; rfl), HBE.out⟩
        by_cases a2 : 64 < y.m
        · have HC2 := Lib.hid' (HCB.out 1 (by decide) (HYC.out.trans (if_pos (.inr (.inl a2)))))
          go_wp2_with fail
          go_ret
          exact ⟨ret_eq (by rw [HC2.out]; rfl), HBE.out⟩
        by_cases a3 : y.s < 1
        · have HC2 := Lib.hid' (HCB.out 1 (by decide) (HYC.out.trans (if_pos (.inr (.inr (.inl a3))))))
          go_wp2_with fail
          go_ret
          exact ⟨ret_eq (by rw [HC2.out]; rfl), HBE.out⟩
        by_cases a4 : 65536 < y.s
        · have HC2 := Lib.hid' (HCB.out 1 (by decide) (HYC.out.trans (if_pos (.inr (.inr (.inr a4))))))
          go_wp2_with fail
          go_ret
          exact ⟨ret_eq (by rw [HC2.out]; rfl), HBE.out⟩
        by_cases a5 : y.f = at'
        rotate_left
        · have HC2 := Lib.hid' (HCB.out 2 (by decide) ((HYC.out.trans (if_neg (by omega))).trans (if_pos a5)))
          have a5' : (y.f != at') = true := by rw [bne_iff_ne]; exact a5
          clear a5
          go_wp2_with fail
          go_ret
          exact ⟨ret_eq (by rw [HC2.out]; rfl), HBE.out⟩
        have a5' : (y.f != at') = false := by rw [bne_eq_false_iff_eq]; exact a5
        have hw1 : IntKind.i64.wrap (at' + y.m) = at' + y.m := IntWalk.i64_in _ (by omega)
        have HN2 := Lib.hid' (HNX.out.trans (if_neg (by rw [HYC.out, if_neg (by omega), if_neg (by simpa using a5)]; simp)))
        clear a5 HNX HCB HYC
        go_wp2_with fail
        go_roundw
        case rel => exact ⟨k + 1, at' + y.m, by go_num, by omega, by first | rfl | rw [hw1] | simp [hw1], by omega, by omega, HN2, HB6⟩
        case measure => simp [intOf]; omega
      · obtain rfl : k = x.ps.length := by omega
        have HN2 := Lib.hid' (show partsCheck x.ps x.f = (0, at') by rw [HPC.out, List.drop_length]; rfl)
        have c2' := (HBr.out.cell (p := ⟨w.heap.size, 2, none⟩) hM).trans d2
        have HBE := Lib.hid' (HB.out.trans (HBr.out.mono (by have := HB.out.size; omega)))
        have HCE := Lib.hid' (HC.out.trans (if_neg (by rw [HN2.out]; simp)))
        by_cases hat : at' = x.t
        · have HC2 := Lib.hid' (HCE.out.trans (if_neg (by rw [HN2.out]; simpa using hat)))
          have hb9 : (at' != x.t) = false := by rw [bne_eq_false_iff_eq]; exact hat
          clear hat
          go_wp2_with fail
          go_ret
          exact ⟨ret_eq (by rw [HC2.out]; rfl), HBE.out⟩
        · have HC2 := Lib.hid' (HCE.out.trans (if_pos (by rw [HN2.out]; exact hat)))
          have hb9 : (at' != x.t) = true := by rw [bne_iff_ne]; exact hat
          clear hat
          go_wp2_with fail
          go_ret
          exact ⟨ret_eq (by rw [HC2.out]; rfl), HBE.out⟩
end Go.Proofs.YtinbcehlpfnlaaaGreatDoor

namespace Go.Proofs.YtinbcehlpfnlaaaGreatDoor
open Go.RowKit
set_option linter.unusedSimpArgs false
set_option linter.unusedVariables false
set_option maxRecDepth 100000

theorem own_far {w : World} {base e size n : Nat} {v : Value} {xs : List Value} (h : w.ownsRow base e size v n xs) : SlIn (fun k => base ≤ k ∧ k < w.heap.size) v := by
  intro p m c hv
  rcases h.2 with ⟨h1, _⟩ | ⟨g, cap, cur, h1, h2, h3, _⟩
  · rw [h1] at hv; cases hv
  · rw [h1] at hv
    simp only [Value.slice.injEq, Option.some.injEq] at hv
    rw [← hv.1]; exact ⟨h2, (Array.getElem?_eq_some_iff.1 h3).1⟩
def DocN (x : Mf) (w : World) (e : Ending) (w' : World) : Prop := ∃ a c, e = .returned (.agg (mfV x a c).toArray) ∧ PtsAt w' a c x.ps ∧ Below w.heap.size w w' ∧ SlIn (fun k => w.heap.size ≤ k ∧ k < w'.heap.size) (.slice a x.ps.length c)
set_option maxHeartbeats 8000000 in
theorem document_new (x : Mf) (a : Option Addr) (c : Nat) (w : World) (ho : x.ok) (hp : PtsAt w a c x.ps) (hl : x.ps.length ≤ 1073741824) :
    Calls Tryz.prog 20 #[.agg (mfV x a c).toArray] w (DocN x w) := by
  have HP := Lib.hid' hp
  have HO := Lib.hid' ho
  have x36 := mfV_36 ho a c
  have HB := Lib.hid' (built_mf15 x.n x.f x.t x.r x.p ho.p)
  have hDV : [Value.int .i64 x.n, Value.int .i64 x.f, Value.int .i64 x.t, Value.int .i64 x.r] ++ byteVs x.p ++ [Value.slice none 0 0] = dV x none 0 0 := rfl
  rw [hDV] at HB
  have HRX := Lib.hid' (fun (wq : World) (hq : BoxW w.heap.size (mfV x a c) 48 wq) => mfV_range ho a c hq.range)
  have hz : (Tryz.prog.info? 45).map (·.size) = some (byteVs x.p).length := by rw [byteVs_length, ho.p]; exact dig_size
  have HDL := Lib.hid' (fun pa k pc => dV_len ho pa k pc)
  have HD6 := Lib.hid' (fun pa k pc => dV_36 ho pa k pc)
  have HDS := Lib.hid' (fun pa pb k pc m pd => dV_set ho pa pb k pc m pd)
  have HDM := Lib.hid' (fun pa pc => dV_mf x pa pc)
  have hzd : (Tryz.prog.info? 67).map (·.size) = some (dV x none 0 0).length := by rw [HDL.out]; exact rm_size
  have hpd : zeroMV.length = (dV x none 0 0).length := by rw [HDL.out]; rfl
  have hod := dV_one x none 0 0
  clear ho hDV hp
  go_enter Tryz.func20, Tryz.ntmps20
  go_upto_region 1 with fail
  have H0 : Sep w NoF [.box w.heap.size (mfV x a c) 48] (w.alloc (.cells (mfV x a c).toArray 48)) := (Sep.start w).allocAt w.heap.size (mfV x a c) 48 rfl
  have H1 : Sep w NoF [.box (w.heap.size + 1) zeroMV 67, .box w.heap.size (mfV x a c) 48] ((w.alloc (.cells (mfV x a c).toArray 48)).alloc (.cells #[.int .i64 0, .int .i64 0, .int .i64 0, .int .i64 0, .int .u8 0, .int .u8 0, .int .u8 0, .int .u8 0, .int .u8 0, .int .u8 0, .int .u8 0, .int .u8 0, .int .u8 0, .int .u8 0, .int .u8 0, .int .u8 0, .int .u8 0, .int .u8 0, .int .u8 0, .int .u8 0, .int .u8 0, .int .u8 0, .int .u8 0, .int .u8 0, .int .u8 0, .int .u8 0, .int .u8 0, .int .u8 0, .int .u8 0, .int .u8 0, .int .u8 0, .int .u8 0, .int .u8 0, .int .u8 0, .int .u8 0, .int .u8 0, .slice none 0 0] 67)) := H0.allocAt (w.heap.size + 1) zeroMV 67 (by simp)
  clear H0
  generalize (w.alloc (.cells (mfV x a c).toArray 48)).alloc (.cells #[.int .i64 0, .int .i64 0, .int .i64 0, .int .i64 0, .int .u8 0, .int .u8 0, .int .u8 0, .int .u8 0, .int .u8 0, .int .u8 0, .int .u8 0, .int .u8 0, .int .u8 0, .int .u8 0, .int .u8 0, .int .u8 0, .int .u8 0, .int .u8 0, .int .u8 0, .int .u8 0, .int .u8 0, .int .u8 0, .int .u8 0, .int .u8 0, .int .u8 0, .int .u8 0, .int .u8 0, .int .u8 0, .int .u8 0, .int .u8 0, .int .u8 0, .int .u8 0, .int .u8 0, .int .u8 0, .int .u8 0, .int .u8 0, .slice none 0 0] 67) = w1 at *
  have c0 := H1.cell 1 rfl 0 (v := .int .i64 x.n) rfl
  have c1 := H1.cell 1 rfl 1 (v := .int .i64 x.f) rfl
  have c2 := H1.cell 1 rfl 2 (v := .int .i64 x.t) rfl
  have c3 := H1.cell 1 rfl 3 (v := .int .i64 x.r) rfl
  have HG := Lib.hid' (HRX.out w1 (H1.box 1 rfl))
  have H2 : Sep w NoF [.box w1.heap.size zeroMV 67, .box (w.heap.size + 1) zeroMV 67, .box w.heap.size (mfV x a c) 48] (w1.alloc (.cells #[.int .i64 0, .int .i64 0, .int .i64 0, .int .i64 0, .int .u8 0, .int .u8 0, .int .u8 0, .int .u8 0, .int .u8 0, .int .u8 0, .int .u8 0, .int .u8 0, .int .u8 0, .int .u8 0, .int .u8 0, .int .u8 0, .int .u8 0, .int .u8 0, .int .u8 0, .int .u8 0, .int .u8 0, .int .u8 0, .int .u8 0, .int .u8 0, .int .u8 0, .int .u8 0, .int .u8 0, .int .u8 0, .int .u8 0, .int .u8 0, .int .u8 0, .int .u8 0, .int .u8 0, .int .u8 0, .int .u8 0, .int .u8 0, .slice none 0 0] 67)) := H1.allocAt w1.heap.size zeroMV 67 rfl
  clear HRX
  generalize byteVs x.p = DV at *
  generalize hq0 : dV x none 0 0 = Q0 at *
  go_upto_region 2 with (first | (refine wpList_load_at HG.out rfl 45 (.tmp 14) rfl rfl _ Tryz.underlying45 rfl hz ?_) | (refine wpList_bd rfl 67 #[(0, .tmp 7), (1, .tmp 9), (2, .tmp 11), (3, .tmp 13), (4, .tmp 15)] rfl Q0.toArray ((congrArg (Tryz.prog.built 67) (show _ = [(0, .int .i64 x.n), (1, .int .i64 x.f), (2, .int .i64 x.t), (3, .int .i64 x.r), (4, .agg DV.toArray)] by kernel_rfl)).trans HB.out) ?_) | (refine Sep.storeB H2 0 rfl rfl 67 (.tmp 3) (.tmp 16) rfl Q0 rfl rfl hzd hpd hod ?_))
  have H3 := (H2.setRow 0 rfl Q0).nilRow 69 35
  generalize (w1.alloc (.cells #[.int .i64 0, .int .i64 0, .int .i64 0, .int .i64 0, .int .u8 0, .int .u8 0, .int .u8 0, .int .u8 0, .int .u8 0, .int .u8 0, .int .u8 0, .int .u8 0, .int .u8 0, .int .u8 0, .int .u8 0, .int .u8 0, .int .u8 0, .int .u8 0, .int .u8 0, .int .u8 0, .int .u8 0, .int .u8 0, .int .u8 0, .int .u8 0, .int .u8 0, .int .u8 0, .int .u8 0, .int .u8 0, .int .u8 0, .int .u8 0, .int .u8 0, .int .u8 0, .int .u8 0, .int .u8 0, .int .u8 0, .int .u8 0, .slice none 0 0] 67)).setRow w1.heap.size Q0.toArray = w3 at *
  rw [← hq0] at H3
  generalize hN3 : w1.heap.size = N3 at *
  generalize hN2 : w.heap.size + 1 = N2 at *
  generalize hN1 : w.heap.size = N1 at H3
  have HN := Lib.hid' (And.intro hN1 (And.intro hN2 hN3))
  clear H2 H1 c0 c1 c2 c3 hq0 HB HG hzd hpd hod hN1 hN2 hN3 hz
  have c6 := H3.cell 3 rfl 36 x36
  have H4 : Sep w NoF [.row 69 35 (.slice none 0 0) 0 ((x.ps.take 0).flatMap ptV), .box N3 (dV x none 0 0) 67, .box N2 zeroMV 67, .box N1 (mfV x a c) 48] w3 := H3
  clear H3
  go_wp2_with fail
  clear c6
  go_loopw [20] (fun v20 wr => ∃ (k : Nat) (pa : Option Addr) (pc : Nat), v20 = .int .i64 k ∧ k ≤ x.ps.length ∧ Hid (Sep w NoF [.row 69 35 (.slice pa k pc) k ((x.ps.take k).flatMap ptV), .box N3 (dV x pa k pc) 67, .box N2 zeroMV 67, .box N1 (mfV x a c) 48] wr)) (fun v20 _ => x.ps.length - (intOf v20).toNat)
  case atStart => exact ⟨0, none, 0, rfl, Nat.zero_le _, Lib.hid' H4⟩
  case round =>
    clear H4
    obtain ⟨k, pa, pc, rfl, hk, HS⟩ := hrel
    by_cases hlt : k < x.ps.length
    · have H0 := HS.out
      have HPr := Lib.hid' (HP.out.below (Nat.le_refl _) H0.toBelow)
      obtain ⟨bb, off, rfl, hbb, hrg⟩ := PtsAt.at HPr.out HO.out.ps hlt
      have HG := Lib.hid' hrg
      have ok := HO.out.ps _ (List.getElem_mem hlt)
      have HPO := Lib.hid' (fun wq => partOf_any x.ps[k] wq ok)
      have hl35 := ptV_len ok
      have hz : (Tryz.prog.info? 53).map (·.size) = some (ptV x.ps[k]).length := by rw [hl35]; kernel_rfl
      have hpl0 : zeroPt.length = (ptV x.ps[k]).length := by rw [hl35]; rfl
      have hp1 : (ptV x.ps[k]).all (·.oneCell') = true := List.all_eq_true.2 ptV_one'
      have hp2 : ∀ u ∈ ptV x.ps[k], u.oneCell' = true := ptV_one'
      have HTK := Lib.hid' (show (x.ps.take (k + 1)).flatMap ptV = (x.ps.take k).flatMap ptV ++ ptV x.ps[k] by rw [List.take_add_one, List.getElem?_eq_getElem hlt, List.flatMap_append]; simp)
      have hlt2 : (k : Int) < (x.ps.length : Int) := by omega
      clear hrg ok HPr HS
      generalize ptV x.ps[k] = PV at *
      have HZ : Sep w NoF [.box wr.heap.size zeroPt 53, .row 69 35 (.slice pa k pc) k ((x.ps.take k).flatMap ptV), .box N3 (dV x pa k pc) 67, .box N2 zeroMV 67, .box N1 (mfV x (some ⟨bb, off, none⟩) c) 48] (wr.alloc (.cells #[.int .i64 0, .int .i64 0, .int .i64 0, .int .u8 0, .int .u8 0, .int .u8 0, .int .u8 0, .int .u8 0, .int .u8 0, .int .u8 0, .int .u8 0, .int .u8 0, .int .u8 0, .int .u8 0, .int .u8 0, .int .u8 0, .int .u8 0, .int .u8 0, .int .u8 0, .int .u8 0, .int .u8 0, .int .u8 0, .int .u8 0, .int .u8 0, .int .u8 0, .int .u8 0, .int .u8 0, .int .u8 0, .int .u8 0, .int .u8 0, .int .u8 0, .int .u8 0, .int .u8 0, .int .u8 0, .int .u8 0] 53)) := H0.allocAt wr.heap.size zeroPt 53 rfl
      go_upto_region 5 with (first | (refine wpList_load_at HG.out rfl 53 (.tmp 22) rfl rfl _ Tryz.underlying53 rfl hz ?_) | (refine Sep.storeB HZ 0 rfl rfl 53 (.tmp 5) (.tmp 23) rfl PV rfl rfl hz hpl0 hp1 ?_))
      have H1 := (HZ.setRow 0 rfl PV).drew
      have H1b := (HZ.setRow 0 rfl PV)
      generalize (wr.alloc (.cells #[.int .i64 0, .int .i64 0, .int .i64 0, .int .u8 0, .int .u8 0, .int .u8 0, .int .u8 0, .int .u8 0, .int .u8 0, .int .u8 0, .int .u8 0, .int .u8 0, .int .u8 0, .int .u8 0, .int .u8 0, .int .u8 0, .int .u8 0, .int .u8 0, .int .u8 0, .int .u8 0, .int .u8 0, .int .u8 0, .int .u8 0, .int .u8 0, .int .u8 0, .int .u8 0, .int .u8 0, .int .u8 0, .int .u8 0, .int .u8 0, .int .u8 0, .int .u8 0, .int .u8 0, .int .u8 0, .int .u8 0] 53)).setRow wr.heap.size PV.toArray = w5 at *
      generalize wr.heap.size = P5 at *
      have hd36 := HD6.out pa k pc
      have z3 := H1.cell 2 rfl 36 hd36
      clear HZ HG hpl0 H0
      refine wp_region_held_drew (S := (fun w' => BoxW P5 PV 53 w')) (by kernel_rfl) (H1.box 0 rfl) (fun hH0 => ?_)
      refine wpAnyH_take (i := 0) (oi := _) (v := .pointer (some ⟨N3, 36, none⟩)) rfl (by kernel_rfl) (by kernel_rfl) (by kernel_rfl) (fun _ _ _ h => h) (Or.inl ⟨by rfl, ?_⟩) hH0 ?_
      · intro w hSw; go_simp
      simp only [Act.put, List.getElem_toArray, List.getElem_cons_zero, List.getElem_cons_succ, List.setIfInBounds_toArray, List.set_cons_zero, List.set_cons_succ]
      refine wpAnyH_take (i := 2) (oi := _) (v := .agg PV.toArray) rfl (by kernel_rfl) (by kernel_rfl) (by kernel_rfl) (fun _ _ _ h => h) (yieldsIf_load_mid (by kernel_rfl) 53 (.tmp 5) rfl P5 0 rfl PV _ (fun wq hb => hb.range) Tryz.underlying53 rfl hz) hH0 ?_
      simp only [Act.put, List.getElem_toArray, List.getElem_cons_zero, List.getElem_cons_succ, List.setIfInBounds_toArray, List.set_cons_zero, List.set_cons_succ]
      refine wpAnyH_ready (rs := [1, 3]) (by kernel_rfl) (by simp) (AllReadyH.cons (o := _) rfl (fun K hK => ?_) (AllReadyH.cons (o := _) rfl (fun K hK => ?_) AllReadyH.nil))
      · skip
        go_simp
        refine hK.out _ _ ?_ (fun hH1 => ?_)
        · exact H1.box 0 rfl
        clear hK K
        refine wpAnyH_ready (rs := [3]) (by kernel_rfl) (by simp) (AllReadyH.cons (o := _) rfl (fun K hK => ?_) AllReadyH.nil)
        go_simp
        refine (HPO.out _).mono ?_
        rintro en wx ⟨rfl, hbx⟩
        have HX := H1.below hbx
        have z3x := HX.cell 2 rfl 36 hd36
        have z3y := (HX.allocX (.cells PV.toArray 69)).cell 2 rfl 36 hd36
        refine hK.out _ _ ?_ (fun hH2 => ?_)
        · exact HX.box 0 rfl
        clear hK K
        refine wpAnyH_ready (rs := [4]) (by kernel_rfl) (by simp) (AllReadyH.cons (o := _) rfl (fun K hK => ?_) AllReadyH.nil)
        refine step_bs1 (w := wx) etP15 rfl (.tmp 27) rfl PV rfl hl35 (by decide) ?_
        refine hK.out _ _ ?_ (fun hH3 => ?_)
        · exact (HX.allocX _).box 0 rfl
        clear hK K
        refine wpAnyH_ready (rs := [5]) (by kernel_rfl) (by simp) (AllReadyH.cons (o := _) rfl (fun K hK => ?_) AllReadyH.nil)
        refine Sep.appendStep (w := wx) etP15 rfl (.tmp 25) (.tmp 28) rfl PV rfl HX 1 rfl rfl hl35 hp2 (by omega) ?_
        intro a9 c9 w9 HA
        have z9 := HA.cell 2 rfl 36 hd36
        have zf := HA.free 2 rfl 36
        have H10 := HA.set 2 rfl 36 (.slice a9 (k + 1) c9)
        have hw9 := HA.lt 2 rfl
        refine hK.out _ _ ?_ (fun hH4 => ?_)
        · exact HA.box 1 rfl
        clear hK K
        refine wpAnyH_take (i := 6) (oi := _) (v := .pointer (some ⟨N3, 36, none⟩)) rfl (by kernel_rfl) (by kernel_rfl) (by kernel_rfl) (fun _ _ _ h => h) (Or.inl ⟨by rfl, ?_⟩) hH4 ?_
        · intro w hSw; go_simp
        simp only [Act.put, List.getElem_toArray, List.getElem_cons_zero, List.getElem_cons_succ, List.setIfInBounds_toArray, List.set_cons_zero, List.set_cons_succ]
        refine wpAnyH_ready (rs := [7]) (by kernel_rfl) (by simp) (AllReadyH.cons (o := _) rfl (fun K hK => ?_) AllReadyH.nil)
        go_simp
        refine hK.out _ _ ?_ (fun hH5 => ?_)
        · exact H10.box 2 rfl
        clear hK K
        refine wpAnyH_done (by kernel_rfl) ?_ _
        have H11 := ((H10.drop 2).focus 1 rfl)
        rw [HDS.out, ← HTK.out] at H11
        have H12 := Lib.hid' H11
        clear H10 HA z9 zf H11 HX z3x z3y H1 H1b z3 hd36 hbx hw9
        go_wp2_with fail
        go_roundw
        case rel => exact ⟨k + 1, a9, c9, by go_num, by omega, H12⟩
        case measure => simp [intOf]; omega
      · skip
        go_simp
        refine (HPO.out _).mono ?_
        rintro en wx ⟨rfl, hbx⟩
        have HX := H1.below hbx
        have z3x := HX.cell 2 rfl 36 hd36
        have z3y := (HX.allocX (.cells PV.toArray 69)).cell 2 rfl 36 hd36
        refine hK.out _ _ ?_ (fun hH1 => ?_)
        · exact HX.box 0 rfl
        clear hK K
        refine wpAnyH_ready (rs := [1, 4]) (by kernel_rfl) (by simp) (AllReadyH.cons (o := _) rfl (fun K hK => ?_) (AllReadyH.cons (o := _) rfl (fun K hK => ?_) AllReadyH.nil))
        · skip
          go_simp
          refine hK.out _ _ ?_ (fun hH2 => ?_)
          · exact HX.box 0 rfl
          clear hK K
          refine wpAnyH_ready (rs := [4]) (by kernel_rfl) (by simp) (AllReadyH.cons (o := _) rfl (fun K hK => ?_) AllReadyH.nil)
          refine step_bs1 (w := wx) etP15 rfl (.tmp 27) rfl PV rfl hl35 (by decide) ?_
          refine hK.out _ _ ?_ (fun hH3 => ?_)
          · exact (HX.allocX _).box 0 rfl
          clear hK K
          refine wpAnyH_ready (rs := [5]) (by kernel_rfl) (by simp) (AllReadyH.cons (o := _) rfl (fun K hK => ?_) AllReadyH.nil)
          refine Sep.appendStep (w := wx) etP15 rfl (.tmp 25) (.tmp 28) rfl PV rfl HX 1 rfl rfl hl35 hp2 (by omega) ?_
          intro a9 c9 w9 HA
          have z9 := HA.cell 2 rfl 36 hd36
          have zf := HA.free 2 rfl 36
          have H10 := HA.set 2 rfl 36 (.slice a9 (k + 1) c9)
          have hw9 := HA.lt 2 rfl
          refine hK.out _ _ ?_ (fun hH4 => ?_)
          · exact HA.box 1 rfl
          clear hK K
          refine wpAnyH_take (i := 6) (oi := _) (v := .pointer (some ⟨N3, 36, none⟩)) rfl (by kernel_rfl) (by kernel_rfl) (by kernel_rfl) (fun _ _ _ h => h) (Or.inl ⟨by rfl, ?_⟩) hH4 ?_
          · intro w hSw; go_simp
          simp only [Act.put, List.getElem_toArray, List.getElem_cons_zero, List.getElem_cons_succ, List.setIfInBounds_toArray, List.set_cons_zero, List.set_cons_succ]
          refine wpAnyH_ready (rs := [7]) (by kernel_rfl) (by simp) (AllReadyH.cons (o := _) rfl (fun K hK => ?_) AllReadyH.nil)
          go_simp
          refine hK.out _ _ ?_ (fun hH5 => ?_)
          · exact H10.box 2 rfl
          clear hK K
          refine wpAnyH_done (by kernel_rfl) ?_ _
          have H11 := ((H10.drop 2).focus 1 rfl)
          rw [HDS.out, ← HTK.out] at H11
          have H12 := Lib.hid' H11
          clear H10 HA z9 zf H11 HX z3x z3y H1 H1b z3 hd36 hbx hw9
          go_wp2_with fail
          go_roundw
          case rel => exact ⟨k + 1, a9, c9, by go_num, by omega, H12⟩
          case measure => simp [intOf]; omega
        · skip
          refine step_bs1 (w := wx) etP15 rfl (.tmp 27) rfl PV rfl hl35 (by decide) ?_
          refine hK.out _ _ ?_ (fun hH2 => ?_)
          · exact (HX.allocX _).box 0 rfl
          clear hK K
          refine wpAnyH_ready (rs := [1]) (by kernel_rfl) (by simp) (AllReadyH.cons (o := _) rfl (fun K hK => ?_) AllReadyH.nil)
          go_simp
          refine hK.out _ _ ?_ (fun hH3 => ?_)
          · exact (HX.allocX _).box 0 rfl
          clear hK K
          refine wpAnyH_ready (rs := [5]) (by kernel_rfl) (by simp) (AllReadyH.cons (o := _) rfl (fun K hK => ?_) AllReadyH.nil)
          refine Sep.appendStep (w := wx) etP15 rfl (.tmp 25) (.tmp 28) rfl PV rfl HX 1 rfl rfl hl35 hp2 (by omega) ?_
          intro a9 c9 w9 HA
          have z9 := HA.cell 2 rfl 36 hd36
          have zf := HA.free 2 rfl 36
          have H10 := HA.set 2 rfl 36 (.slice a9 (k + 1) c9)
          have hw9 := HA.lt 2 rfl
          refine hK.out _ _ ?_ (fun hH4 => ?_)
          · exact HA.box 1 rfl
          clear hK K
          refine wpAnyH_take (i := 6) (oi := _) (v := .pointer (some ⟨N3, 36, none⟩)) rfl (by kernel_rfl) (by kernel_rfl) (by kernel_rfl) (fun _ _ _ h => h) (Or.inl ⟨by rfl, ?_⟩) hH4 ?_
          · intro w hSw; go_simp
          simp only [Act.put, List.getElem_toArray, List.getElem_cons_zero, List.getElem_cons_succ, List.setIfInBounds_toArray, List.set_cons_zero, List.set_cons_succ]
          refine wpAnyH_ready (rs := [7]) (by kernel_rfl) (by simp) (AllReadyH.cons (o := _) rfl (fun K hK => ?_) AllReadyH.nil)
          go_simp
          refine hK.out _ _ ?_ (fun hH5 => ?_)
          · exact H10.box 2 rfl
          clear hK K
          refine wpAnyH_done (by kernel_rfl) ?_ _
          have H11 := ((H10.drop 2).focus 1 rfl)
          rw [HDS.out, ← HTK.out] at H11
          have H12 := Lib.hid' H11
          clear H10 HA z9 zf H11 HX z3x z3y H1 H1b z3 hd36 hbx hw9
          go_wp2_with fail
          go_roundw
          case rel => exact ⟨k + 1, a9, c9, by go_num, by omega, H12⟩
          case measure => simp [intOf]; omega
    · obtain rfl : k = x.ps.length := by omega
      have H0 := HS.out
      rw [List.take_length, HDM.out] at H0
      have HR := Lib.hid' (show PtsAt wr pa pc x.ps from SlV.of_own (H0.row 0 rfl))
      have hzm : (Tryz.prog.info? 67).map (·.size) = some (mfV x pa pc).length := by rw [mfV_len HO.out]; exact rm_size
      have hpm : zeroMV.length = (mfV x pa pc).length := by rw [mfV_len HO.out]; rfl
      have hom : (mfV x pa pc).all (·.oneCell') = true := List.all_eq_true.2 mfV_one
      have HPT := Lib.hid' (fun wq (hb : SlV wq (.slice pa x.ps.length pc) x.ps.length (x.ps.flatMap ptV)) => show PtsAt wq pa pc x.ps from hb)
      clear hlt hk HS
      generalize hMV : mfV x pa pc = MV at *
      have HMV := Lib.hid' hMV
      clear hMV
      go_wp2_with (first | (refine Sep.loadB H0 1 rfl rfl 67 (.tmp 3) rfl rfl _ Tryz.underlying67 rfl hzm ?_) | (refine Sep.storeB H0 2 rfl rfl 67 (.tmp 2) (.tmp 32) rfl MV rfl rfl hzm hpm hom ?_))
      have H4 := H0.setRow 2 rfl MV
      refine bodyPost_ret (box_result Tryz.results20 (H4.box 0 rfl) _ rfl _ Tryz.underlying67 rfl hzm) rfl ?_
      exact ⟨pa, pc, by rw [HMV.out], HPT.out _ (SlV.of_own (H4.row 1 rfl)), H4.toBelow, own_far (H4.own 1 rfl)⟩
end Go.Proofs.YtinbcehlpfnlaaaGreatDoor

namespace Go.Proofs.YtinbcehlpfnlaaaGreatDoor
open Go.RowKit
set_option linter.unusedSimpArgs false
set_option linter.unusedVariables false
set_option maxRecDepth 100000

theorem put_short {x : Mf} (h : x.check = 0) (ho : x.ok) : x.put.length ≤ 1073741824 := by
  have := mputB_len x ho
  rw [mput_0 h] at this
  omega
theorem m15_size : (Tryz.prog.info? 67).map (·.size) = some 37 := by kernel_rfl
/-- what is known of a manifest of the document's, at whatever later world -/
theorem rput_of (HSum : RSumLaw) (x : Mf) (a : Option Addr) (c : Nat) (w : World) (ho : x.ok) (hck : x.check = 0) (hp : PtsAt w a c x.ps) :
    Calls Tryz.prog 33 #[.agg (mfV x a c).toArray] w fun e w' => ∃ fa fc n, e = .returned (.slice fa n fc) ∧ (∀ w2, Below w'.heap.size w' w2 → Calls Tryz.prog 32 #[.slice fa n fc] w2 fun e w3 => e = .returned (.agg (byteVs (mdigB x)).toArray) ∧ Below w2.heap.size w2 w3) ∧ Below w.heap.size w w' := by
  refine (rput_any x a c w ho hck hp).mono ?_
  rintro e w' ⟨fa, fc, rfl, hB, hb⟩
  refine ⟨fa, fc, _, rfl, fun w2 hb2 => ?_, hb⟩
  rw [mdig_put hck]
  exact rof_any HSum x.put fa fc w2 (SlV.below hB (Nat.le_refl _) hb2) (put_short hck ho)
theorem folB_0 (X : List MfP) (x : Mf) : folB (X.take 0) x = (x.n == 0) := by unfold folB; simp
theorem folB_at {X : List MfP} {j : Nat} (hj : j + 1 ≤ X.length) (x : Mf) (hy : (X[j]'(by omega)).1.check = 0) :
    folB (X.take (j + 1)) x = ((x.n == ((j + 1 : Nat) : Int)) && ((x.p == mdigB (X[j]'(by omega)).1) && (x.f == (X[j]'(by omega)).1.t) && decide ((X[j]'(by omega)).1.r ≤ x.r))) := by
  have hl : (X.take (j + 1)).length = j + 1 := by rw [List.length_take]; omega
  have h2 : lastM (X.take (j + 1)) = X[j]'(by omega) := by
    rw [lastM_in hl]; simp
  unfold folB headN headD
  rw [hl, h2]
  simp [hy]
set_option maxHeartbeats 16000000 in
theorem rchk_any (HSum : RSumLaw) (X : List MfP) (a : Option Addr) (c : Nat) (w : World) (h : MsAt w a c X) :
    Calls Tryz.prog 19 #[.slice a X.length c] w fun e w' => e = .returned (.tuple #[.int .i64 (((chkM X).1 : Nat) : Int), .int .i64 (((chkM X).2 : Nat) : Int)]) ∧ Below w.heap.size w w' := by
  have hlen := h.len
  have HX := Lib.hid' h
  have HSU := Lib.hid' HSum
  clear h HSum
  go_enter Tryz.func19, Tryz.ntmps19
  go_wp2_with fail
  go_loopw [4] (fun v4 wr => ∃ k : Nat, v4 = .int .i64 (k : Nat) ∧ k ≤ X.length ∧ Hid (chkM X = chk (X.take k) (X.drop k)) ∧ Hid (∀ j (h : j < X.length), j < k → X[j].1.check = 0) ∧ Hid (Below w.heap.size w wr)) (fun v4 _ => X.length - (intOf v4).toNat)
  case atStart => exact ⟨0, rfl, Nat.zero_le _, Lib.hid' (by rw [List.take_zero, List.drop_zero]; rfl), Lib.hid' (fun j _ hj => by omega), Lib.hid' (Below.refl _ _)⟩
  case round =>
    obtain ⟨k, rfl, hk, HC, HG, HB⟩ := hrel
    by_cases hlt : k < X.length
    rotate_left
    · obtain rfl : k = X.length := by omega
      have HC2 := Lib.hid' (HC.out.trans (chk_end X))
      clear hlt hk HC HG
      go_wp2_with fail
      go_ret2
      exact ⟨by rw [HC2.out]; rfl, HB.out⟩
    have hlt' : (k : Int) < (X.length : Int) := by omega
    have HXr := Lib.hid' (HX.out.below (Nat.le_refl _) HB.out)
    have HN := Lib.hid' (HC.out.trans (chk_next hlt))
    have HK0 := Lib.hid' (fun (j : Nat) (hj : j + 1 = k) (hl : j < X.length) => show folB (X.take k) X[k].1 = ((X[k].1.n == (k : Int)) && ((X[k].1.p == mdigB X[j].1) && (X[k].1.f == X[j].1.t) && decide (X[j].1.r ≤ X[k].1.r))) by
      subst hj; exact folB_at (by omega) _ (HG.out j (by omega) (by omega)))
    have HK1 := Lib.hid' (fun (h0 : k = 0) => show folB (X.take k) X[k].1 = (X[k].1.n == (k : Int)) by subst h0; exact folB_0 X _)
    obtain ⟨ba, oa, rfl, hba, hra⟩ := MsAt.at HXr.out hlt
    have ex := HXr.out.each _ (List.getElem_mem hlt)
    have ox := HX.out.ok _ (List.getElem_mem hlt)
    have HY0 := Lib.hid' (fun (j : Nat) (hj : j < X.length) => show wr.rangeAt ba (oa + j * 37) (mV X[j]) ∧ PtsAt wr X[j].2.1 X[j].2.2 X[j].1.ps ∧ X[j].1.ok from by
      obtain ⟨b2, o2, he, _, hr2⟩ := MsAt.at HXr.out hj
      simp only [Option.some.injEq, Addr.mk.injEq] at he
      obtain ⟨rfl, rfl, _⟩ := he
      exact ⟨hr2, HXr.out.each _ (List.getElem_mem _), HX.out.ok _ (List.getElem_mem _)⟩)
    have HG1 := Lib.hid' (fun (h0 : X[k].1.check = 0) => show ∀ j (h : j < X.length), j < k + 1 → X[j].1.check = 0 from fun j h hj => by
      by_cases hjk : j = k
      · subst hjk; exact h0
      · exact HG.out j h (by omega))
    have HGP := Lib.hid' (fun (j : Nat) (hj : j + 1 = k) (hl : j < X.length) => HG.out j hl (by omega))
    clear HC HG HXr
    generalize X[k] = xp at *
    obtain ⟨x, pa, pc⟩ := xp
    have HRC := Lib.hid' (rcheck_any x pa pc wr ox ex)
    have HOX := Lib.hid' ox
    have hra2 : wr.rangeAt ba (oa + k * 37) (mfV x pa pc) := hra
    have hzm : (Tryz.prog.info? 67).map (·.size) = some (mfV x pa pc).length := by rw [mfV_len ox]; exact m15_size
    have HCL := Lib.hid' (fun wq (hb : Below wr.heap.size wr wq) => show wq.cell? ⟨ba, oa + k * 37, none⟩ = some (.int .i64 x.n) ∧ wq.cell? ⟨ba, oa + k * 37 + 1, none⟩ = some (.int .i64 x.f) ∧ wq.cell? ⟨ba, oa + k * 37 + 3, none⟩ = some (.int .i64 x.r) ∧ wq.rangeAt ba (oa + k * 37 + 4) (byteVs x.p) from
      let hr := World.rangeAt.below hra2 hb
      ⟨hr 0 _ rfl, hr 1 _ rfl, hr 3 _ rfl, mfV_range HOX.out pa pc hr⟩)
    have HDL := Lib.hid' (show x.p.length = 32 from ox.p)
    clear ex ox hra hba
    generalize mfV x pa pc = PX at *
    go_upto_region 5 with (first | (refine wpList_load_at hra2 rfl 67 (.tmp 16) rfl rfl _ Tryz.underlying67 rfl hzm ?_) | (go_at_call 31; with_reducible (refine HRC.out.mono ?_); rintro en w3 ⟨rfl, hb3⟩))
    have HB3 := Lib.hid' (HB.out.trans (hb3.mono HB.out.size))
    have HB3r := Lib.hid' hb3
    clear HRC hra2 hb3 hzm
    by_cases hck : x.check = 0
    rotate_left
    · have b1 : ((x.check : Int) != 0) = true := by rw [bne_iff_ne]; omega
      have HC2 := Lib.hid' (HN.out.trans (if_pos hck))
      clear hck HN HK0 HK1 HY0 HG1 HGP HCL
      go_wp2_with fail
      go_ret2
      exact ⟨by rw [HC2.out]; rfl, HB3.out⟩
    have b1 : ((x.check : Int) != 0) = false := by rw [bne_eq_false_iff_eq]; omega
    have HN2 := Lib.hid' (HN.out.trans (if_neg (by simpa using hck)))
    have HG2 := Lib.hid' (HG1.out hck)
    clear hck HN HG1
    generalize x.check = ck at *
    obtain ⟨c0, c1, c3, c4⟩ := HCL.out _ HB3r.out
    have HNO := Lib.hid' (fun (hf : folB (X.take k) x = false) => HN2.out.trans (if_pos hf))
    have HYE := Lib.hid' (fun (hf : folB (X.take k) x = true) => HN2.out.trans (if_neg (by simp [hf])))
    clear HN2
    by_cases h0 : k = 0
    · have HF := Lib.hid' (HK1.out h0)
      have hk0 : ¬ (0 : Int) < (k : Int) := by omega
      clear HK0 HK1 HY0 HGP h0 c1 c3 c4 HCL
      cases hb : (x.n == (k : Int)) with
      | true =>
        have HC2 := Lib.hid' (HYE.out (by rw [HF.out]; exact hb))
        clear HNO HYE HF
        go_wp2_with fail
        go_roundw
        case rel => exact ⟨k + 1, by go_num, by omega, HC2, HG2, HB3⟩
        case measure => simp [intOf]; omega
      | false =>
        have HC2 := Lib.hid' (HNO.out (by rw [HF.out]; exact hb))
        clear HNO HYE HF
        go_wp2_with fail
        go_ret2
        exact ⟨by rw [HC2.out]; rfl, HB3.out⟩
    obtain ⟨j, hj⟩ : ∃ j, j + 1 = k := ⟨k - 1, by omega⟩
    have hjX : j < X.length := by omega
    have HF := Lib.hid' (HK0.out j hj hjX)
    obtain ⟨hry, hpy, hoy⟩ := HY0.out j hjX
    have HYC := Lib.hid' (HGP.out j hj hjX)
    have hk0 : (0 : Int) < (k : Int) := by omega
    have e1 : IntKind.i64.wrap ((k : Int) - 1) = (j : Int) := by rw [show (k : Int) - 1 = (j : Int) by omega]; exact IntWalk.i64_in _ (by omega)
    have e1' : (k : Int) - 1 = (j : Int) := by omega
    have hjl : (j : Int) < (X.length : Int) := by omega
    clear HK0 HK1 HY0 HGP h0
    clear hj
    generalize X[j] = yp at *
    obtain ⟨y, qa, qc⟩ := yp
    replace hry : wr.rangeAt ba (oa + j * 37) (mfV y qa qc) := hry
    have hry3 := World.rangeAt.below hry HB3r.out
    have hzm : (Tryz.prog.info? 67).map (·.size) = some (mfV y qa qc).length := by rw [mfV_len hoy]; exact m15_size
    have hz2 : zeroMV.length = (mfV y qa qc).length := by rw [mfV_len hoy]; rfl
    have hone : (mfV y qa qc).all (·.oneCell') = true := List.all_eq_true.2 mfV_one
    have HZ : Sep w3 NoF [.box w3.heap.size zeroMV 67] (w3.alloc (.cells #[.int .i64 0, .int .i64 0, .int .i64 0, .int .i64 0, .int .u8 0, .int .u8 0, .int .u8 0, .int .u8 0, .int .u8 0, .int .u8 0, .int .u8 0, .int .u8 0, .int .u8 0, .int .u8 0, .int .u8 0, .int .u8 0, .int .u8 0, .int .u8 0, .int .u8 0, .int .u8 0, .int .u8 0, .int .u8 0, .int .u8 0, .int .u8 0, .int .u8 0, .int .u8 0, .int .u8 0, .int .u8 0, .int .u8 0, .int .u8 0, .int .u8 0, .int .u8 0, .int .u8 0, .int .u8 0, .int .u8 0, .int .u8 0, .slice none 0 0] 67)) := (Sep.start w3).allocAt w3.heap.size zeroMV 67 rfl
    have HY := HZ.setRow 0 rfl (mfV y qa qc)
    have HRP := Lib.hid' (fun w1 (H : Below wr.heap.size wr w1) => rput_of HSU.out y qa qc w1 hoy HYC.out (hpy.below (Nat.le_refl _) H))
    have HCY := Lib.hid' (show ∀ wq, Below ((w3.alloc (.cells #[.int .i64 0, .int .i64 0, .int .i64 0, .int .i64 0, .int .u8 0, .int .u8 0, .int .u8 0, .int .u8 0, .int .u8 0, .int .u8 0, .int .u8 0, .int .u8 0, .int .u8 0, .int .u8 0, .int .u8 0, .int .u8 0, .int .u8 0, .int .u8 0, .int .u8 0, .int .u8 0, .int .u8 0, .int .u8 0, .int .u8 0, .int .u8 0, .int .u8 0, .int .u8 0, .int .u8 0, .int .u8 0, .int .u8 0, .int .u8 0, .int .u8 0, .int .u8 0, .int .u8 0, .int .u8 0, .int .u8 0, .int .u8 0, .slice none 0 0] 67)).setRow w3.heap.size (mfV y qa qc).toArray).heap.size ((w3.alloc (.cells #[.int .i64 0, .int .i64 0, .int .i64 0, .int .i64 0, .int .u8 0, .int .u8 0, .int .u8 0, .int .u8 0, .int .u8 0, .int .u8 0, .int .u8 0, .int .u8 0, .int .u8 0, .int .u8 0, .int .u8 0, .int .u8 0, .int .u8 0, .int .u8 0, .int .u8 0, .int .u8 0, .int .u8 0, .int .u8 0, .int .u8 0, .int .u8 0, .int .u8 0, .int .u8 0, .int .u8 0, .int .u8 0, .int .u8 0, .int .u8 0, .int .u8 0, .int .u8 0, .int .u8 0, .int .u8 0, .int .u8 0, .int .u8 0, .slice none 0 0] 67)).setRow w3.heap.size (mfV y qa qc).toArray) wq → wq.cell? ⟨w3.heap.size, 2, none⟩ = some (.int .i64 y.t) ∧ wq.cell? ⟨w3.heap.size, 3, none⟩ = some (.int .i64 y.r) ∧ wq.rangeAt w3.heap.size 0 (mfV y qa qc) from fun wq hb =>
      let hr := World.rangeAt.below (HY.box 0 rfl).range hb
      ⟨hr 2 _ rfl, hr 3 _ rfl, hr⟩)
    replace HY : Sep w3 NoF [.box w3.heap.size (mfV y qa qc) 67] ((w3.alloc (.cells #[.int .i64 0, .int .i64 0, .int .i64 0, .int .i64 0, .int .u8 0, .int .u8 0, .int .u8 0, .int .u8 0, .int .u8 0, .int .u8 0, .int .u8 0, .int .u8 0, .int .u8 0, .int .u8 0, .int .u8 0, .int .u8 0, .int .u8 0, .int .u8 0, .int .u8 0, .int .u8 0, .int .u8 0, .int .u8 0, .int .u8 0, .int .u8 0, .int .u8 0, .int .u8 0, .int .u8 0, .int .u8 0, .int .u8 0, .int .u8 0, .int .u8 0, .int .u8 0, .int .u8 0, .int .u8 0, .int .u8 0, .int .u8 0, .slice none 0 0] 67)).setRow w3.heap.size (mfV y qa qc).toArray) := HY
    have HMD := Lib.hid' (mdigB_len y)
    have HYS := Lib.hid' (mfV_len hoy qa qc)
    clear hpy hoy HYC hry
    generalize mfV y qa qc = PY at *
    go_upto_region 10 with (first | (refine wpList_load_at hry3 rfl 67 (.tmp 35) rfl rfl _ Tryz.underlying67 rfl hzm ?_) | (refine Sep.storeB HZ 0 rfl rfl 67 (.tmp 7) (.tmp 36) rfl PY rfl rfl hzm hz2 hone ?_))
    generalize (w3.alloc (.cells #[.int .i64 0, .int .i64 0, .int .i64 0, .int .i64 0, .int .u8 0, .int .u8 0, .int .u8 0, .int .u8 0, .int .u8 0, .int .u8 0, .int .u8 0, .int .u8 0, .int .u8 0, .int .u8 0, .int .u8 0, .int .u8 0, .int .u8 0, .int .u8 0, .int .u8 0, .int .u8 0, .int .u8 0, .int .u8 0, .int .u8 0, .int .u8 0, .int .u8 0, .int .u8 0, .int .u8 0, .int .u8 0, .int .u8 0, .int .u8 0, .int .u8 0, .int .u8 0, .int .u8 0, .int .u8 0, .int .u8 0, .int .u8 0, .slice none 0 0] 67)).setRow w3.heap.size PY.toArray = w7 at *
    generalize w3.heap.size = N7 at *
    have HB7r := Lib.hid' (HB3r.out.trans (HY.toBelow.mono (by have := HB3r.out.size; have := HY.toBelow.size; omega)))
    have HCX := Lib.hid' (fun wq (hb : Below w7.heap.size w7 wq) => HCL.out wq (HB7r.out.trans (hb.mono HB7r.out.size)))
    have HRP7 := Lib.hid' (fun wq (hb : Below w7.heap.size w7 wq) => HRP.out wq (HB7r.out.trans (hb.mono HB7r.out.size)))
    have HB7 := Lib.hid' (HB.out.trans (HB7r.out.mono HB.out.size))
    have HEQ := Lib.hid' (fun wq => eqD3 x.p (mdigB y) HDL.out HMD.out wq)
    have hzp : (Tryz.prog.info? 64).map (·.size) = some (byteVs x.p).length := by rw [byteVs_length, HDL.out]; exact rd_size
    clear HCL HRP HB7r HB3r HB3 HZ HY hry3 hz2 hone c0 c1 c3 c4 HMD HYS
    generalize byteVs x.p = DX at *
    generalize byteVs (mdigB y) = DY at *
    by_cases a0 : x.n = (k : Int)
    rotate_left
    · have b2 : (x.n == (k : Int)) = false := by rw [beq_eq_false_iff_ne]; exact a0
      have HC2 := Lib.hid' (HNO.out (by rw [HF.out, b2]; rfl))
      clear HNO HYE HF a0 HEQ
      refine startD (S := (fun w' => Below w7.heap.size w7 w')) (by kernel_rfl) ((Below.refl _ _).drew) (fun hH0 => ?_)
      simp only [List.length_cons, List.length_nil, Nat.reduceAdd, List.replicate_succ, List.replicate_zero]
      refine takeD (i := 0) (d := 37) (v := .bool false) rfl rfl (by kernel_rfl) (by kernel_rfl) (by kernel_rfl) (fun _ _ _ h => h) (yldV [(6, .bool (x.n == (k : Int)))] (by kernel_rfl) rfl (by kernel_rfl) ?_) hH0 ?_
      · intro w hSw; go_simp
      dsimp only [List.set_cons_zero, List.set_cons_succ]
      refine takeD (i := 1) (d := 38) (v := .bool false) rfl rfl (by kernel_rfl) (by kernel_rfl) (by kernel_rfl) (fun _ _ _ h => h) (yldV [(37, .bool false)] (by kernel_rfl) rfl (by kernel_rfl) ?_) hH0 ?_
      · intro w hSw; go_simp
      dsimp only [List.set_cons_zero, List.set_cons_succ]
      refine takeD (i := 2) (d := 39) (v := undef) rfl rfl (by kernel_rfl) (by kernel_rfl) (by kernel_rfl) (fun _ _ _ h => h) (Or.inr ⟨by kernel_rfl, rfl⟩) hH0 ?_
      dsimp only [List.set_cons_zero, List.set_cons_succ]
      refine takeD (i := 3) (d := 40) (v := undef) rfl rfl (by kernel_rfl) (by kernel_rfl) (by kernel_rfl) (fun _ _ _ h => h) (Or.inr ⟨by kernel_rfl, rfl⟩) hH0 ?_
      dsimp only [List.set_cons_zero, List.set_cons_succ]
      refine takeD (i := 4) (d := 41) (v := undef) rfl rfl (by kernel_rfl) (by kernel_rfl) (by kernel_rfl) (fun _ _ _ h => h) (Or.inr ⟨by kernel_rfl, rfl⟩) hH0 ?_
      dsimp only [List.set_cons_zero, List.set_cons_succ]
      refine takeD (i := 5) (d := 42) (v := undef) rfl rfl (by kernel_rfl) (by kernel_rfl) (by kernel_rfl) (fun _ _ _ h => h) (Or.inr ⟨by kernel_rfl, rfl⟩) hH0 ?_
      dsimp only [List.set_cons_zero, List.set_cons_succ]
      refine takeD (i := 6) (d := 43) (v := undef) rfl rfl (by kernel_rfl) (by kernel_rfl) (by kernel_rfl) (fun _ _ _ h => h) (Or.inr ⟨by kernel_rfl, rfl⟩) hH0 ?_
      dsimp only [List.set_cons_zero, List.set_cons_succ]
      refine takeD (i := 7) (d := 44) (v := undef) rfl rfl (by kernel_rfl) (by kernel_rfl) (by kernel_rfl) (fun _ _ _ h => h) (Or.inr ⟨by kernel_rfl, rfl⟩) hH0 ?_
      dsimp only [List.set_cons_zero, List.set_cons_succ]
      refine takeD (i := 8) (d := 45) (v := undef) rfl rfl (by kernel_rfl) (by kernel_rfl) (by kernel_rfl) (fun _ _ _ h => h) (Or.inr ⟨by kernel_rfl, rfl⟩) hH0 ?_
      dsimp only [List.set_cons_zero, List.set_cons_succ]
      refine takeD (i := 9) (d := 46) (v := undef) rfl rfl (by kernel_rfl) (by kernel_rfl) (by kernel_rfl) (fun _ _ _ h => h) (Or.inr ⟨by kernel_rfl, rfl⟩) hH0 ?_
      dsimp only [List.set_cons_zero, List.set_cons_succ]
      refine takeD (i := 10) (d := 47) (v := .bool false) rfl rfl (by kernel_rfl) (by kernel_rfl) (by kernel_rfl) (fun _ _ _ h => h) (yldV [(38, .bool false), (46, undef)] (by kernel_rfl) rfl (by kernel_rfl) ?_) hH0 ?_
      · intro w hSw; go_simp
      dsimp only [List.set_cons_zero, List.set_cons_succ]
      refine takeD (i := 11) (d := 48) (v := .bool false) rfl rfl (by kernel_rfl) (by kernel_rfl) (by kernel_rfl) (fun _ _ _ h => h) (yldV [(47, .bool false)] (by kernel_rfl) rfl (by kernel_rfl) ?_) hH0 ?_
      · intro w hSw; go_simp
      dsimp only [List.set_cons_zero, List.set_cons_succ]
      refine takeD (i := 12) (d := 49) (v := undef) rfl rfl (by kernel_rfl) (by kernel_rfl) (by kernel_rfl) (fun _ _ _ h => h) (Or.inr ⟨by kernel_rfl, rfl⟩) hH0 ?_
      dsimp only [List.set_cons_zero, List.set_cons_succ]
      refine takeD (i := 13) (d := 50) (v := undef) rfl rfl (by kernel_rfl) (by kernel_rfl) (by kernel_rfl) (fun _ _ _ h => h) (Or.inr ⟨by kernel_rfl, rfl⟩) hH0 ?_
      dsimp only [List.set_cons_zero, List.set_cons_succ]
      refine takeD (i := 14) (d := 51) (v := undef) rfl rfl (by kernel_rfl) (by kernel_rfl) (by kernel_rfl) (fun _ _ _ h => h) (Or.inr ⟨by kernel_rfl, rfl⟩) hH0 ?_
      dsimp only [List.set_cons_zero, List.set_cons_succ]
      refine takeD (i := 15) (d := 52) (v := undef) rfl rfl (by kernel_rfl) (by kernel_rfl) (by kernel_rfl) (fun _ _ _ h => h) (Or.inr ⟨by kernel_rfl, rfl⟩) hH0 ?_
      dsimp only [List.set_cons_zero, List.set_cons_succ]
      refine takeD (i := 16) (d := 53) (v := undef) rfl rfl (by kernel_rfl) (by kernel_rfl) (by kernel_rfl) (fun _ _ _ h => h) (Or.inr ⟨by kernel_rfl, rfl⟩) hH0 ?_
      dsimp only [List.set_cons_zero, List.set_cons_succ]
      refine takeD (i := 17) (d := 54) (v := undef) rfl rfl (by kernel_rfl) (by kernel_rfl) (by kernel_rfl) (fun _ _ _ h => h) (Or.inr ⟨by kernel_rfl, rfl⟩) hH0 ?_
      dsimp only [List.set_cons_zero, List.set_cons_succ]
      refine takeD (i := 18) (d := 55) (v := undef) rfl rfl (by kernel_rfl) (by kernel_rfl) (by kernel_rfl) (fun _ _ _ h => h) (Or.inr ⟨by kernel_rfl, rfl⟩) hH0 ?_
      dsimp only [List.set_cons_zero, List.set_cons_succ]
      refine takeD (i := 19) (d := 56) (v := undef) rfl rfl (by kernel_rfl) (by kernel_rfl) (by kernel_rfl) (fun _ _ _ h => h) (Or.inr ⟨by kernel_rfl, rfl⟩) hH0 ?_
      dsimp only [List.set_cons_zero, List.set_cons_succ]
      refine takeD (i := 20) (d := 57) (v := .bool false) rfl rfl (by kernel_rfl) (by kernel_rfl) (by kernel_rfl) (fun _ _ _ h => h) (yldV [(48, .bool false), (56, undef)] (by kernel_rfl) rfl (by kernel_rfl) ?_) hH0 ?_
      · intro w hSw; go_simp
      dsimp only [List.set_cons_zero, List.set_cons_succ]
      refine takeD (i := 21) (d := 58) (v := .bool false) rfl rfl (by kernel_rfl) (by kernel_rfl) (by kernel_rfl) (fun _ _ _ h => h) (yldV [(57, .bool false)] (by kernel_rfl) rfl (by kernel_rfl) ?_) hH0 ?_
      · intro w hSw; go_simp
      dsimp only [List.set_cons_zero, List.set_cons_succ]
      refine takeD (i := 22) (d := 59) (v := undef) rfl rfl (by kernel_rfl) (by kernel_rfl) (by kernel_rfl) (fun _ _ _ h => h) (Or.inr ⟨by kernel_rfl, rfl⟩) hH0 ?_
      dsimp only [List.set_cons_zero, List.set_cons_succ]
      refine takeD (i := 23) (d := 60) (v := undef) rfl rfl (by kernel_rfl) (by kernel_rfl) (by kernel_rfl) (fun _ _ _ h => h) (Or.inr ⟨by kernel_rfl, rfl⟩) hH0 ?_
      dsimp only [List.set_cons_zero, List.set_cons_succ]
      refine takeD (i := 24) (d := 61) (v := undef) rfl rfl (by kernel_rfl) (by kernel_rfl) (by kernel_rfl) (fun _ _ _ h => h) (Or.inr ⟨by kernel_rfl, rfl⟩) hH0 ?_
      dsimp only [List.set_cons_zero, List.set_cons_succ]
      refine takeD (i := 25) (d := 62) (v := undef) rfl rfl (by kernel_rfl) (by kernel_rfl) (by kernel_rfl) (fun _ _ _ h => h) (Or.inr ⟨by kernel_rfl, rfl⟩) hH0 ?_
      dsimp only [List.set_cons_zero, List.set_cons_succ]
      refine takeD (i := 26) (d := 63) (v := undef) rfl rfl (by kernel_rfl) (by kernel_rfl) (by kernel_rfl) (fun _ _ _ h => h) (Or.inr ⟨by kernel_rfl, rfl⟩) hH0 ?_
      dsimp only [List.set_cons_zero, List.set_cons_succ]
      refine takeD (i := 27) (d := 64) (v := undef) rfl rfl (by kernel_rfl) (by kernel_rfl) (by kernel_rfl) (fun _ _ _ h => h) (Or.inr ⟨by kernel_rfl, rfl⟩) hH0 ?_
      dsimp only [List.set_cons_zero, List.set_cons_succ]
      refine takeD (i := 28) (d := 65) (v := undef) rfl rfl (by kernel_rfl) (by kernel_rfl) (by kernel_rfl) (fun _ _ _ h => h) (Or.inr ⟨by kernel_rfl, rfl⟩) hH0 ?_
      dsimp only [List.set_cons_zero, List.set_cons_succ]
      refine takeD (i := 29) (d := 66) (v := undef) rfl rfl (by kernel_rfl) (by kernel_rfl) (by kernel_rfl) (fun _ _ _ h => h) (Or.inr ⟨by kernel_rfl, rfl⟩) hH0 ?_
      dsimp only [List.set_cons_zero, List.set_cons_succ]
      refine takeD (i := 30) (d := 67) (v := undef) rfl rfl (by kernel_rfl) (by kernel_rfl) (by kernel_rfl) (fun _ _ _ h => h) (Or.inr ⟨by kernel_rfl, rfl⟩) hH0 ?_
      dsimp only [List.set_cons_zero, List.set_cons_succ]
      refine takeD (i := 31) (d := 68) (v := .bool false) rfl rfl (by kernel_rfl) (by kernel_rfl) (by kernel_rfl) (fun _ _ _ h => h) (yldV [(58, .bool false), (67, undef)] (by kernel_rfl) rfl (by kernel_rfl) ?_) hH0 ?_
      · intro w hSw; go_simp
      dsimp only [List.set_cons_zero, List.set_cons_succ]
      refine takeD (i := 32) (d := 6) (v := .bool false) rfl rfl (by kernel_rfl) (by kernel_rfl) (by kernel_rfl) (fun _ _ _ h => h) (yldV [(68, .bool false)] (by kernel_rfl) rfl (by kernel_rfl) ?_) hH0 ?_
      · intro w hSw; go_simp
      dsimp only [List.set_cons_zero, List.set_cons_succ]
      refine wpAnyH_done (by kernel_rfl) ?_ _
      have HBE := Lib.hid' (HB7.out.trans (Below.mono hH0 HB7.out.size))
      go_wp2_with fail
      go_ret2
      exact ⟨by rw [HC2.out]; rfl, HBE.out⟩
    have b2 : (x.n == (k : Int)) = true := by rw [beq_iff_eq]; exact a0
    clear a0
    by_cases a1 : x.f = y.t
    rotate_left
    · have b3 : (x.f == y.t) = false := by rw [beq_eq_false_iff_ne]; exact a1
      have HC2 := Lib.hid' (HNO.out (by rw [HF.out, b3]; simp))
      clear HNO HYE HF a1 HEQ
      refine startD (S := (fun w' => Below w7.heap.size w7 w')) (by kernel_rfl) ((Below.refl _ _).drew) (fun hH0 => ?_)
      simp only [List.length_cons, List.length_nil, Nat.reduceAdd, List.replicate_succ, List.replicate_zero]
      refine takeD (i := 0) (d := 37) (v := .bool true) rfl rfl (by kernel_rfl) (by kernel_rfl) (by kernel_rfl) (fun _ _ _ h => h) (yldV [(6, .bool (x.n == (k : Int)))] (by kernel_rfl) rfl (by kernel_rfl) ?_) hH0 ?_
      · intro w hSw; go_simp
      dsimp only [List.set_cons_zero, List.set_cons_succ]
      refine takeD (i := 1) (d := 38) (v := .bool true) rfl rfl (by kernel_rfl) (by kernel_rfl) (by kernel_rfl) (fun _ _ _ h => h) (yldV [(37, .bool true)] (by kernel_rfl) rfl (by kernel_rfl) ?_) hH0 ?_
      · intro w hSw; go_simp
      dsimp only [List.set_cons_zero, List.set_cons_succ]
      refine takeD (i := 2) (d := 39) (v := .slice (some ⟨ba, oa, none⟩) X.length c) rfl rfl (by kernel_rfl) (by kernel_rfl) (by kernel_rfl) (fun _ _ _ h => h) (yldV [(0, .slice (some ⟨ba, oa, none⟩) X.length c)] (by kernel_rfl) rfl (by kernel_rfl) ?_) hH0 ?_
      · intro w hSw; go_simp
      dsimp only [List.set_cons_zero, List.set_cons_succ]
      refine takeD (i := 3) (d := 40) (v := .int .i64 (k : Int)) rfl rfl (by kernel_rfl) (by kernel_rfl) (by kernel_rfl) (fun _ _ _ h => h) (yldV [(4, .int .i64 (k : Int))] (by kernel_rfl) rfl (by kernel_rfl) ?_) hH0 ?_
      · intro w hSw; go_simp
      dsimp only [List.set_cons_zero, List.set_cons_succ]
      refine takeD (i := 4) (d := 41) (v := .pointer (some ⟨ba, oa + k * 37, none⟩)) rfl rfl (by kernel_rfl) (by kernel_rfl) (by kernel_rfl) (fun _ _ _ h => h) (yldV [(39, .slice (some ⟨ba, oa, none⟩) X.length c), (40, .int .i64 (k : Int))] (by kernel_rfl) rfl (by kernel_rfl) ?_) hH0 ?_
      · intro w hSw; go_simp
      dsimp only [List.set_cons_zero, List.set_cons_succ]
      refine takeD (i := 5) (d := 42) (v := .pointer (some ⟨ba, oa + k * 37 + 1, none⟩)) rfl rfl (by kernel_rfl) (by kernel_rfl) (by kernel_rfl) (fun _ _ _ h => h) (yldV [(41, .pointer (some ⟨ba, oa + k * 37, none⟩))] (by kernel_rfl) rfl (by kernel_rfl) ?_) hH0 ?_
      · intro w hSw; go_simp
      dsimp only [List.set_cons_zero, List.set_cons_succ]
      refine takeD (i := 6) (d := 43) (v := .int .i64 x.f) rfl rfl (by kernel_rfl) (by kernel_rfl) (by kernel_rfl) (fun _ _ _ h => h) (yldV [(42, .pointer (some ⟨ba, oa + k * 37 + 1, none⟩))] (by kernel_rfl) rfl (by kernel_rfl) ?_) hH0 ?_
      · intro w hSw; have q := (HCX.out w hSw); obtain ⟨q0, q1, q3, q4⟩ := q; go_simp
      dsimp only [List.set_cons_zero, List.set_cons_succ]
      refine takeD (i := 7) (d := 44) (v := .pointer (some ⟨N7, 2, none⟩)) rfl rfl (by kernel_rfl) (by kernel_rfl) (by kernel_rfl) (fun _ _ _ h => h) (yldV [(7, .pointer (some ⟨N7, 0, none⟩))] (by kernel_rfl) rfl (by kernel_rfl) ?_) hH0 ?_
      · intro w hSw; go_simp
      dsimp only [List.set_cons_zero, List.set_cons_succ]
      refine takeD (i := 8) (d := 45) (v := .int .i64 y.t) rfl rfl (by kernel_rfl) (by kernel_rfl) (by kernel_rfl) (fun _ _ _ h => h) (yldV [(44, .pointer (some ⟨N7, 2, none⟩))] (by kernel_rfl) rfl (by kernel_rfl) ?_) hH0 ?_
      · intro w hSw; have q := (HCY.out w hSw); obtain ⟨q2, q3, q4⟩ := q; go_simp
      dsimp only [List.set_cons_zero, List.set_cons_succ]
      refine takeD (i := 9) (d := 46) (v := .bool false) rfl rfl (by kernel_rfl) (by kernel_rfl) (by kernel_rfl) (fun _ _ _ h => h) (yldV [(43, .int .i64 x.f), (45, .int .i64 y.t)] (by kernel_rfl) rfl (by kernel_rfl) ?_) hH0 ?_
      · intro w hSw; go_simp
      dsimp only [List.set_cons_zero, List.set_cons_succ]
      refine takeD (i := 10) (d := 47) (v := .bool false) rfl rfl (by kernel_rfl) (by kernel_rfl) (by kernel_rfl) (fun _ _ _ h => h) (yldV [(38, .bool true), (46, .bool false)] (by kernel_rfl) rfl (by kernel_rfl) ?_) hH0 ?_
      · intro w hSw; go_simp
      dsimp only [List.set_cons_zero, List.set_cons_succ]
      refine takeD (i := 11) (d := 48) (v := .bool false) rfl rfl (by kernel_rfl) (by kernel_rfl) (by kernel_rfl) (fun _ _ _ h => h) (yldV [(47, .bool false)] (by kernel_rfl) rfl (by kernel_rfl) ?_) hH0 ?_
      · intro w hSw; go_simp
      dsimp only [List.set_cons_zero, List.set_cons_succ]
      refine takeD (i := 12) (d := 49) (v := undef) rfl rfl (by kernel_rfl) (by kernel_rfl) (by kernel_rfl) (fun _ _ _ h => h) (Or.inr ⟨by kernel_rfl, rfl⟩) hH0 ?_
      dsimp only [List.set_cons_zero, List.set_cons_succ]
      refine takeD (i := 13) (d := 50) (v := undef) rfl rfl (by kernel_rfl) (by kernel_rfl) (by kernel_rfl) (fun _ _ _ h => h) (Or.inr ⟨by kernel_rfl, rfl⟩) hH0 ?_
      dsimp only [List.set_cons_zero, List.set_cons_succ]
      refine takeD (i := 14) (d := 51) (v := undef) rfl rfl (by kernel_rfl) (by kernel_rfl) (by kernel_rfl) (fun _ _ _ h => h) (Or.inr ⟨by kernel_rfl, rfl⟩) hH0 ?_
      dsimp only [List.set_cons_zero, List.set_cons_succ]
      refine takeD (i := 15) (d := 52) (v := undef) rfl rfl (by kernel_rfl) (by kernel_rfl) (by kernel_rfl) (fun _ _ _ h => h) (Or.inr ⟨by kernel_rfl, rfl⟩) hH0 ?_
      dsimp only [List.set_cons_zero, List.set_cons_succ]
      refine takeD (i := 16) (d := 53) (v := undef) rfl rfl (by kernel_rfl) (by kernel_rfl) (by kernel_rfl) (fun _ _ _ h => h) (Or.inr ⟨by kernel_rfl, rfl⟩) hH0 ?_
      dsimp only [List.set_cons_zero, List.set_cons_succ]
      refine takeD (i := 17) (d := 54) (v := undef) rfl rfl (by kernel_rfl) (by kernel_rfl) (by kernel_rfl) (fun _ _ _ h => h) (Or.inr ⟨by kernel_rfl, rfl⟩) hH0 ?_
      dsimp only [List.set_cons_zero, List.set_cons_succ]
      refine takeD (i := 18) (d := 55) (v := undef) rfl rfl (by kernel_rfl) (by kernel_rfl) (by kernel_rfl) (fun _ _ _ h => h) (Or.inr ⟨by kernel_rfl, rfl⟩) hH0 ?_
      dsimp only [List.set_cons_zero, List.set_cons_succ]
      refine takeD (i := 19) (d := 56) (v := undef) rfl rfl (by kernel_rfl) (by kernel_rfl) (by kernel_rfl) (fun _ _ _ h => h) (Or.inr ⟨by kernel_rfl, rfl⟩) hH0 ?_
      dsimp only [List.set_cons_zero, List.set_cons_succ]
      refine takeD (i := 20) (d := 57) (v := .bool false) rfl rfl (by kernel_rfl) (by kernel_rfl) (by kernel_rfl) (fun _ _ _ h => h) (yldV [(48, .bool false), (56, undef)] (by kernel_rfl) rfl (by kernel_rfl) ?_) hH0 ?_
      · intro w hSw; go_simp
      dsimp only [List.set_cons_zero, List.set_cons_succ]
      refine takeD (i := 21) (d := 58) (v := .bool false) rfl rfl (by kernel_rfl) (by kernel_rfl) (by kernel_rfl) (fun _ _ _ h => h) (yldV [(57, .bool false)] (by kernel_rfl) rfl (by kernel_rfl) ?_) hH0 ?_
      · intro w hSw; go_simp
      dsimp only [List.set_cons_zero, List.set_cons_succ]
      refine takeD (i := 22) (d := 59) (v := undef) rfl rfl (by kernel_rfl) (by kernel_rfl) (by kernel_rfl) (fun _ _ _ h => h) (Or.inr ⟨by kernel_rfl, rfl⟩) hH0 ?_
      dsimp only [List.set_cons_zero, List.set_cons_succ]
      refine takeD (i := 23) (d := 60) (v := undef) rfl rfl (by kernel_rfl) (by kernel_rfl) (by kernel_rfl) (fun _ _ _ h => h) (Or.inr ⟨by kernel_rfl, rfl⟩) hH0 ?_
      dsimp only [List.set_cons_zero, List.set_cons_succ]
      refine takeD (i := 24) (d := 61) (v := undef) rfl rfl (by kernel_rfl) (by kernel_rfl) (by kernel_rfl) (fun _ _ _ h => h) (Or.inr ⟨by kernel_rfl, rfl⟩) hH0 ?_
      dsimp only [List.set_cons_zero, List.set_cons_succ]
      refine takeD (i := 25) (d := 62) (v := undef) rfl rfl (by kernel_rfl) (by kernel_rfl) (by kernel_rfl) (fun _ _ _ h => h) (Or.inr ⟨by kernel_rfl, rfl⟩) hH0 ?_
      dsimp only [List.set_cons_zero, List.set_cons_succ]
      refine takeD (i := 26) (d := 63) (v := undef) rfl rfl (by kernel_rfl) (by kernel_rfl) (by kernel_rfl) (fun _ _ _ h => h) (Or.inr ⟨by kernel_rfl, rfl⟩) hH0 ?_
      dsimp only [List.set_cons_zero, List.set_cons_succ]
      refine takeD (i := 27) (d := 64) (v := undef) rfl rfl (by kernel_rfl) (by kernel_rfl) (by kernel_rfl) (fun _ _ _ h => h) (Or.inr ⟨by kernel_rfl, rfl⟩) hH0 ?_
      dsimp only [List.set_cons_zero, List.set_cons_succ]
      refine takeD (i := 28) (d := 65) (v := undef) rfl rfl (by kernel_rfl) (by kernel_rfl) (by kernel_rfl) (fun _ _ _ h => h) (Or.inr ⟨by kernel_rfl, rfl⟩) hH0 ?_
      dsimp only [List.set_cons_zero, List.set_cons_succ]
      refine takeD (i := 29) (d := 66) (v := undef) rfl rfl (by kernel_rfl) (by kernel_rfl) (by kernel_rfl) (fun _ _ _ h => h) (Or.inr ⟨by kernel_rfl, rfl⟩) hH0 ?_
      dsimp only [List.set_cons_zero, List.set_cons_succ]
      refine takeD (i := 30) (d := 67) (v := undef) rfl rfl (by kernel_rfl) (by kernel_rfl) (by kernel_rfl) (fun _ _ _ h => h) (Or.inr ⟨by kernel_rfl, rfl⟩) hH0 ?_
      dsimp only [List.set_cons_zero, List.set_cons_succ]
      refine takeD (i := 31) (d := 68) (v := .bool false) rfl rfl (by kernel_rfl) (by kernel_rfl) (by kernel_rfl) (fun _ _ _ h => h) (yldV [(58, .bool false), (67, undef)] (by kernel_rfl) rfl (by kernel_rfl) ?_) hH0 ?_
      · intro w hSw; go_simp
      dsimp only [List.set_cons_zero, List.set_cons_succ]
      refine takeD (i := 32) (d := 6) (v := .bool false) rfl rfl (by kernel_rfl) (by kernel_rfl) (by kernel_rfl) (fun _ _ _ h => h) (yldV [(68, .bool false)] (by kernel_rfl) rfl (by kernel_rfl) ?_) hH0 ?_
      · intro w hSw; go_simp
      dsimp only [List.set_cons_zero, List.set_cons_succ]
      refine wpAnyH_done (by kernel_rfl) ?_ _
      have HBE := Lib.hid' (HB7.out.trans (Below.mono hH0 HB7.out.size))
      go_wp2_with fail
      go_ret2
      exact ⟨by rw [HC2.out]; rfl, HBE.out⟩
    have b3 : (x.f == y.t) = true := by rw [beq_iff_eq]; exact a1
    clear a1
    by_cases a2 : y.r ≤ x.r
    rotate_left
    · have b4 : decide (y.r ≤ x.r) = false := by rw [decide_eq_false_iff_not]; exact a2
      have HC2 := Lib.hid' (HNO.out (by rw [HF.out, b4]; simp))
      clear HNO HYE HF a2 HEQ
      refine startD (S := (fun w' => Below w7.heap.size w7 w')) (by kernel_rfl) ((Below.refl _ _).drew) (fun hH0 => ?_)
      simp only [List.length_cons, List.length_nil, Nat.reduceAdd, List.replicate_succ, List.replicate_zero]
      refine takeD (i := 0) (d := 37) (v := .bool true) rfl rfl (by kernel_rfl) (by kernel_rfl) (by kernel_rfl) (fun _ _ _ h => h) (yldV [(6, .bool (x.n == (k : Int)))] (by kernel_rfl) rfl (by kernel_rfl) ?_) hH0 ?_
      · intro w hSw; go_simp
      dsimp only [List.set_cons_zero, List.set_cons_succ]
      refine takeD (i := 1) (d := 38) (v := .bool true) rfl rfl (by kernel_rfl) (by kernel_rfl) (by kernel_rfl) (fun _ _ _ h => h) (yldV [(37, .bool true)] (by kernel_rfl) rfl (by kernel_rfl) ?_) hH0 ?_
      · intro w hSw; go_simp
      dsimp only [List.set_cons_zero, List.set_cons_succ]
      refine takeD (i := 2) (d := 39) (v := .slice (some ⟨ba, oa, none⟩) X.length c) rfl rfl (by kernel_rfl) (by kernel_rfl) (by kernel_rfl) (fun _ _ _ h => h) (yldV [(0, .slice (some ⟨ba, oa, none⟩) X.length c)] (by kernel_rfl) rfl (by kernel_rfl) ?_) hH0 ?_
      · intro w hSw; go_simp
      dsimp only [List.set_cons_zero, List.set_cons_succ]
      refine takeD (i := 3) (d := 40) (v := .int .i64 (k : Int)) rfl rfl (by kernel_rfl) (by kernel_rfl) (by kernel_rfl) (fun _ _ _ h => h) (yldV [(4, .int .i64 (k : Int))] (by kernel_rfl) rfl (by kernel_rfl) ?_) hH0 ?_
      · intro w hSw; go_simp
      dsimp only [List.set_cons_zero, List.set_cons_succ]
      refine takeD (i := 4) (d := 41) (v := .pointer (some ⟨ba, oa + k * 37, none⟩)) rfl rfl (by kernel_rfl) (by kernel_rfl) (by kernel_rfl) (fun _ _ _ h => h) (yldV [(39, .slice (some ⟨ba, oa, none⟩) X.length c), (40, .int .i64 (k : Int))] (by kernel_rfl) rfl (by kernel_rfl) ?_) hH0 ?_
      · intro w hSw; go_simp
      dsimp only [List.set_cons_zero, List.set_cons_succ]
      refine takeD (i := 5) (d := 42) (v := .pointer (some ⟨ba, oa + k * 37 + 1, none⟩)) rfl rfl (by kernel_rfl) (by kernel_rfl) (by kernel_rfl) (fun _ _ _ h => h) (yldV [(41, .pointer (some ⟨ba, oa + k * 37, none⟩))] (by kernel_rfl) rfl (by kernel_rfl) ?_) hH0 ?_
      · intro w hSw; go_simp
      dsimp only [List.set_cons_zero, List.set_cons_succ]
      refine takeD (i := 6) (d := 43) (v := .int .i64 x.f) rfl rfl (by kernel_rfl) (by kernel_rfl) (by kernel_rfl) (fun _ _ _ h => h) (yldV [(42, .pointer (some ⟨ba, oa + k * 37 + 1, none⟩))] (by kernel_rfl) rfl (by kernel_rfl) ?_) hH0 ?_
      · intro w hSw; have q := (HCX.out w hSw); obtain ⟨q0, q1, q3, q4⟩ := q; go_simp
      dsimp only [List.set_cons_zero, List.set_cons_succ]
      refine takeD (i := 7) (d := 44) (v := .pointer (some ⟨N7, 2, none⟩)) rfl rfl (by kernel_rfl) (by kernel_rfl) (by kernel_rfl) (fun _ _ _ h => h) (yldV [(7, .pointer (some ⟨N7, 0, none⟩))] (by kernel_rfl) rfl (by kernel_rfl) ?_) hH0 ?_
      · intro w hSw; go_simp
      dsimp only [List.set_cons_zero, List.set_cons_succ]
      refine takeD (i := 8) (d := 45) (v := .int .i64 y.t) rfl rfl (by kernel_rfl) (by kernel_rfl) (by kernel_rfl) (fun _ _ _ h => h) (yldV [(44, .pointer (some ⟨N7, 2, none⟩))] (by kernel_rfl) rfl (by kernel_rfl) ?_) hH0 ?_
      · intro w hSw; have q := (HCY.out w hSw); obtain ⟨q2, q3, q4⟩ := q; go_simp
      dsimp only [List.set_cons_zero, List.set_cons_succ]
      refine takeD (i := 9) (d := 46) (v := .bool true) rfl rfl (by kernel_rfl) (by kernel_rfl) (by kernel_rfl) (fun _ _ _ h => h) (yldV [(43, .int .i64 x.f), (45, .int .i64 y.t)] (by kernel_rfl) rfl (by kernel_rfl) ?_) hH0 ?_
      · intro w hSw; go_simp
      dsimp only [List.set_cons_zero, List.set_cons_succ]
      refine takeD (i := 10) (d := 47) (v := .bool true) rfl rfl (by kernel_rfl) (by kernel_rfl) (by kernel_rfl) (fun _ _ _ h => h) (yldV [(38, .bool true), (46, .bool true)] (by kernel_rfl) rfl (by kernel_rfl) ?_) hH0 ?_
      · intro w hSw; go_simp
      dsimp only [List.set_cons_zero, List.set_cons_succ]
      refine takeD (i := 11) (d := 48) (v := .bool true) rfl rfl (by kernel_rfl) (by kernel_rfl) (by kernel_rfl) (fun _ _ _ h => h) (yldV [(47, .bool true)] (by kernel_rfl) rfl (by kernel_rfl) ?_) hH0 ?_
      · intro w hSw; go_simp
      dsimp only [List.set_cons_zero, List.set_cons_succ]
      refine takeD (i := 12) (d := 49) (v := .slice (some ⟨ba, oa, none⟩) X.length c) rfl rfl (by kernel_rfl) (by kernel_rfl) (by kernel_rfl) (fun _ _ _ h => h) (yldV [(0, .slice (some ⟨ba, oa, none⟩) X.length c)] (by kernel_rfl) rfl (by kernel_rfl) ?_) hH0 ?_
      · intro w hSw; go_simp
      dsimp only [List.set_cons_zero, List.set_cons_succ]
      refine takeD (i := 13) (d := 50) (v := .int .i64 (k : Int)) rfl rfl (by kernel_rfl) (by kernel_rfl) (by kernel_rfl) (fun _ _ _ h => h) (yldV [(4, .int .i64 (k : Int))] (by kernel_rfl) rfl (by kernel_rfl) ?_) hH0 ?_
      · intro w hSw; go_simp
      dsimp only [List.set_cons_zero, List.set_cons_succ]
      refine takeD (i := 14) (d := 51) (v := .pointer (some ⟨ba, oa + k * 37, none⟩)) rfl rfl (by kernel_rfl) (by kernel_rfl) (by kernel_rfl) (fun _ _ _ h => h) (yldV [(49, .slice (some ⟨ba, oa, none⟩) X.length c), (50, .int .i64 (k : Int))] (by kernel_rfl) rfl (by kernel_rfl) ?_) hH0 ?_
      · intro w hSw; go_simp
      dsimp only [List.set_cons_zero, List.set_cons_succ]
      refine takeD (i := 15) (d := 52) (v := .pointer (some ⟨ba, oa + k * 37 + 3, none⟩)) rfl rfl (by kernel_rfl) (by kernel_rfl) (by kernel_rfl) (fun _ _ _ h => h) (yldV [(51, .pointer (some ⟨ba, oa + k * 37, none⟩))] (by kernel_rfl) rfl (by kernel_rfl) ?_) hH0 ?_
      · intro w hSw; go_simp
      dsimp only [List.set_cons_zero, List.set_cons_succ]
      refine takeD (i := 16) (d := 53) (v := .int .i64 x.r) rfl rfl (by kernel_rfl) (by kernel_rfl) (by kernel_rfl) (fun _ _ _ h => h) (yldV [(52, .pointer (some ⟨ba, oa + k * 37 + 3, none⟩))] (by kernel_rfl) rfl (by kernel_rfl) ?_) hH0 ?_
      · intro w hSw; have q := (HCX.out w hSw); obtain ⟨q0, q1, q3, q4⟩ := q; go_simp
      dsimp only [List.set_cons_zero, List.set_cons_succ]
      refine takeD (i := 17) (d := 54) (v := .pointer (some ⟨N7, 3, none⟩)) rfl rfl (by kernel_rfl) (by kernel_rfl) (by kernel_rfl) (fun _ _ _ h => h) (yldV [(7, .pointer (some ⟨N7, 0, none⟩))] (by kernel_rfl) rfl (by kernel_rfl) ?_) hH0 ?_
      · intro w hSw; go_simp
      dsimp only [List.set_cons_zero, List.set_cons_succ]
      refine takeD (i := 18) (d := 55) (v := .int .i64 y.r) rfl rfl (by kernel_rfl) (by kernel_rfl) (by kernel_rfl) (fun _ _ _ h => h) (yldV [(54, .pointer (some ⟨N7, 3, none⟩))] (by kernel_rfl) rfl (by kernel_rfl) ?_) hH0 ?_
      · intro w hSw; have q := (HCY.out w hSw); obtain ⟨q2, q3, q4⟩ := q; go_simp
      dsimp only [List.set_cons_zero, List.set_cons_succ]
      refine takeD (i := 19) (d := 56) (v := .bool false) rfl rfl (by kernel_rfl) (by kernel_rfl) (by kernel_rfl) (fun _ _ _ h => h) (yldV [(53, .int .i64 x.r), (55, .int .i64 y.r)] (by kernel_rfl) rfl (by kernel_rfl) ?_) hH0 ?_
      · intro w hSw; go_simp
      dsimp only [List.set_cons_zero, List.set_cons_succ]
      refine takeD (i := 20) (d := 57) (v := .bool false) rfl rfl (by kernel_rfl) (by kernel_rfl) (by kernel_rfl) (fun _ _ _ h => h) (yldV [(48, .bool true), (56, .bool false)] (by kernel_rfl) rfl (by kernel_rfl) ?_) hH0 ?_
      · intro w hSw; go_simp
      dsimp only [List.set_cons_zero, List.set_cons_succ]
      refine takeD (i := 21) (d := 58) (v := .bool false) rfl rfl (by kernel_rfl) (by kernel_rfl) (by kernel_rfl) (fun _ _ _ h => h) (yldV [(57, .bool false)] (by kernel_rfl) rfl (by kernel_rfl) ?_) hH0 ?_
      · intro w hSw; go_simp
      dsimp only [List.set_cons_zero, List.set_cons_succ]
      refine takeD (i := 22) (d := 59) (v := undef) rfl rfl (by kernel_rfl) (by kernel_rfl) (by kernel_rfl) (fun _ _ _ h => h) (Or.inr ⟨by kernel_rfl, rfl⟩) hH0 ?_
      dsimp only [List.set_cons_zero, List.set_cons_succ]
      refine takeD (i := 23) (d := 60) (v := undef) rfl rfl (by kernel_rfl) (by kernel_rfl) (by kernel_rfl) (fun _ _ _ h => h) (Or.inr ⟨by kernel_rfl, rfl⟩) hH0 ?_
      dsimp only [List.set_cons_zero, List.set_cons_succ]
      refine takeD (i := 24) (d := 61) (v := undef) rfl rfl (by kernel_rfl) (by kernel_rfl) (by kernel_rfl) (fun _ _ _ h => h) (Or.inr ⟨by kernel_rfl, rfl⟩) hH0 ?_
      dsimp only [List.set_cons_zero, List.set_cons_succ]
      refine takeD (i := 25) (d := 62) (v := undef) rfl rfl (by kernel_rfl) (by kernel_rfl) (by kernel_rfl) (fun _ _ _ h => h) (Or.inr ⟨by kernel_rfl, rfl⟩) hH0 ?_
      dsimp only [List.set_cons_zero, List.set_cons_succ]
      refine takeD (i := 26) (d := 63) (v := undef) rfl rfl (by kernel_rfl) (by kernel_rfl) (by kernel_rfl) (fun _ _ _ h => h) (Or.inr ⟨by kernel_rfl, rfl⟩) hH0 ?_
      dsimp only [List.set_cons_zero, List.set_cons_succ]
      refine takeD (i := 27) (d := 64) (v := undef) rfl rfl (by kernel_rfl) (by kernel_rfl) (by kernel_rfl) (fun _ _ _ h => h) (Or.inr ⟨by kernel_rfl, rfl⟩) hH0 ?_
      dsimp only [List.set_cons_zero, List.set_cons_succ]
      refine takeD (i := 28) (d := 65) (v := undef) rfl rfl (by kernel_rfl) (by kernel_rfl) (by kernel_rfl) (fun _ _ _ h => h) (Or.inr ⟨by kernel_rfl, rfl⟩) hH0 ?_
      dsimp only [List.set_cons_zero, List.set_cons_succ]
      refine takeD (i := 29) (d := 66) (v := undef) rfl rfl (by kernel_rfl) (by kernel_rfl) (by kernel_rfl) (fun _ _ _ h => h) (Or.inr ⟨by kernel_rfl, rfl⟩) hH0 ?_
      dsimp only [List.set_cons_zero, List.set_cons_succ]
      refine takeD (i := 30) (d := 67) (v := undef) rfl rfl (by kernel_rfl) (by kernel_rfl) (by kernel_rfl) (fun _ _ _ h => h) (Or.inr ⟨by kernel_rfl, rfl⟩) hH0 ?_
      dsimp only [List.set_cons_zero, List.set_cons_succ]
      refine takeD (i := 31) (d := 68) (v := .bool false) rfl rfl (by kernel_rfl) (by kernel_rfl) (by kernel_rfl) (fun _ _ _ h => h) (yldV [(58, .bool false), (67, undef)] (by kernel_rfl) rfl (by kernel_rfl) ?_) hH0 ?_
      · intro w hSw; go_simp
      dsimp only [List.set_cons_zero, List.set_cons_succ]
      refine takeD (i := 32) (d := 6) (v := .bool false) rfl rfl (by kernel_rfl) (by kernel_rfl) (by kernel_rfl) (fun _ _ _ h => h) (yldV [(68, .bool false)] (by kernel_rfl) rfl (by kernel_rfl) ?_) hH0 ?_
      · intro w hSw; go_simp
      dsimp only [List.set_cons_zero, List.set_cons_succ]
      refine wpAnyH_done (by kernel_rfl) ?_ _
      have HBE := Lib.hid' (HB7.out.trans (Below.mono hH0 HB7.out.size))
      go_wp2_with fail
      go_ret2
      exact ⟨by rw [HC2.out]; rfl, HBE.out⟩
    have b4 : decide (y.r ≤ x.r) = true := by rw [decide_eq_true_eq]; exact a2
    clear a2
    by_cases a3 : x.p = mdigB y
    rotate_left
    · have b5 : (x.p == mdigB y) = false := by rw [beq_eq_false_iff_ne]; exact a3
      have HC2 := Lib.hid' (HNO.out (by rw [HF.out, b5]; simp))
      rw [b5] at HEQ
      have HQ := HEQ.out
      clear HNO HYE HF a3 HEQ b5
      refine startD (S := (fun w' => Below w7.heap.size w7 w')) (by kernel_rfl) ((Below.refl _ _).drew) (fun hH0 => ?_)
      simp only [List.length_cons, List.length_nil, Nat.reduceAdd, List.replicate_succ, List.replicate_zero]
      refine takeD (i := 0) (d := 37) (v := .bool true) rfl rfl (by kernel_rfl) (by kernel_rfl) (by kernel_rfl) (fun _ _ _ h => h) (yldV [(6, .bool (x.n == (k : Int)))] (by kernel_rfl) rfl (by kernel_rfl) ?_) hH0 ?_
      · intro w hSw; go_simp
      dsimp only [List.set_cons_zero, List.set_cons_succ]
      refine takeD (i := 1) (d := 38) (v := .bool true) rfl rfl (by kernel_rfl) (by kernel_rfl) (by kernel_rfl) (fun _ _ _ h => h) (yldV [(37, .bool true)] (by kernel_rfl) rfl (by kernel_rfl) ?_) hH0 ?_
      · intro w hSw; go_simp
      dsimp only [List.set_cons_zero, List.set_cons_succ]
      refine takeD (i := 2) (d := 39) (v := .slice (some ⟨ba, oa, none⟩) X.length c) rfl rfl (by kernel_rfl) (by kernel_rfl) (by kernel_rfl) (fun _ _ _ h => h) (yldV [(0, .slice (some ⟨ba, oa, none⟩) X.length c)] (by kernel_rfl) rfl (by kernel_rfl) ?_) hH0 ?_
      · intro w hSw; go_simp
      dsimp only [List.set_cons_zero, List.set_cons_succ]
      refine takeD (i := 3) (d := 40) (v := .int .i64 (k : Int)) rfl rfl (by kernel_rfl) (by kernel_rfl) (by kernel_rfl) (fun _ _ _ h => h) (yldV [(4, .int .i64 (k : Int))] (by kernel_rfl) rfl (by kernel_rfl) ?_) hH0 ?_
      · intro w hSw; go_simp
      dsimp only [List.set_cons_zero, List.set_cons_succ]
      refine takeD (i := 4) (d := 41) (v := .pointer (some ⟨ba, oa + k * 37, none⟩)) rfl rfl (by kernel_rfl) (by kernel_rfl) (by kernel_rfl) (fun _ _ _ h => h) (yldV [(39, .slice (some ⟨ba, oa, none⟩) X.length c), (40, .int .i64 (k : Int))] (by kernel_rfl) rfl (by kernel_rfl) ?_) hH0 ?_
      · intro w hSw; go_simp
      dsimp only [List.set_cons_zero, List.set_cons_succ]
      refine takeD (i := 5) (d := 42) (v := .pointer (some ⟨ba, oa + k * 37 + 1, none⟩)) rfl rfl (by kernel_rfl) (by kernel_rfl) (by kernel_rfl) (fun _ _ _ h => h) (yldV [(41, .pointer (some ⟨ba, oa + k * 37, none⟩))] (by kernel_rfl) rfl (by kernel_rfl) ?_) hH0 ?_
      · intro w hSw; go_simp
      dsimp only [List.set_cons_zero, List.set_cons_succ]
      refine takeD (i := 6) (d := 43) (v := .int .i64 x.f) rfl rfl (by kernel_rfl) (by kernel_rfl) (by kernel_rfl) (fun _ _ _ h => h) (yldV [(42, .pointer (some ⟨ba, oa + k * 37 + 1, none⟩))] (by kernel_rfl) rfl (by kernel_rfl) ?_) hH0 ?_
      · intro w hSw; have q := (HCX.out w hSw); obtain ⟨q0, q1, q3, q4⟩ := q; go_simp
      dsimp only [List.set_cons_zero, List.set_cons_succ]
      refine takeD (i := 7) (d := 44) (v := .pointer (some ⟨N7, 2, none⟩)) rfl rfl (by kernel_rfl) (by kernel_rfl) (by kernel_rfl) (fun _ _ _ h => h) (yldV [(7, .pointer (some ⟨N7, 0, none⟩))] (by kernel_rfl) rfl (by kernel_rfl) ?_) hH0 ?_
      · intro w hSw; go_simp
      dsimp only [List.set_cons_zero, List.set_cons_succ]
      refine takeD (i := 8) (d := 45) (v := .int .i64 y.t) rfl rfl (by kernel_rfl) (by kernel_rfl) (by kernel_rfl) (fun _ _ _ h => h) (yldV [(44, .pointer (some ⟨N7, 2, none⟩))] (by kernel_rfl) rfl (by kernel_rfl) ?_) hH0 ?_
      · intro w hSw; have q := (HCY.out w hSw); obtain ⟨q2, q3, q4⟩ := q; go_simp
      dsimp only [List.set_cons_zero, List.set_cons_succ]
      refine takeD (i := 9) (d := 46) (v := .bool true) rfl rfl (by kernel_rfl) (by kernel_rfl) (by kernel_rfl) (fun _ _ _ h => h) (yldV [(43, .int .i64 x.f), (45, .int .i64 y.t)] (by kernel_rfl) rfl (by kernel_rfl) ?_) hH0 ?_
      · intro w hSw; go_simp
      dsimp only [List.set_cons_zero, List.set_cons_succ]
      refine takeD (i := 10) (d := 47) (v := .bool true) rfl rfl (by kernel_rfl) (by kernel_rfl) (by kernel_rfl) (fun _ _ _ h => h) (yldV [(38, .bool true), (46, .bool true)] (by kernel_rfl) rfl (by kernel_rfl) ?_) hH0 ?_
      · intro w hSw; go_simp
      dsimp only [List.set_cons_zero, List.set_cons_succ]
      refine takeD (i := 11) (d := 48) (v := .bool true) rfl rfl (by kernel_rfl) (by kernel_rfl) (by kernel_rfl) (fun _ _ _ h => h) (yldV [(47, .bool true)] (by kernel_rfl) rfl (by kernel_rfl) ?_) hH0 ?_
      · intro w hSw; go_simp
      dsimp only [List.set_cons_zero, List.set_cons_succ]
      refine takeD (i := 12) (d := 49) (v := .slice (some ⟨ba, oa, none⟩) X.length c) rfl rfl (by kernel_rfl) (by kernel_rfl) (by kernel_rfl) (fun _ _ _ h => h) (yldV [(0, .slice (some ⟨ba, oa, none⟩) X.length c)] (by kernel_rfl) rfl (by kernel_rfl) ?_) hH0 ?_
      · intro w hSw; go_simp
      dsimp only [List.set_cons_zero, List.set_cons_succ]
      refine takeD (i := 13) (d := 50) (v := .int .i64 (k : Int)) rfl rfl (by kernel_rfl) (by kernel_rfl) (by kernel_rfl) (fun _ _ _ h => h) (yldV [(4, .int .i64 (k : Int))] (by kernel_rfl) rfl (by kernel_rfl) ?_) hH0 ?_
      · intro w hSw; go_simp
      dsimp only [List.set_cons_zero, List.set_cons_succ]
      refine takeD (i := 14) (d := 51) (v := .pointer (some ⟨ba, oa + k * 37, none⟩)) rfl rfl (by kernel_rfl) (by kernel_rfl) (by kernel_rfl) (fun _ _ _ h => h) (yldV [(49, .slice (some ⟨ba, oa, none⟩) X.length c), (50, .int .i64 (k : Int))] (by kernel_rfl) rfl (by kernel_rfl) ?_) hH0 ?_
      · intro w hSw; go_simp
      dsimp only [List.set_cons_zero, List.set_cons_succ]
      refine takeD (i := 15) (d := 52) (v := .pointer (some ⟨ba, oa + k * 37 + 3, none⟩)) rfl rfl (by kernel_rfl) (by kernel_rfl) (by kernel_rfl) (fun _ _ _ h => h) (yldV [(51, .pointer (some ⟨ba, oa + k * 37, none⟩))] (by kernel_rfl) rfl (by kernel_rfl) ?_) hH0 ?_
      · intro w hSw; go_simp
      dsimp only [List.set_cons_zero, List.set_cons_succ]
      refine takeD (i := 16) (d := 53) (v := .int .i64 x.r) rfl rfl (by kernel_rfl) (by kernel_rfl) (by kernel_rfl) (fun _ _ _ h => h) (yldV [(52, .pointer (some ⟨ba, oa + k * 37 + 3, none⟩))] (by kernel_rfl) rfl (by kernel_rfl) ?_) hH0 ?_
      · intro w hSw; have q := (HCX.out w hSw); obtain ⟨q0, q1, q3, q4⟩ := q; go_simp
      dsimp only [List.set_cons_zero, List.set_cons_succ]
      refine takeD (i := 17) (d := 54) (v := .pointer (some ⟨N7, 3, none⟩)) rfl rfl (by kernel_rfl) (by kernel_rfl) (by kernel_rfl) (fun _ _ _ h => h) (yldV [(7, .pointer (some ⟨N7, 0, none⟩))] (by kernel_rfl) rfl (by kernel_rfl) ?_) hH0 ?_
      · intro w hSw; go_simp
      dsimp only [List.set_cons_zero, List.set_cons_succ]
      refine takeD (i := 18) (d := 55) (v := .int .i64 y.r) rfl rfl (by kernel_rfl) (by kernel_rfl) (by kernel_rfl) (fun _ _ _ h => h) (yldV [(54, .pointer (some ⟨N7, 3, none⟩))] (by kernel_rfl) rfl (by kernel_rfl) ?_) hH0 ?_
      · intro w hSw; have q := (HCY.out w hSw); obtain ⟨q2, q3, q4⟩ := q; go_simp
      dsimp only [List.set_cons_zero, List.set_cons_succ]
      refine takeD (i := 19) (d := 56) (v := .bool true) rfl rfl (by kernel_rfl) (by kernel_rfl) (by kernel_rfl) (fun _ _ _ h => h) (yldV [(53, .int .i64 x.r), (55, .int .i64 y.r)] (by kernel_rfl) rfl (by kernel_rfl) ?_) hH0 ?_
      · intro w hSw; go_simp
      dsimp only [List.set_cons_zero, List.set_cons_succ]
      refine takeD (i := 20) (d := 57) (v := .bool true) rfl rfl (by kernel_rfl) (by kernel_rfl) (by kernel_rfl) (fun _ _ _ h => h) (yldV [(48, .bool true), (56, .bool true)] (by kernel_rfl) rfl (by kernel_rfl) ?_) hH0 ?_
      · intro w hSw; go_simp
      dsimp only [List.set_cons_zero, List.set_cons_succ]
      refine takeD (i := 21) (d := 58) (v := .bool true) rfl rfl (by kernel_rfl) (by kernel_rfl) (by kernel_rfl) (fun _ _ _ h => h) (yldV [(57, .bool true)] (by kernel_rfl) rfl (by kernel_rfl) ?_) hH0 ?_
      · intro w hSw; go_simp
      dsimp only [List.set_cons_zero, List.set_cons_succ]
      refine takeD (i := 22) (d := 59) (v := .slice (some ⟨ba, oa, none⟩) X.length c) rfl rfl (by kernel_rfl) (by kernel_rfl) (by kernel_rfl) (fun _ _ _ h => h) (yldV [(0, .slice (some ⟨ba, oa, none⟩) X.length c)] (by kernel_rfl) rfl (by kernel_rfl) ?_) hH0 ?_
      · intro w hSw; go_simp
      dsimp only [List.set_cons_zero, List.set_cons_succ]
      refine takeD (i := 23) (d := 60) (v := .int .i64 (k : Int)) rfl rfl (by kernel_rfl) (by kernel_rfl) (by kernel_rfl) (fun _ _ _ h => h) (yldV [(4, .int .i64 (k : Int))] (by kernel_rfl) rfl (by kernel_rfl) ?_) hH0 ?_
      · intro w hSw; go_simp
      dsimp only [List.set_cons_zero, List.set_cons_succ]
      refine takeD (i := 24) (d := 61) (v := .pointer (some ⟨ba, oa + k * 37, none⟩)) rfl rfl (by kernel_rfl) (by kernel_rfl) (by kernel_rfl) (fun _ _ _ h => h) (yldV [(59, .slice (some ⟨ba, oa, none⟩) X.length c), (60, .int .i64 (k : Int))] (by kernel_rfl) rfl (by kernel_rfl) ?_) hH0 ?_
      · intro w hSw; go_simp
      dsimp only [List.set_cons_zero, List.set_cons_succ]
      refine takeD (i := 25) (d := 62) (v := .pointer (some ⟨ba, oa + k * 37 + 4, none⟩)) rfl rfl (by kernel_rfl) (by kernel_rfl) (by kernel_rfl) (fun _ _ _ h => h) (yldV [(61, .pointer (some ⟨ba, oa + k * 37, none⟩))] (by kernel_rfl) rfl (by kernel_rfl) ?_) hH0 ?_
      · intro w hSw; go_simp
      dsimp only [List.set_cons_zero, List.set_cons_succ]
      refine takeD (i := 26) (d := 63) (v := .agg DX.toArray) rfl rfl (by kernel_rfl) (by kernel_rfl) (by kernel_rfl) (fun _ _ _ h => h) (yieldsIf_load_mid (by kernel_rfl) 64 (.tmp 62) rfl ba (oa + k * 37 + 4) rfl DX _ (fun wq hb => (HCX.out wq hb).2.2.2) Tryz.underlying64 rfl hzp) hH0 ?_
      dsimp only [List.set_cons_zero, List.set_cons_succ]
      refine takeD (i := 27) (d := 64) (v := .agg PY.toArray) rfl rfl (by kernel_rfl) (by kernel_rfl) (by kernel_rfl) (fun _ _ _ h => h) (yieldsIf_load_mid (by kernel_rfl) 67 (.tmp 7) rfl N7 0 rfl PY _ (fun wq hb => (HCY.out wq hb).2.2) Tryz.underlying67 rfl hzm) hH0 ?_
      dsimp only [List.set_cons_zero, List.set_cons_succ]
      refine wpAnyH_ready (rs := [28]) (by kernel_rfl) (by simp) (AllReadyH.cons (o := _) rfl (fun K hK => ?_) AllReadyH.nil)
      go_simp
      refine (HRP7.out _ hH0).mono ?_
      rintro en w8 ⟨fa, fc, fn, rfl, HOF, hb8⟩
      have HOF8 := Lib.hid' HOF
      clear HOF
      refine hK.out _ _ ?_ (fun hH1 => ?_)
      · exact Below.trans hH0 (hb8.mono (Below.size hH0))
      clear hK K
      try simp only [Act.put, List.getElem_toArray, List.getElem_cons_zero, List.getElem_cons_succ, List.setIfInBounds_toArray, List.set_cons_zero, List.set_cons_succ]
      refine wpAnyH_ready (rs := [29]) (by kernel_rfl) (by simp) (AllReadyH.cons (o := _) rfl (fun K hK => ?_) AllReadyH.nil)
      go_simp
      refine (HOF8.out _ (Below.refl _ _)).mono ?_
      rintro en w9 ⟨rfl, hb9⟩
      refine hK.out _ _ ?_ (fun hH2 => ?_)
      · exact Below.trans hH1 (hb9.mono (Below.size hH1))
      clear hK K
      try simp only [Act.put, List.getElem_toArray, List.getElem_cons_zero, List.getElem_cons_succ, List.setIfInBounds_toArray, List.set_cons_zero, List.set_cons_succ]
      refine takeD (i := 30) (d := 67) (v := .bool false) rfl rfl (by kernel_rfl) (by kernel_rfl) (by kernel_rfl) (fun _ _ _ h => h) (yldV [(63, .agg DX.toArray), (66, .agg DY.toArray)] (by kernel_rfl) rfl (by kernel_rfl) ?_) hH2 ?_
      · intro w hSw; go_simp
      dsimp only [List.set_cons_zero, List.set_cons_succ]
      refine takeD (i := 31) (d := 68) (v := .bool false) rfl rfl (by kernel_rfl) (by kernel_rfl) (by kernel_rfl) (fun _ _ _ h => h) (yldV [(58, .bool true), (67, .bool false)] (by kernel_rfl) rfl (by kernel_rfl) ?_) hH2 ?_
      · intro w hSw; go_simp
      dsimp only [List.set_cons_zero, List.set_cons_succ]
      refine takeD (i := 32) (d := 6) (v := .bool false) rfl rfl (by kernel_rfl) (by kernel_rfl) (by kernel_rfl) (fun _ _ _ h => h) (yldV [(68, .bool false)] (by kernel_rfl) rfl (by kernel_rfl) ?_) hH2 ?_
      · intro w hSw; go_simp
      dsimp only [List.set_cons_zero, List.set_cons_succ]
      refine wpAnyH_done (by kernel_rfl) ?_ _
      have HBE := Lib.hid' (HB7.out.trans (Below.mono hH2 HB7.out.size))
      go_wp2_with fail
      go_ret2
      exact ⟨by rw [HC2.out]; rfl, HBE.out⟩
    have b5 : (x.p == mdigB y) = true := by rw [beq_iff_eq]; exact a3
    have HC2 := Lib.hid' (HYE.out (by rw [HF.out, b2, b3, b4, b5]; rfl))
    rw [b5] at HEQ
    have HQ := HEQ.out
    clear HNO HYE HF a3 HEQ b5
    refine startD (S := (fun w' => Below w7.heap.size w7 w')) (by kernel_rfl) ((Below.refl _ _).drew) (fun hH0 => ?_)
    simp only [List.length_cons, List.length_nil, Nat.reduceAdd, List.replicate_succ, List.replicate_zero]
    refine takeD (i := 0) (d := 37) (v := .bool true) rfl rfl (by kernel_rfl) (by kernel_rfl) (by kernel_rfl) (fun _ _ _ h => h) (yldV [(6, .bool (x.n == (k : Int)))] (by kernel_rfl) rfl (by kernel_rfl) ?_) hH0 ?_
    · intro w hSw; go_simp
    dsimp only [List.set_cons_zero, List.set_cons_succ]
    refine takeD (i := 1) (d := 38) (v := .bool true) rfl rfl (by kernel_rfl) (by kernel_rfl) (by kernel_rfl) (fun _ _ _ h => h) (yldV [(37, .bool true)] (by kernel_rfl) rfl (by kernel_rfl) ?_) hH0 ?_
    · intro w hSw; go_simp
    dsimp only [List.set_cons_zero, List.set_cons_succ]
    refine takeD (i := 2) (d := 39) (v := .slice (some ⟨ba, oa, none⟩) X.length c) rfl rfl (by kernel_rfl) (by kernel_rfl) (by kernel_rfl) (fun _ _ _ h => h) (yldV [(0, .slice (some ⟨ba, oa, none⟩) X.length c)] (by kernel_rfl) rfl (by kernel_rfl) ?_) hH0 ?_
    · intro w hSw; go_simp
    dsimp only [List.set_cons_zero, List.set_cons_succ]
    refine takeD (i := 3) (d := 40) (v := .int .i64 (k : Int)) rfl rfl (by kernel_rfl) (by kernel_rfl) (by kernel_rfl) (fun _ _ _ h => h) (yldV [(4, .int .i64 (k : Int))] (by kernel_rfl) rfl (by kernel_rfl) ?_) hH0 ?_
    · intro w hSw; go_simp
    dsimp only [List.set_cons_zero, List.set_cons_succ]
    refine takeD (i := 4) (d := 41) (v := .pointer (some ⟨ba, oa + k * 37, none⟩)) rfl rfl (by kernel_rfl) (by kernel_rfl) (by kernel_rfl) (fun _ _ _ h => h) (yldV [(39, .slice (some ⟨ba, oa, none⟩) X.length c), (40, .int .i64 (k : Int))] (by kernel_rfl) rfl (by kernel_rfl) ?_) hH0 ?_
    · intro w hSw; go_simp
    dsimp only [List.set_cons_zero, List.set_cons_succ]
    refine takeD (i := 5) (d := 42) (v := .pointer (some ⟨ba, oa + k * 37 + 1, none⟩)) rfl rfl (by kernel_rfl) (by kernel_rfl) (by kernel_rfl) (fun _ _ _ h => h) (yldV [(41, .pointer (some ⟨ba, oa + k * 37, none⟩))] (by kernel_rfl) rfl (by kernel_rfl) ?_) hH0 ?_
    · intro w hSw; go_simp
    dsimp only [List.set_cons_zero, List.set_cons_succ]
    refine takeD (i := 6) (d := 43) (v := .int .i64 x.f) rfl rfl (by kernel_rfl) (by kernel_rfl) (by kernel_rfl) (fun _ _ _ h => h) (yldV [(42, .pointer (some ⟨ba, oa + k * 37 + 1, none⟩))] (by kernel_rfl) rfl (by kernel_rfl) ?_) hH0 ?_
    · intro w hSw; have q := (HCX.out w hSw); obtain ⟨q0, q1, q3, q4⟩ := q; go_simp
    dsimp only [List.set_cons_zero, List.set_cons_succ]
    refine takeD (i := 7) (d := 44) (v := .pointer (some ⟨N7, 2, none⟩)) rfl rfl (by kernel_rfl) (by kernel_rfl) (by kernel_rfl) (fun _ _ _ h => h) (yldV [(7, .pointer (some ⟨N7, 0, none⟩))] (by kernel_rfl) rfl (by kernel_rfl) ?_) hH0 ?_
    · intro w hSw; go_simp
    dsimp only [List.set_cons_zero, List.set_cons_succ]
    refine takeD (i := 8) (d := 45) (v := .int .i64 y.t) rfl rfl (by kernel_rfl) (by kernel_rfl) (by kernel_rfl) (fun _ _ _ h => h) (yldV [(44, .pointer (some ⟨N7, 2, none⟩))] (by kernel_rfl) rfl (by kernel_rfl) ?_) hH0 ?_
    · intro w hSw; have q := (HCY.out w hSw); obtain ⟨q2, q3, q4⟩ := q; go_simp
    dsimp only [List.set_cons_zero, List.set_cons_succ]
    refine takeD (i := 9) (d := 46) (v := .bool true) rfl rfl (by kernel_rfl) (by kernel_rfl) (by kernel_rfl) (fun _ _ _ h => h) (yldV [(43, .int .i64 x.f), (45, .int .i64 y.t)] (by kernel_rfl) rfl (by kernel_rfl) ?_) hH0 ?_
    · intro w hSw; go_simp
    dsimp only [List.set_cons_zero, List.set_cons_succ]
    refine takeD (i := 10) (d := 47) (v := .bool true) rfl rfl (by kernel_rfl) (by kernel_rfl) (by kernel_rfl) (fun _ _ _ h => h) (yldV [(38, .bool true), (46, .bool true)] (by kernel_rfl) rfl (by kernel_rfl) ?_) hH0 ?_
    · intro w hSw; go_simp
    dsimp only [List.set_cons_zero, List.set_cons_succ]
    refine takeD (i := 11) (d := 48) (v := .bool true) rfl rfl (by kernel_rfl) (by kernel_rfl) (by kernel_rfl) (fun _ _ _ h => h) (yldV [(47, .bool true)] (by kernel_rfl) rfl (by kernel_rfl) ?_) hH0 ?_
    · intro w hSw; go_simp
    dsimp only [List.set_cons_zero, List.set_cons_succ]
    refine takeD (i := 12) (d := 49) (v := .slice (some ⟨ba, oa, none⟩) X.length c) rfl rfl (by kernel_rfl) (by kernel_rfl) (by kernel_rfl) (fun _ _ _ h => h) (yldV [(0, .slice (some ⟨ba, oa, none⟩) X.length c)] (by kernel_rfl) rfl (by kernel_rfl) ?_) hH0 ?_
    · intro w hSw; go_simp
    dsimp only [List.set_cons_zero, List.set_cons_succ]
    refine takeD (i := 13) (d := 50) (v := .int .i64 (k : Int)) rfl rfl (by kernel_rfl) (by kernel_rfl) (by kernel_rfl) (fun _ _ _ h => h) (yldV [(4, .int .i64 (k : Int))] (by kernel_rfl) rfl (by kernel_rfl) ?_) hH0 ?_
    · intro w hSw; go_simp
    dsimp only [List.set_cons_zero, List.set_cons_succ]
    refine takeD (i := 14) (d := 51) (v := .pointer (some ⟨ba, oa + k * 37, none⟩)) rfl rfl (by kernel_rfl) (by kernel_rfl) (by kernel_rfl) (fun _ _ _ h => h) (yldV [(49, .slice (some ⟨ba, oa, none⟩) X.length c), (50, .int .i64 (k : Int))] (by kernel_rfl) rfl (by kernel_rfl) ?_) hH0 ?_
    · intro w hSw; go_simp
    dsimp only [List.set_cons_zero, List.set_cons_succ]
    refine takeD (i := 15) (d := 52) (v := .pointer (some ⟨ba, oa + k * 37 + 3, none⟩)) rfl rfl (by kernel_rfl) (by kernel_rfl) (by kernel_rfl) (fun _ _ _ h => h) (yldV [(51, .pointer (some ⟨ba, oa + k * 37, none⟩))] (by kernel_rfl) rfl (by kernel_rfl) ?_) hH0 ?_
    · intro w hSw; go_simp
    dsimp only [List.set_cons_zero, List.set_cons_succ]
    refine takeD (i := 16) (d := 53) (v := .int .i64 x.r) rfl rfl (by kernel_rfl) (by kernel_rfl) (by kernel_rfl) (fun _ _ _ h => h) (yldV [(52, .pointer (some ⟨ba, oa + k * 37 + 3, none⟩))] (by kernel_rfl) rfl (by kernel_rfl) ?_) hH0 ?_
    · intro w hSw; have q := (HCX.out w hSw); obtain ⟨q0, q1, q3, q4⟩ := q; go_simp
    dsimp only [List.set_cons_zero, List.set_cons_succ]
    refine takeD (i := 17) (d := 54) (v := .pointer (some ⟨N7, 3, none⟩)) rfl rfl (by kernel_rfl) (by kernel_rfl) (by kernel_rfl) (fun _ _ _ h => h) (yldV [(7, .pointer (some ⟨N7, 0, none⟩))] (by kernel_rfl) rfl (by kernel_rfl) ?_) hH0 ?_
    · intro w hSw; go_simp
    dsimp only [List.set_cons_zero, List.set_cons_succ]
    refine takeD (i := 18) (d := 55) (v := .int .i64 y.r) rfl rfl (by kernel_rfl) (by kernel_rfl) (by kernel_rfl) (fun _ _ _ h => h) (yldV [(54, .pointer (some ⟨N7, 3, none⟩))] (by kernel_rfl) rfl (by kernel_rfl) ?_) hH0 ?_
    · intro w hSw; have q := (HCY.out w hSw); obtain ⟨q2, q3, q4⟩ := q; go_simp
    dsimp only [List.set_cons_zero, List.set_cons_succ]
    refine takeD (i := 19) (d := 56) (v := .bool true) rfl rfl (by kernel_rfl) (by kernel_rfl) (by kernel_rfl) (fun _ _ _ h => h) (yldV [(53, .int .i64 x.r), (55, .int .i64 y.r)] (by kernel_rfl) rfl (by kernel_rfl) ?_) hH0 ?_
    · intro w hSw; go_simp
    dsimp only [List.set_cons_zero, List.set_cons_succ]
    refine takeD (i := 20) (d := 57) (v := .bool true) rfl rfl (by kernel_rfl) (by kernel_rfl) (by kernel_rfl) (fun _ _ _ h => h) (yldV [(48, .bool true), (56, .bool true)] (by kernel_rfl) rfl (by kernel_rfl) ?_) hH0 ?_
    · intro w hSw; go_simp
    dsimp only [List.set_cons_zero, List.set_cons_succ]
    refine takeD (i := 21) (d := 58) (v := .bool true) rfl rfl (by kernel_rfl) (by kernel_rfl) (by kernel_rfl) (fun _ _ _ h => h) (yldV [(57, .bool true)] (by kernel_rfl) rfl (by kernel_rfl) ?_) hH0 ?_
    · intro w hSw; go_simp
    dsimp only [List.set_cons_zero, List.set_cons_succ]
    refine takeD (i := 22) (d := 59) (v := .slice (some ⟨ba, oa, none⟩) X.length c) rfl rfl (by kernel_rfl) (by kernel_rfl) (by kernel_rfl) (fun _ _ _ h => h) (yldV [(0, .slice (some ⟨ba, oa, none⟩) X.length c)] (by kernel_rfl) rfl (by kernel_rfl) ?_) hH0 ?_
    · intro w hSw; go_simp
    dsimp only [List.set_cons_zero, List.set_cons_succ]
    refine takeD (i := 23) (d := 60) (v := .int .i64 (k : Int)) rfl rfl (by kernel_rfl) (by kernel_rfl) (by kernel_rfl) (fun _ _ _ h => h) (yldV [(4, .int .i64 (k : Int))] (by kernel_rfl) rfl (by kernel_rfl) ?_) hH0 ?_
    · intro w hSw; go_simp
    dsimp only [List.set_cons_zero, List.set_cons_succ]
    refine takeD (i := 24) (d := 61) (v := .pointer (some ⟨ba, oa + k * 37, none⟩)) rfl rfl (by kernel_rfl) (by kernel_rfl) (by kernel_rfl) (fun _ _ _ h => h) (yldV [(59, .slice (some ⟨ba, oa, none⟩) X.length c), (60, .int .i64 (k : Int))] (by kernel_rfl) rfl (by kernel_rfl) ?_) hH0 ?_
    · intro w hSw; go_simp
    dsimp only [List.set_cons_zero, List.set_cons_succ]
    refine takeD (i := 25) (d := 62) (v := .pointer (some ⟨ba, oa + k * 37 + 4, none⟩)) rfl rfl (by kernel_rfl) (by kernel_rfl) (by kernel_rfl) (fun _ _ _ h => h) (yldV [(61, .pointer (some ⟨ba, oa + k * 37, none⟩))] (by kernel_rfl) rfl (by kernel_rfl) ?_) hH0 ?_
    · intro w hSw; go_simp
    dsimp only [List.set_cons_zero, List.set_cons_succ]
    refine takeD (i := 26) (d := 63) (v := .agg DX.toArray) rfl rfl (by kernel_rfl) (by kernel_rfl) (by kernel_rfl) (fun _ _ _ h => h) (yieldsIf_load_mid (by kernel_rfl) 64 (.tmp 62) rfl ba (oa + k * 37 + 4) rfl DX _ (fun wq hb => (HCX.out wq hb).2.2.2) Tryz.underlying64 rfl hzp) hH0 ?_
    dsimp only [List.set_cons_zero, List.set_cons_succ]
    refine takeD (i := 27) (d := 64) (v := .agg PY.toArray) rfl rfl (by kernel_rfl) (by kernel_rfl) (by kernel_rfl) (fun _ _ _ h => h) (yieldsIf_load_mid (by kernel_rfl) 67 (.tmp 7) rfl N7 0 rfl PY _ (fun wq hb => (HCY.out wq hb).2.2) Tryz.underlying67 rfl hzm) hH0 ?_
    dsimp only [List.set_cons_zero, List.set_cons_succ]
    refine wpAnyH_ready (rs := [28]) (by kernel_rfl) (by simp) (AllReadyH.cons (o := _) rfl (fun K hK => ?_) AllReadyH.nil)
    go_simp
    refine (HRP7.out _ hH0).mono ?_
    rintro en w8 ⟨fa, fc, fn, rfl, HOF, hb8⟩
    have HOF8 := Lib.hid' HOF
    clear HOF
    refine hK.out _ _ ?_ (fun hH1 => ?_)
    · exact Below.trans hH0 (hb8.mono (Below.size hH0))
    clear hK K
    try simp only [Act.put, List.getElem_toArray, List.getElem_cons_zero, List.getElem_cons_succ, List.setIfInBounds_toArray, List.set_cons_zero, List.set_cons_succ]
    refine wpAnyH_ready (rs := [29]) (by kernel_rfl) (by simp) (AllReadyH.cons (o := _) rfl (fun K hK => ?_) AllReadyH.nil)
    go_simp
    refine (HOF8.out _ (Below.refl _ _)).mono ?_
    rintro en w9 ⟨rfl, hb9⟩
    refine hK.out _ _ ?_ (fun hH2 => ?_)
    · exact Below.trans hH1 (hb9.mono (Below.size hH1))
    clear hK K
    try simp only [Act.put, List.getElem_toArray, List.getElem_cons_zero, List.getElem_cons_succ, List.setIfInBounds_toArray, List.set_cons_zero, List.set_cons_succ]
    refine takeD (i := 30) (d := 67) (v := .bool true) rfl rfl (by kernel_rfl) (by kernel_rfl) (by kernel_rfl) (fun _ _ _ h => h) (yldV [(63, .agg DX.toArray), (66, .agg DY.toArray)] (by kernel_rfl) rfl (by kernel_rfl) ?_) hH2 ?_
    · intro w hSw; go_simp
    dsimp only [List.set_cons_zero, List.set_cons_succ]
    refine takeD (i := 31) (d := 68) (v := .bool true) rfl rfl (by kernel_rfl) (by kernel_rfl) (by kernel_rfl) (fun _ _ _ h => h) (yldV [(58, .bool true), (67, .bool true)] (by kernel_rfl) rfl (by kernel_rfl) ?_) hH2 ?_
    · intro w hSw; go_simp
    dsimp only [List.set_cons_zero, List.set_cons_succ]
    refine takeD (i := 32) (d := 6) (v := .bool true) rfl rfl (by kernel_rfl) (by kernel_rfl) (by kernel_rfl) (fun _ _ _ h => h) (yldV [(68, .bool true)] (by kernel_rfl) rfl (by kernel_rfl) ?_) hH2 ?_
    · intro w hSw; go_simp
    dsimp only [List.set_cons_zero, List.set_cons_succ]
    refine wpAnyH_done (by kernel_rfl) ?_ _
    have HBE := Lib.hid' (HB7.out.trans (Below.mono hH2 HB7.out.size))
    go_wp2_with fail
    go_roundw
    case rel => exact ⟨k + 1, by go_num, by omega, HC2, HG2, HBE⟩
    case measure => simp [intOf]; omega
theorem wpList_bs1 {P : Program} {t e size bytes : Nat} (T : ElemT P t e size bytes) {ops : Array Oper} {rest : List Oper} {o : Oper} {a : Act} {w : World} {Q : Exit → Act → World → Prop} (hg : o.guard = none) (x : Operand) (ho : o.op = .buildSlice t 1 #[(0, x)])
    (Y : List Value) (hx : a.eval x = .agg Y.toArray) (hl : Y.length = size) (hs : size ≤ 2 ^ 24) (h : wpList P ops Q rest (a.put o.dst (.slice (some ⟨w.heap.size, 0, none⟩) 1 1)) (w.alloc (.cells Y.toArray e))) : wpList P ops Q (o :: rest) a w :=
  wpList_step fun K hK => step_bs1 T hg x ho Y hx hl hs (hK _ _ h)
theorem etM15 : ElemT Tryz.prog 37 67 37 88 := ElemT.mk' (z := .agg #[.int .i64 0, .int .i64 0, .int .i64 0, .int .i64 0, .int .u8 0, .int .u8 0, .int .u8 0, .int .u8 0, .int .u8 0, .int .u8 0, .int .u8 0, .int .u8 0, .int .u8 0, .int .u8 0, .int .u8 0, .int .u8 0, .int .u8 0, .int .u8 0, .int .u8 0, .int .u8 0, .int .u8 0, .int .u8 0, .int .u8 0, .int .u8 0, .int .u8 0, .int .u8 0, .int .u8 0, .int .u8 0, .int .u8 0, .int .u8 0, .int .u8 0, .int .u8 0, .int .u8 0, .int .u8 0, .int .u8 0, .int .u8 0, .slice none 0 0]) Tryz.underlying37 (by kernel_rfl) rfl (by decide) (by decide)
theorem num16_any (n : Nat) (w : World) : Calls Tryz.prog 11 #[errV n] w fun e w' => e = .returned (.int .i64 (n : Int)) ∧ w = w' := by
  by_cases h : n = 0
  · subst h
    rw [errV_0]
    go_enter Tryz.func11, Tryz.ntmps11
    go_wp2
    go_ret
    exact ⟨rfl, rfl⟩
  · rw [errV_pos h]
    have h1 : ((n : Int) != 0) = true := by rw [bne_iff_ne]; omega
    go_enter Tryz.func11, Tryz.ntmps11
    go_wp2
    go_ret
    exact ⟨rfl, rfl⟩
def DocsR (X : List MfP) (w : World) (e : Ending) (w' : World) : Prop := ∃ b d Y, e = .returned (.slice b X.length d) ∧ Y.map (·.1) = X.map (·.1) ∧ MsAt w' b d Y ∧ Below w.heap.size w w'
/-- what has been laid: the row of the call's own, the parts beside it -/
structure DocI (w wr : World) (b : Option Addr) (k d : Nat) (Y : List MfP) : Prop where
  sep : Sep w NoF [.row 67 37 (.slice b k d) k (Y.flatMap mV)] wr
  ok : ∀ y ∈ Y, y.1.ok
  each : ∀ y ∈ Y, PtsAt wr y.2.1 y.2.2 y.1.ps
  off : ∀ y ∈ Y, SlIn (fun q => q < wr.heap.size ∧ ¬ (Value.slice b k d).ownBlock = some q) (.slice y.2.1 y.1.ps.length y.2.2)
theorem DocI.next {w wr w6 w8 w9 : World} {b a9 : Option Addr} {k d c9 : Nat} {Y : List MfP} {L : List Asn} (y : MfP) (HR : DocI w wr b k d Y) (hb1 : Below wr.heap.size wr w6) (hbw : Below w6.heap.size w6 w8)
    (hpn : PtsAt w6 y.2.1 y.2.2 y.1.ps) (hok : y.1.ok) (hnew : SlIn (fun q => wr.heap.size ≤ q ∧ q < w6.heap.size) (.slice y.2.1 y.1.ps.length y.2.2))
    (H8 : Sep w NoF (.row 67 37 (.slice b k d) k (Y.flatMap mV) :: L) w8) (HA : Sep w8 (Asn.row 67 37 (.slice b k d) k (Y.flatMap mV)).foot [.row 67 37 (.slice a9 (k + 1) c9) (k + 1) (Y.flatMap mV ++ mV y)] w9) :
    DocI w w9 a9 (k + 1) c9 (Y ++ [y]) := by
  have s1 := hb1.size
  have s2 := hbw.size
  have s3 := HA.fr.size
  have hb18 : Below wr.heap.size wr w8 := hb1.trans (hbw.mono s1)
  have hrow : ∀ q, (Asn.row 67 37 (.slice b k d) k (Y.flatMap mV)).foot q → q < wr.heap.size := fun q hq => HR.sep.lt' 0 rfl hq
  have hn9 : ∀ q, (Value.slice a9 (k + 1) c9).ownBlock = some q → w8.heap.size ≤ q ∨ (Value.slice b k d).ownBlock = some q := fun q hq => HA.new _ List.mem_cons_self q hq
  refine ⟨?_, ?_, ?_, ?_⟩
  · have h := H8.call HA
    have h2 : (Y ++ [y]).flatMap mV = Y.flatMap mV ++ mV y := by simp
    rw [h2]
    exact h.keepOnly (by simp)
  · intro z hz
    rcases List.mem_append.1 hz with h | h
    · exact HR.ok z h
    · rw [List.mem_singleton] at h; subst h; exact hok
  · intro z hz
    rcases List.mem_append.1 hz with h | h
    · exact SlV.fr ((HR.each z h).below (Nat.le_refl _) hb18) HA.fr (fun p n c e hf => (HR.off z h p n c e).2 hf)
    · rw [List.mem_singleton] at h; subst h
      exact SlV.fr (hpn.below (Nat.le_refl _) hbw) HA.fr (fun p n c e hf => by have h1 := (hnew p n c e).1; have h2 := hrow _ hf; omega)
  · intro z hz
    rcases List.mem_append.1 hz with h | h
    · intro p n c e
      have h1 := HR.off z h p n c e
      refine ⟨by omega, fun hq => ?_⟩
      rcases hn9 _ hq with h3 | h3
      · omega
      · exact h1.2 h3
    · rw [List.mem_singleton] at h; subst h
      intro p n c e
      have h1 := hnew p n c e
      refine ⟨by omega, fun hq => ?_⟩
      rcases hn9 _ hq with h3 | h3
      · omega
      · have := hrow _ h3; omega
set_option maxHeartbeats 16000000 in
theorem documents_any (X : List MfP) (a : Option Addr) (c : Nat) (w : World) (h : MsAt w a c X) (hl : X.length ≤ 12) (h12 : ∀ x ∈ X, x.1.ps.length ≤ 12) :
    Calls Tryz.prog 8 #[.slice a X.length c] w (DocsR X w) := by
  have HX := Lib.hid' h
  have H12 := Lib.hid' h12
  have HQ0 : ∀ e w', Hid (DocsR X w e w') → DocsR X w e w' := fun _ _ h => h.out
  clear h h12
  go_enter Tryz.func8, Tryz.ntmps8
  have H0 : DocI w (w.alloc (.cells #[] 67)) (some ⟨w.heap.size, 0, none⟩) 0 0 [] := ⟨(Sep.start w).newRow 67 37, by simp, by simp, by simp⟩
  go_wp2_with fail
  go_loopw [9, 3] (fun v9 v3 wr => ∃ (k : Nat) (b : Option Addr) (d : Nat) (Y : List MfP), v9 = .int .i64 (k : Nat) ∧ v3 = .slice b k d ∧ k ≤ X.length ∧ Hid (Y.map (·.1) = (X.take k).map (·.1)) ∧ DocI w wr b k d Y) (fun v9 _ _ => X.length - (intOf v9).toNat)
  case atStart => exact ⟨0, _, 0, [], rfl, rfl, Nat.zero_le _, Lib.hid' rfl, H0⟩
  case round =>
    clear H0
    obtain ⟨k, b, d, Y, rfl, rfl, hk, HY, HD⟩ := hrel
    by_cases hlt : k < X.length
    · have hlt' : (k : Int) < (X.length : Int) := by omega
      have HXr := Lib.hid' (HX.out.below (Nat.le_refl _) HD.sep.toBelow)
      obtain ⟨ba, oa, rfl, hba, hra⟩ := MsAt.at HXr.out hlt
      have ex := HXr.out.each _ (List.getElem_mem hlt)
      have ox := HX.out.ok _ (List.getElem_mem hlt)
      have lx := H12.out _ (List.getElem_mem hlt)
      have HYN := Lib.hid' (fun (y : MfP) (hy : y.1 = X[k].1) => show (Y ++ [y]).map (·.1) = (X.take (k + 1)).map (·.1) by
        rw [List.take_succ_eq_append_getElem hlt, List.map_append, List.map_append, HY.out]; simp [hy])
      clear HXr HY
      generalize X[k] = xp at *
      obtain ⟨x, pa, pc⟩ := xp
      replace hra : wr.rangeAt ba (oa + k * 37) (mfV x pa pc) := hra
      have hzm : (Tryz.prog.info? 48).map (·.size) = some (mfV x pa pc).length := by rw [mfV_len ox]; exact mf_size
      have hz2 : zeroMV.length = (mfV x pa pc).length := by rw [mfV_len ox]; rfl
      have hone : (mfV x pa pc).all (·.oneCell') = true := List.all_eq_true.2 mfV_one
      have HDN := Lib.hid' (fun w1 (H : Below wr.heap.size wr w1) => show Calls Tryz.prog 20 #[.agg (mfV x pa pc).toArray] w1 (DocN x w1) from document_new x pa pc w1 ox (ex.below (Nat.le_refl _) H) (by have : x.ps.length ≤ 12 := lx; omega))
      have HZ : Sep wr NoF [.box wr.heap.size zeroMV 48] (wr.alloc (.cells #[.int .i64 0, .int .i64 0, .int .i64 0, .int .i64 0, .int .u8 0, .int .u8 0, .int .u8 0, .int .u8 0, .int .u8 0, .int .u8 0, .int .u8 0, .int .u8 0, .int .u8 0, .int .u8 0, .int .u8 0, .int .u8 0, .int .u8 0, .int .u8 0, .int .u8 0, .int .u8 0, .int .u8 0, .int .u8 0, .int .u8 0, .int .u8 0, .int .u8 0, .int .u8 0, .int .u8 0, .int .u8 0, .int .u8 0, .int .u8 0, .int .u8 0, .int .u8 0, .int .u8 0, .int .u8 0, .int .u8 0, .int .u8 0, .slice none 0 0] 48)) := (Sep.start wr).allocAt wr.heap.size zeroMV 48 rfl
      have HB := HZ.setRow 0 rfl (mfV x pa pc)
      have HOX := Lib.hid' ox
      clear ex ox lx hba
      generalize mfV x pa pc = PX at *
      go_upto_region 5 with (first | (refine wpList_load_at hra rfl 48 (.tmp 11) rfl rfl _ Tryz.underlying48 rfl hzm ?_) | (refine Sep.storeB HZ 0 rfl rfl 48 (.tmp 5) (.tmp 12) rfl PX rfl rfl hzm hz2 hone ?_))
      generalize (wr.alloc (.cells #[.int .i64 0, .int .i64 0, .int .i64 0, .int .i64 0, .int .u8 0, .int .u8 0, .int .u8 0, .int .u8 0, .int .u8 0, .int .u8 0, .int .u8 0, .int .u8 0, .int .u8 0, .int .u8 0, .int .u8 0, .int .u8 0, .int .u8 0, .int .u8 0, .int .u8 0, .int .u8 0, .int .u8 0, .int .u8 0, .int .u8 0, .int .u8 0, .int .u8 0, .int .u8 0, .int .u8 0, .int .u8 0, .int .u8 0, .int .u8 0, .int .u8 0, .int .u8 0, .int .u8 0, .int .u8 0, .int .u8 0, .int .u8 0, .slice none 0 0] 48)).setRow wr.heap.size PX.toArray = w5 at *
      have HD5 := Lib.hid' (HD.sep.below HB.toBelow)
      have hb5 := Lib.hid' HB.toBelow
      have HDN5 := Lib.hid' (HDN.out _ HB.toBelow)
      have HRW := Lib.hid' HD
      clear HD HZ hra hz2 hone HDN
      go_upto_region 6 with (first | (refine Sep.loadB HB 0 rfl rfl 48 (.tmp 5) rfl rfl _ Tryz.underlying48 rfl hzm ?_) | (go_at_call 20; (with_reducible refine HDN5.out.mono ?_); rintro en w6 ⟨na, nc, rfl, hpn, hb6, hnew⟩; have H6 := HD5.out.below hb6; have H7 := H6.allocAt w6.heap.size (mfV x na nc) 67 rfl; have H8 := H7.focus 1 rfl; have HA := Sep.start1 _ (H8.at 0 rfl); have hsv := slv_box (H7.box 0 rfl) 0 (mfV x na nc) 1 (by decide) (fun j u hu => by rw [Nat.zero_add]; exact hu)) | (refine wpList_bs1 etM15 rfl (.tmp 15) rfl (mfV x na nc) rfl (mfV_len HOX.out na nc) (by decide) ?_) | (at_builtin; refine Sep.appendSl etM15 rfl (.tmp 13) (.tmp 16) rfl HA 0 rfl rfl 1 (mfV x na nc) _ rfl hsv (by rw [mfV_len HOX.out]) mfV_one (by omega) ?_; intro a9 c9 w9 HA9))
      have HY9 := Lib.hid' (HYN.out (x, na, nc) rfl)
      have hs5 := hb5.out.size
      have HD9 := DocI.next (x, na, nc) HRW.out (hb5.out.trans (hb6.mono hs5)) ((Below.refl _ _).alloc (Nat.le_refl _) _) hpn HOX.out (fun p n c e => by have h1 := hnew p n c e; exact ⟨by omega, h1.2⟩) H8 HA9
      clear H8 HA9 HA H7 H6 hpn hnew hsv HB HRW HYN hb6
      go_wp2_with fail
      go_roundw
      case rel => exact ⟨k + 1, a9, c9, Y ++ [(x, na, nc)], by go_num, rfl, by omega, HY9, HD9⟩
      case measure => simp [intOf]; omega
    · obtain rfl : k = X.length := by omega
      have HY2 := Lib.hid' (show Y.map (·.1) = X.map (·.1) by rw [HY.out, List.take_length])
      have HYl := Lib.hid' (show Y.length = X.length by have := congrArg List.length HY2.out; simpa using this)
      clear hlt hk HY
      go_wp2_with fail
      go_ret
      refine HQ0 _ _ (Lib.hid' ⟨b, d, Y, rfl, HY2.out, ⟨?_, HD.each, HD.ok⟩, HD.sep.toBelow⟩)
      rw [HYl.out]
      exact SlV.of_own (HD.sep.row 0 rfl)
end Go.Proofs.YtinbcehlpfnlaaaGreatDoor
