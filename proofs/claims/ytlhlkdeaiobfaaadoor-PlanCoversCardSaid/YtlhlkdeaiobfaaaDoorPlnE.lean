/- Law 21 (plan): PlanCovers. -/
import Derived.Test.YtlhlkdeaiobfaaaDoorPlnD
namespace Go.Proofs.YtlhlkdeaiobfaaaDoor
open Go.RowKit
set_option linter.unusedSimpArgs false
set_option linter.unusedVariables false
set_option maxRecDepth 100000

set_option maxHeartbeats 16000000 in
theorem planCovers_any (X : List MfP) (a : Option Addr) (c : Nat) (n : Int) (w : World) (hX : MsAt w a c X) (hL : Laid w) (hn : IR n) :
    Calls Tryd.prog 7 #[.slice a X.length c, .int .i64 n] w fun e w' => e = .returned (.bool true) ∧ Below w.heap.size w w' := by
  have hlen := hX.len
  have HAL := Lib.hid' (alive21_any w hL)
  have HLG := Lib.hid' (fun w1 (H : Below w.heap.size w w1) => long16_any X a c w1 (hX.below (Nat.le_refl _) H))
  have HFD := Lib.hid' (fun ad w1 (H : Below w.heap.size w w1) => cfind_any X a c ad w1 (hX.below (Nat.le_refl _) H))
  have HPL := Lib.hid' (fun (hxl : X.length ≤ 1048576) w1 (H : Below w.heap.size w w1) => plan_any X a c n w1 (hX.below (Nat.le_refl _) H) (hL.below (Nat.le_refl _) H) hxl hn)
  clear hX hL
  go_enter Tryd.func7, Tryd.ntmps7
  go_upto_region 3 with (go_at_call 25; refine HAL.out.mono ?_; rintro e w1 ⟨rfl, hb1⟩)
  have HLG1 := Lib.hid' (HLG.out w1 hb1)
  cases hlg : longM X with
  | true =>
    rw [hlg] at HLG1
    go_wp2_with (go_at_call 9; refine HLG1.out.mono ?_; rintro e w2 ⟨rfl, hb2⟩; have HB2 := Lib.hid' (hb1.trans (hb2.mono hb1.size)))
    go_ret
    exact ⟨rfl, HB2.out⟩
  | false =>
  rw [hlg] at HLG1
  have hx12 := longM_len hlg
  go_upto_region 5 with (go_at_call 9; refine HLG1.out.mono ?_; rintro e w2 ⟨rfl, hb2⟩; have HB2 := Lib.hid' (hb1.trans (hb2.mono hb1.size)))
  clear hb1 hb2 HLG HLG1 HAL
  have HP2 := HPL.out (by omega) w2 HB2.out
  clear HPL
  by_cases hq : (planOf X n).1 = 0
  case neg =>
    have h2 := planOf_err hq
    generalize planOf X n = q at *
    obtain ⟨e1, q2⟩ := q
    simp only at hq h2
    subst h2
    have HP3 : Calls Tryd.prog 26 #[.slice a X.length c, .int .i64 n] w2 (fun en w' => ∃ a c, en = .returned (.tuple #[.agg (plV 0 0 0 a 0 c).toArray, .iface 68 (.int .i64 (e1 : Nat))]) ∧ Below w2.heap.size w2 w') := by
      refine HP2.mono ?_
      rintro en w' ⟨a', c', rfl, _, h⟩
      exact ⟨a', c', by rw [errV_pos hq]; rfl, h⟩
    have HP4 := Lib.hid' HP3
    clear HP2 HP3 hq
    go_upto_region 6 with (first | (go_at_call 26; refine HP4.out.mono ?_; rintro e w3 ⟨ia, ic, rfl, hb3⟩; have H3 : Sep w NoF [.box w3.heap.size plZ 60] (w3.alloc (.cells #[.int .i64 0, .int .i64 0, .int .i64 0, .slice none 0 0] 60)) := ((Sep.nof HB2.out).below hb3).allocAt w3.heap.size plZ 60 rfl) | (refine Sep.storeB H3 0 rfl rfl 60 (.tmp 5) (.tmp 24) rfl (plV 0 0 0 ia 0 ic) rfl rfl pl_size rfl rfl ?_))
    have H4 := H3.setRow 0 rfl (plV 0 0 0 ia 0 ic)
    have z3 := H4.cell 0 rfl 3 (v := .slice ia 0 ic) rfl
    have HB4 := Lib.hid' H4.toBelow
    generalize (w3.alloc (.cells #[.int .i64 0, .int .i64 0, .int .i64 0, .slice none 0 0] 60)).setRow w3.heap.size (plV 0 0 0 ia 0 ic).toArray = w4 at *
    clear H3 H4
    go_wp2
    go_ret
    exact ⟨rfl, HB4.out⟩
  obtain ⟨hgood, hne, g1, g2, he⟩ := planOf_ok hq
  obtain ⟨q0, q1, q2⟩ := plan_begin hgood hne
  have hr := plan_run hgood hne g1 g2
  have hmk := markAt_le X n
  have hmk2 := (markAt_good hgood hne g2 (by omega)).1
  rw [he] at HP2
  have hin := hr.in
  generalize planItems n (markAt X n) X = I at *
  generalize markAt X n = mk at *
  generalize beginM X = bg at *
  generalize (lastM X).1.t = en at *
  have HP3 : Calls Tryd.prog 26 #[.slice a X.length c, .int .i64 n] w2 (fun en w' => ∃ a c, en = .returned (.tuple #[.agg (plV n bg mk a I.length c).toArray, .nilIface]) ∧ SlV w' (.slice a I.length c) I.length (I.flatMap itV) ∧ Below w2.heap.size w2 w') := HP2
  have HP4 := Lib.hid' HP3
  have HR := Lib.hid' hr
  have HIN := Lib.hid' (fun x (hx : x ∈ I) => show 0 ≤ x.a ∧ x.a < x.b ∧ x.b ≤ 1048576 by have := hin x hx; omega)
  clear HP2 HP3 hq he hr hin hgood hne
  go_upto_region 6 with (first | (go_at_call 26; refine HP4.out.mono ?_; rintro e w3 ⟨ia, ic, rfl, hi3, hb3⟩; have H3 : Sep w NoF [.box w3.heap.size plZ 60] (w3.alloc (.cells #[.int .i64 0, .int .i64 0, .int .i64 0, .slice none 0 0] 60)) := ((Sep.nof HB2.out).below hb3).allocAt w3.heap.size plZ 60 rfl) | (refine Sep.storeB H3 0 rfl rfl 60 (.tmp 5) (.tmp 24) rfl (plV n bg mk ia I.length ic) rfl rfl pl_size rfl rfl ?_))
  have H4 := H3.setRow 0 rfl (plV n bg mk ia I.length ic)
  have hi4 : SlV ((w3.alloc (.cells #[.int .i64 0, .int .i64 0, .int .i64 0, .slice none 0 0] 60)).setRow w3.heap.size (plV n bg mk ia I.length ic).toArray) (.slice ia I.length ic) I.length (I.flatMap itV) := hi3.below (Nat.le_refl _) (((Sep.start w3).allocAt w3.heap.size plZ 60 rfl).setRow 0 rfl (plV n bg mk ia I.length ic)).toBelow
  generalize (w3.alloc (.cells #[.int .i64 0, .int .i64 0, .int .i64 0, .slice none 0 0] 60)).setRow w3.heap.size (plV n bg mk ia I.length ic).toArray = w4 at *
  generalize w3.heap.size = N5 at *
  have HI := Lib.hid' hi4
  have hilen : I.length ≤ 9223372036854775807 := by
    obtain ⟨_, _, hee, h1, h2, _⟩ := hi4
    unfold maxLen at h2; omega
  have z1 := H4.cell 0 rfl 1 (v := .int .i64 bg) rfl
  have z2 := H4.cell 0 rfl 2 (v := .int .i64 mk) rfl
  have z3 := H4.cell 0 rfl 3 (v := .slice ia I.length ic) rfl
  have H4' := Lib.hid' H4
  have hbn : (n == max n bg) = true := by rw [beq_iff_eq]; omega
  clear H3 H4 hi3 hi4 hb3 HP4 HB2
  go_wp2_with fail
  go_loopw [40, 7] (fun v40 v7 wr => ∃ (k : Nat) (nx : Int), v40 = .int .i64 k ∧ k ≤ I.length ∧ v7 = .int .i64 nx ∧ Hid (Run (InX X) nx (I.drop k) n) ∧ Hid (Sep w NoF [.box N5 (plV n bg mk ia I.length ic) 60] wr) ∧ Hid (Below w4.heap.size w4 wr)) (fun v40 _ _ => I.length - (intOf v40).toNat)
  case atStart => exact ⟨0, max bg mk, rfl, Nat.zero_le _, rfl, HR, H4', Lib.hid' (Below.refl _ _)⟩
  case round =>
    obtain ⟨k, nx, rfl, hk, rfl, HRn, HS, HW⟩ := hrel
    by_cases hlt : k < I.length
    · obtain ⟨bb, off, rfl, hbb, hrg⟩ := SlV.row (f := itV) (s := 4) (fun _ => rfl) (by decide) (HI.out.below (Nat.le_refl _) HW.out) hlt
      have hb := HIN.out _ (List.getElem_mem hlt)
      have hrun := HRn.out
      rw [List.drop_eq_getElem_cons hlt] at hrun
      obtain ⟨r1, r2, ⟨u, v, r3, r4, r5, r6⟩, r7⟩ := hrun
      have HR7 := Lib.hid' r7
      have HG := Lib.hid' (show wr.rangeAt bb (off + k * 4) (itV I[k]) from hrg)
      clear hrg HRn r7
      generalize I[k] = y at *
      obtain ⟨yn, yi, ya, yb⟩ := y
      simp only at hb r1 r2 r3 r4 r5 r6 HR7
      subst r1 r3 r4
      have HF1 := Lib.hid' (show ∀ wq, Below w.heap.size w wq → Calls Tryd.prog 23 #[.slice a X.length c, .int .i64 ya] wq fun e w' => e = .returned (.tuple #[.int .i64 (u : Nat), .int .i64 (v : Nat), .bool true]) ∧ Below wq.heap.size wq w' from fun wq H => by have := HFD.out ya wq H; rw [r5] at this; exact this)
      have HF2 := Lib.hid' (show ∀ wq, Below w.heap.size w wq → Calls Tryd.prog 23 #[.slice a X.length c, .int .i64 (yb - 1)] wq fun e w' => e = .returned (.tuple #[.int .i64 (u : Nat), .int .i64 (v : Nat), .bool true]) ∧ Below wq.heap.size wq w' from fun wq H => by have := HFD.out (yb - 1) wq H; rw [r6] at this; exact this)
      have hiz : (Tryd.prog.info? 65).map (·.size) = some (itV ⟨u, v, ya, yb⟩).length := it_size
      have hi1 : (itV ⟨u, v, ya, yb⟩).all (·.oneCell') = true := rfl
      have HZ : Sep w NoF [.box wr.heap.size [.int .i64 0, .int .i64 0, .int .i64 0, .int .i64 0] 65, .box N5 (plV n bg mk (some ⟨bb, off, none⟩) I.length ic) 60] (wr.alloc (.cells #[.int .i64 0, .int .i64 0, .int .i64 0, .int .i64 0] 65)) := HS.out.allocAt wr.heap.size [.int .i64 0, .int .i64 0, .int .i64 0, .int .i64 0] 65 rfl
      have HY := HZ.setRow 0 rfl (itV ⟨u, v, ya, yb⟩)
      have HWY := Lib.hid' (HW.out.trans ((((Sep.start wr).allocAt wr.heap.size [.int .i64 0, .int .i64 0, .int .i64 0, .int .i64 0] 65 rfl).setRow 0 rfl (itV ⟨u, v, ya, yb⟩)).toBelow.mono HW.out.size))
      go_upto_region 12 with (first | (refine wpList_load_at HG.out rfl 65 (.tmp 42) rfl rfl _ Tryd.underlying65 rfl hiz ?_) | (refine Sep.storeB HZ 0 rfl rfl 65 (.tmp 9) (.tmp 43) rfl (itV ⟨u, v, ya, yb⟩) rfl rfl hiz rfl hi1 ?_))
      have HWZ : Hid (Below w4.heap.size w4 ((wr.alloc (.cells #[.int .i64 0, .int .i64 0, .int .i64 0, .int .i64 0] 65)).setRow wr.heap.size (itV ⟨u, v, ya, yb⟩).toArray)) := HWY
      clear HWY
      generalize ((wr.alloc (.cells #[.int .i64 0, .int .i64 0, .int .i64 0, .int .i64 0] 65)).setRow wr.heap.size (itV ⟨u, v, ya, yb⟩).toArray) = w6 at *
      generalize wr.heap.size = M at *
      have y2 := HY.cell 0 rfl 2 (v := .int .i64 ya) rfl
      have HF1' := Lib.hid' (HF1.out w6 HY.toBelow)
      clear HZ HG HF1 HS HW
      go_upto_region 13 with (go_at_call 23; refine HF1'.out.mono ?_; rintro e w7 ⟨rfl, hb7⟩; have H7 := HY.below hb7)
      have HW7 := Lib.hid' (HWZ.out.trans (hb7.mono HWZ.out.size))
      have y3 := H7.cell 0 rfl 3 (v := .int .i64 yb) rfl
      have HF2' := Lib.hid' (HF2.out w7 H7.toBelow)
      clear y2 HF1' HY hb7 HF2 HWZ
      go_upto_region 14 with (go_at_call 23; refine HF2'.out.mono ?_; rintro e w8 ⟨rfl, hb8⟩; have H8 := H7.below hb8)
      have HW8 := Lib.hid' (HW7.out.trans (hb8.mono HW7.out.size))
      clear HF2' H7 hb8 HW7 y3
      have y0 := H8.cell 0 rfl 0 (v := .int .i64 (u : Nat)) rfl
      have y1 := H8.cell 0 rfl 1 (v := .int .i64 (v : Nat)) rfl
      have y2 := H8.cell 0 rfl 2 (v := .int .i64 ya) rfl
      have y3 := H8.cell 0 rfl 3 (v := .int .i64 yb) rfl
      have H9 := Lib.hid' (H8.drop 0)
      clear H8
      have t1 : ¬ yb ≤ ya := by omega
      have t2 : decide (yb ≤ ya) = false := decide_eq_false t1
      go_wp2_with fail
      go_roundw
      case rel => exact ⟨k + 1, yb, by go_num, by omega, rfl, HR7, H9, HW8⟩
      case measure => simp [intOf]; omega
    · obtain rfl : k = I.length := by omega
      have hrun := HRn.out
      rw [List.drop_length] at hrun
      have hnx : nx = n := hrun
      subst hnx
      have HF := HS.out
      have x0 := HF.cell 0 rfl 0 (v := .int .i64 nx) rfl
      have x1 := HF.cell 0 rfl 1 (v := .int .i64 bg) rfl
      have x2 := HF.cell 0 rfl 2 (v := .int .i64 mk) rfl
      have HB := Lib.hid' HF.toBelow
      clear HF hrun HRn
      go_wp2
      go_ret
      exact ⟨ret_eq (by first | rfl | simp [hmk]), HB.out⟩

end Go.Proofs.YtlhlkdeaiobfaaaDoor
