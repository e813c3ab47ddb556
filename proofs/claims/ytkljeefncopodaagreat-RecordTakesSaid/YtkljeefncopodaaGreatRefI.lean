/- Layer 5, the document's: a cell of a reader. -/
import Derived.Test.YtkljeefncopodaaGreatRefK
import Derived.Test.YtkljeefncopodaaGreatRecN
import Derived.Test.YtkljeefncopodaaGreatRefU
import Derived.Deep.DeepCutAuto
import Derived.Deep.CutBlock
namespace Go.Proofs.YtkljeefncopodaaGreat
open Go.RowKit
set_option linter.unusedSimpArgs false
set_option linter.unusedVariables false
set_option maxRecDepth 100000

theorem cell_eq5 {r s s2 : RD} {k : Nat} {d : List UInt8} (h1 : r.within 3 = (k, s)) (h2 : (if k = 1 then s.text 64 else ([], s)) = (d, s2)) : r.cell = if s2.bad ≠ 0 then (⟨0, []⟩, s2) else (⟨(k : Nat), d⟩, s2) := by
  unfold RD.cell
  rw [h1]
  simp only
  rw [h2]
theorem text_le5 (r : RD) (m : Nat) : (r.text m).1.length ≤ m := by
  unfold RD.text RD.fixed
  have := count_le r m
  split
  · simp
  · split
    · simp
    · simp only [List.length_take]; omega
def RCTakeR (p : C × RD) (w0 w : World) (e : Ending) (w' : World) : Prop :=
  ∃ a c, e = .returned (.tuple #[rcellV p.1, rdV p.2 a c]) ∧ Bytes w0 (.slice a p.2.rest.length c) p.2.rest ∧ Below w.heap.size w w'
set_option maxHeartbeats 8000000 in
theorem rctake_any (r : RD) (a : Option Addr) (c : Nat) (w0 w : World) (h : Bytes w0 (.slice a r.rest.length c) r.rest) (hb0 : Below w0.heap.size w0 w) :
    Calls Tryz.prog 59 #[rdV r a c] w (RCTakeR r.cell w0 w) := by
  have HD := Lib.hid' h
  have HB0 := Lib.hid' hb0
  have hbl := bytes_len h
  clear h hb0
  obtain ⟨p, hp⟩ : ∃ p, p = r.cell := ⟨_, rfl⟩
  have HP := Lib.hid' hp
  rw [← hp]
  clear hp
  have HV := Lib.hid' (show rdV r a c = .agg #[.slice a r.rest.length c, .int .i64 (r.bad : Nat)] from rfl)
  rw [HV.out]
  go_enter Tryz.func59, Tryz.ntmps59
  go_wp2_with fail
  have H0 : Sep w NoF [] w := Sep.start _
  have H1 : Sep w NoF [.box (w.heap.size + 2) [.slice none 0 0, .int .i64 0] 95, .box (w.heap.size + 1) [.int .i64 0, .string ⟨#[]⟩] 122, .box (w.heap.size) [.slice a r.rest.length c, .int .i64 (r.bad : Nat)] 95] ((((w.alloc (.cells #[.slice a r.rest.length c, .int .i64 (r.bad : Nat)] 95)).alloc (.cells #[.int .i64 0, .string ⟨#[]⟩] 122)).alloc (.cells #[.slice none 0 0, .int .i64 0] 95))) := (((H0.allocAt (w.heap.size) [.slice a r.rest.length c, .int .i64 (r.bad : Nat)] 95 (by simp)).allocAt (w.heap.size + 1) [.int .i64 0, .string ⟨#[]⟩] 122 (by simp)).allocAt (w.heap.size + 2) [.slice none 0 0, .int .i64 0] 95 (by simp))
  clear H0
  generalize (((w.alloc (.cells #[.slice a r.rest.length c, .int .i64 (r.bad : Nat)] 95)).alloc (.cells #[.int .i64 0, .string ⟨#[]⟩] 122)).alloc (.cells #[.slice none 0 0, .int .i64 0] 95)) = w1 at *
  have hwi := rwithin01_any r a c 3 (by decide) w0 w1 HD.out (HB0.out.trans (H1.toBelow.mono HB0.out.size))
  unfold RInt01R at hwi
  obtain ⟨k, hv⟩ : ∃ v, v = (r.within 3).1 := ⟨_, rfl⟩
  obtain ⟨s, hs⟩ : ∃ s, s = (r.within 3).2 := ⟨_, rfl⟩
  have HK := Lib.hid' (show r.within 3 = (k, s) by rw [hv, hs])
  rw [← hv, ← hs] at hwi
  clear hv hs
  refine hwi.mono ?_
  clear hwi
  rintro en w2 ⟨a2, c2, rfl, hy, hb⟩
  have HY := Lib.hid' hy
  clear hy
  have H2 : Sep w NoF [.box (w.heap.size + 2) [.slice none 0 0, .int .i64 0] 95, .box (w.heap.size + 1) [.int .i64 0, .string ⟨#[]⟩] 122, .box (w.heap.size) [.slice a r.rest.length c, .int .i64 (r.bad : Nat)] 95] (w2) := (H1.below hb)
  clear H1 hb
  unfold rdV
  have Rc0 := H2.cell 2 rfl 0 rfl
  have Rc1 := H2.cell 2 rfl 1 rfl
  have Rf0 := H2.free 2 rfl 0
  have Rf1 := H2.free 2 rfl 1
  have Rl := H2.lt 2 rfl
  go_upto_region 3 with fail
  have hlw2 : w.heap.size ≤ w2.heap.size := Nat.le_of_lt Rl
  have H3 : Sep w NoF [.box (w.heap.size) [.slice a2 s.rest.length c2, .int .i64 (s.bad : Nat)] 95, .box (w2.heap.size) [.int .i64 (k : Int), .string ⟨#[]⟩] 122, .box (w.heap.size + 1) [.int .i64 0, .string ⟨#[]⟩] 122, .box (w.heap.size + 2) [.slice none 0 0, .int .i64 0] 95] ((((w2.setCell ⟨w.heap.size, 0, none⟩ (.slice a2 s.rest.length c2)).setCell ⟨w.heap.size, 1, none⟩ (.int .i64 (s.bad : Nat))).alloc (.cells #[.int .i64 (k : Int), .string ⟨#[]⟩] 122))) := (((((((H2.set 2 rfl 0 (.slice a2 s.rest.length c2)).set 0 rfl 1 (.int .i64 (s.bad : Nat))).allocAt (w2.heap.size) [.int .i64 (k : Int), .string ⟨#[]⟩] 122 (by simp)).focus 2 rfl).focus 3 rfl).focus 2 rfl).focus 3 rfl)
  clear Rc0 Rc1 Rf0 Rf1 Rl
  clear H2
  generalize (((w2.setCell ⟨w.heap.size, 0, none⟩ (.slice a2 s.rest.length c2)).setCell ⟨w.heap.size, 1, none⟩ (.int .i64 (s.bad : Nat))).alloc (.cells #[.int .i64 (k : Int), .string ⟨#[]⟩] 122)) = w3 at *
  generalize w2.heap.size = qC at *
  have Rc0 := H3.cell 0 rfl 0 rfl
  have Rc1 := H3.cell 0 rfl 1 rfl
  have Rf0 := H3.free 0 rfl 0
  have Rf1 := H3.free 0 rfl 1
  have Rl := H3.lt 0 rfl
  have Cc0 := H3.cell 1 rfl 0 rfl
  have Cc1 := H3.cell 1 rfl 1 rfl
  have Cf0 := H3.free 1 rfl 0
  have Cf1 := H3.free 1 rfl 1
  have Cl := H3.lt 1 rfl
  have RnC := H3.ne 0 1 rfl rfl (by decide)
  have CnR := H3.ne 1 0 rfl rfl (by decide)
  go_upto_if 16 with fail
  go_cut [] (fun wc => ∃ (d : List UInt8) (s5 : RD) (a7 : Option Addr) (c7 : Nat), Hid ((if k = 1 then s.text 64 else ([], s)) = (d, s5)) ∧ d.length ≤ 64 ∧ Hid (Bytes w0 (.slice a7 s5.rest.length c7) s5.rest) ∧ Sep w NoF [.box w.heap.size [.slice a7 s5.rest.length c7, .int .i64 (s5.bad : Nat)] 95, .box qC [.int .i64 (k : Int), .string (strOf d)] 122, .box (w.heap.size + 1) [.int .i64 0, .string ⟨#[]⟩] 122, .box (w.heap.size + 2) [.slice none 0 0, .int .i64 0] 95] wc)
  case first =>
    by_cases hk2 : k = 1
    · skip
      have hk3 : ((k : Int) == 1) = true := by rw [beq_iff_eq]; omega
      have HK2 := Lib.hid' hk2
      clear hk2
      go_wp2_with fail
      clear Rc0 Rc1 Rf0 Rf1 Rl Cc0 Cc1 Cf0 Cf1 Cl RnC CnR
      have htx := rtext01_any s a2 c2 64 (by decide) w0 w3 HY.out (HB0.out.trans (H3.toBelow.mono HB0.out.size))
      unfold RByt01R at htx
      have htle := text_le5 s 64
      obtain ⟨x, hx⟩ : ∃ x, x = s.text 64 := ⟨_, rfl⟩
      rw [← hx] at htx htle
      have HK5 := Lib.hid' hx.symm
      clear hx
      obtain ⟨d, s5⟩ := x
      simp only at htx htle
      refine htx.mono ?_
      clear htx
      rintro en w11 ⟨ta, tc, a7, c7, rfl, ht, hy, hb⟩
      have HT := Lib.hid' ht
      have HY5 := Lib.hid' hy
      clear ht hy
      unfold rdV
      have H4 : Sep w NoF [.box (w.heap.size) [.slice a2 s.rest.length c2, .int .i64 (s.bad : Nat)] 95, .box (qC) [.int .i64 (k : Int), .string ⟨#[]⟩] 122, .box (w.heap.size + 1) [.int .i64 0, .string ⟨#[]⟩] 122, .box (w.heap.size + 2) [.slice none 0 0, .int .i64 0] 95] (w11) := (H3.below hb)
      clear H3 hb
      have Rc0 := H4.cell 0 rfl 0 rfl
      have Rc1 := H4.cell 0 rfl 1 rfl
      have Rf0 := H4.free 0 rfl 0
      have Rf1 := H4.free 0 rfl 1
      have Rl := H4.lt 0 rfl
      have Cc0 := H4.cell 1 rfl 0 rfl
      have Cc1 := H4.cell 1 rfl 1 rfl
      have Cf0 := H4.free 1 rfl 0
      have Cf1 := H4.free 1 rfl 1
      have Cl := H4.lt 1 rfl
      have RnC := H4.ne 0 1 rfl rfl (by decide)
      have CnR := H4.ne 1 0 rfl rfl (by decide)
      go_upto_region 6 with fail
      have H5 : Sep w NoF [.box (w.heap.size) [.slice a7 s5.rest.length c7, .int .i64 (s5.bad : Nat)] 95, .box (qC) [.int .i64 (k : Int), .string ⟨#[]⟩] 122, .box (w.heap.size + 1) [.int .i64 0, .string ⟨#[]⟩] 122, .box (w.heap.size + 2) [.slice none 0 0, .int .i64 0] 95] ((((w11.setCell ⟨w.heap.size, 0, none⟩ (.slice a7 s5.rest.length c7)).setCell ⟨w.heap.size, 1, none⟩ (.int .i64 (s5.bad : Nat))).alloc (.cells #[.slice a7 s5.rest.length c7, .int .i64 (s5.bad : Nat)] 95))) := (((H4.set 0 rfl 0 (.slice a7 s5.rest.length c7)).set 0 rfl 1 (.int .i64 (s5.bad : Nat))).allocX (.cells #[.slice a7 s5.rest.length c7, .int .i64 (s5.bad : Nat)] 95))
      clear Rc0 Rc1 Rf0 Rf1 Rl Cc0 Cc1 Cf0 Cf1 Cl RnC CnR
      clear H4
      generalize (((w11.setCell ⟨w.heap.size, 0, none⟩ (.slice a7 s5.rest.length c7)).setCell ⟨w.heap.size, 1, none⟩ (.int .i64 (s5.bad : Nat))).alloc (.cells #[.slice a7 s5.rest.length c7, .int .i64 (s5.bad : Nat)] 95)) = w12 at *
      have Rc0 := H5.cell 0 rfl 0 rfl
      have Rc1 := H5.cell 0 rfl 1 rfl
      have Rf0 := H5.free 0 rfl 0
      have Rf1 := H5.free 0 rfl 1
      have Rl := H5.lt 0 rfl
      have Cc0 := H5.cell 1 rfl 0 rfl
      have Cc1 := H5.cell 1 rfl 1 rfl
      have Cf0 := H5.free 1 rfl 0
      have Cf1 := H5.free 1 rfl 1
      have Cl := H5.lt 1 rfl
      have RnC := H5.ne 0 1 rfl rfl (by decide)
      have CnR := H5.ne 1 0 rfl rfl (by decide)
      have hcs := run_string_of (P := Tryz.prog) 22 5 9 Tryz.underlying22 Tryz.underlying5 Tryz.underlying9 (show Bytes w12 (.slice ta d.length tc) d from SlV.below HT.out (Nat.le_refl _) (HB0.out.trans (H5.toBelow.mono HB0.out.size)))
      go_wp2_with fail
      clear hcs
      have H6 : Sep w NoF [.box (w.heap.size) [.slice a7 s5.rest.length c7, .int .i64 (s5.bad : Nat)] 95, .box (qC) [.int .i64 (k : Int), .string (strOf d)] 122, .box (w.heap.size + 1) [.int .i64 0, .string ⟨#[]⟩] 122, .box (w.heap.size + 2) [.slice none 0 0, .int .i64 0] 95] ((w12.setCell ⟨qC, 1, none⟩ (.string (strOf d)))) := (((((H5.set 1 rfl 1 (.string (strOf d))).focus 3 rfl).focus 3 rfl).focus 2 rfl).focus 3 rfl)
      clear Rc0 Rc1 Rf0 Rf1 Rl Cc0 Cc1 Cf0 Cf1 Cl RnC CnR
      clear H5
      go_meet
      exact ⟨d, s5, a7, c7, Lib.hid' (by rw [if_pos HK2.out]; exact HK5.out), htle, HY5, H6⟩
    have hk3 : ((k : Int) == 1) = false := by rw [beq_eq_false_iff_ne]; omega
    have HX5 := Lib.hid' (show (if k = 1 then s.text 64 else ([], s)) = ([], s) from if_neg hk2)
    clear hk2
    go_wp2_with fail
    go_meet
    exact ⟨[], s, a2, c2, HX5, by simp, HY, H3⟩
  case rest =>
  clear Rc0 Rc1 Rf0 Rf1 Rl Cc0 Cc1 Cf0 Cf1 Cl RnC CnR
  obtain ⟨d, s5, a7, c7, HX, hdl, HY5, H9⟩ := hcut
  clear H3 HY
  obtain ⟨w9, hw9⟩ : ∃ w9, w9 = wc := ⟨_, rfl⟩
  rw [← hw9] at H9 ⊢
  clear hw9
  have HPE := Lib.hid' (show p = if s5.bad ≠ 0 then (⟨0, []⟩, s5) else (⟨(k : Nat), d⟩, s5) from by rw [HP.out]; exact cell_eq5 HK.out HX.out)
  have HB9 := Lib.hid' H9.toBelow
  have Rc0 := H9.cell 0 rfl 0 rfl
  have Rc1 := H9.cell 0 rfl 1 rfl
  have Rl := H9.lt 0 rfl
  have Cc0 := H9.cell 1 rfl 0 rfl
  have Cc1 := H9.cell 1 rfl 1 rfl
  have Cl := H9.lt 1 rfl
  have Z1c0 := H9.cell 2 rfl 0 rfl
  have Z1c1 := H9.cell 2 rfl 1 rfl
  have Z1f0 := H9.free 2 rfl 0
  have Z1f1 := H9.free 2 rfl 1
  have Z1l := H9.lt 2 rfl
  have Z2c0 := H9.cell 3 rfl 0 rfl
  have Z2c1 := H9.cell 3 rfl 1 rfl
  have Z2f0 := H9.free 3 rfl 0
  have Z2f1 := H9.free 3 rfl 1
  have Z2l := H9.lt 3 rfl
  have RnZ1 := H9.ne 0 2 rfl rfl (by decide)
  have RnZ2 := H9.ne 0 3 rfl rfl (by decide)
  have CnZ1 := H9.ne 1 2 rfl rfl (by decide)
  have CnZ2 := H9.ne 1 3 rfl rfl (by decide)
  have Z1nR := H9.ne 2 0 rfl rfl (by decide)
  have Z1nC := H9.ne 2 1 rfl rfl (by decide)
  have Z1nZ2 := H9.ne 2 3 rfl rfl (by decide)
  have Z2nR := H9.ne 3 0 rfl rfl (by decide)
  have Z2nC := H9.ne 3 1 rfl rfl (by decide)
  have Z2nZ1 := H9.ne 3 2 rfl rfl (by decide)
  by_cases hb0 : s5.bad = 0
  · skip
    have hbb : ((s5.bad : Int) != 0) = false := by rw [bne_eq_false_iff_eq]; omega
    have HRET := Lib.hid' (show ∀ wq, Below w.heap.size w wq → RCTakeR p w0 w (.returned (.tuple #[.agg #[.int .i64 (k : Int), .string (strOf d)], .agg #[.slice a7 s5.rest.length c7, .int .i64 (s5.bad : Nat)]])) wq from fun wq hq => by
      rw [HPE.out.trans (if_neg (by simpa using hb0))]; exact ⟨a7, c7, rfl, HY5.out, hq⟩)
    clear hb0
    go_wp2_with fail
    go_region
    all_goals
      go_wp2
      refine bodyPost_ret (v := .tuple #[.agg #[.int .i64 (k : Int), .string (strOf d)], .agg #[.slice a7 s5.rest.length c7, .int .i64 (s5.bad : Nat)]]) (by simp [results, Tryz.results59, go_sem, Rc0, Rc1, Cc0, Cc1, Z1c0, Z1c1, Z2c0, Z2c1, Z1nZ2, Z2nZ1]) rfl ?_
      first
        | exact HRET.out _ ((((HB9.out.setCell (by simp <;> omega) _).setCell (by simp <;> omega) _).setCell (by simp <;> omega) _).setCell (by simp <;> omega) _)
        | exact HRET.out _ ((((HB9.out.drew.setCell (by simp <;> omega) _).setCell (by simp <;> omega) _).setCell (by simp <;> omega) _).setCell (by simp <;> omega) _)
  · skip
    have hbb : ((s5.bad : Int) != 0) = true := by rw [bne_iff_ne]; omega
    have HRET := Lib.hid' (show ∀ wq, Below w.heap.size w wq → RCTakeR p w0 w (.returned (.tuple #[.agg #[.int .i64 0, .string ⟨#[]⟩], .agg #[.slice a7 s5.rest.length c7, .int .i64 (s5.bad : Nat)]])) wq from fun wq hq => by
      rw [HPE.out.trans (if_pos hb0)]; exact ⟨a7, c7, rfl, HY5.out, hq⟩)
    clear hb0
    go_wp2_with fail
    go_region
    all_goals
      go_wp2
      refine bodyPost_ret (v := .tuple #[.agg #[.int .i64 0, .string ⟨#[]⟩], .agg #[.slice a7 s5.rest.length c7, .int .i64 (s5.bad : Nat)]]) (by simp [results, Tryz.results59, go_sem, Rc0, Rc1, Cc0, Cc1, Z1c0, Z1c1, Z2c0, Z2c1, Z1nZ2, Z2nZ1]) rfl ?_
      first
        | exact HRET.out _ ((((HB9.out.setCell (by simp <;> omega) _).setCell (by simp <;> omega) _).setCell (by simp <;> omega) _).setCell (by simp <;> omega) _)
        | exact HRET.out _ ((((HB9.out.drew.setCell (by simp <;> omega) _).setCell (by simp <;> omega) _).setCell (by simp <;> omega) _).setCell (by simp <;> omega) _)
end Go.Proofs.YtkljeefncopodaaGreat
