/- Proved here: a part of the proof (29 of 34). -/
import Derived.Test.YtddlkkmdcfamiaaGreatDoorA28
import Derived.Test.YtddlkkmdcfamiaaGreatDoorA12
import Derived.Test.YtddlkkmdcfamiaaGreatDoorA11
import Derived.Deep.DeepCutAuto
import Derived.Deep.CutBlock
set_option linter.unusedSimpArgs false
set_option linter.unusedVariables false
set_option maxRecDepth 100000
namespace Go.Proofs.YtddlkkmdcfamiaaGreatDoor
open Go.RowKit

theorem cell_eq5 {r s s2 : RD} {k : Nat} {d : List UInt8} (h1 : r.within 3 = (k, s)) (h2 : (if k = 1 then s.text 64 else ([], s)) = (d, s2)) : r.cell = if s2.bad ≠ 0 then (⟨0, []⟩, s2) else (⟨(k : Nat), d⟩, s2) := by
 unfold RD.cell
 rw [h1]
 simp only
 rw [h2]
theorem text_le5 (r : RD) (m : Nat) : (r.text m).1.length ≤ m := by
 unfold RD.text RD.fixed
 have := count_le r m
 split
 ·simp
 ·split
  ·simp
  ·simp only [List.length_take]; omega
def RCTakeR (p : C × RD) (w0 w : World) (e : Ending) (w' : World) : Prop :=
 ∃ a c, e = .returned (.tuple #[rcellV p.1, rdV p.2 a c]) ∧ Bytes w0 (.slice a p.2.rest.length c) p.2.rest ∧ Below w.heap.size w w'
set_option maxHeartbeats 8000000 in
theorem rctake_any (r : RD) (a : Option Addr) (c : Nat) (w0 w : World) (h : Bytes w0 (.slice a r.rest.length c) r.rest) (hb0 : Below w0.heap.size w0 w) :
  Calls Tryz.prog 60 #[rdV r a c] w (RCTakeR r.cell w0 w) := by
 have HD := Lib.hid' h
 have HB0 := Lib.hid' hb0
 have hbl := bytes_len h
 clear h hb0
 obtain ⟨p, hp⟩ : ∃ p, p = r.cell := ⟨_, rfl⟩
 have HP := Lib.hid' hp
 rw [← hp]
 clear hp
 have HV := Zh (show rdV r a c = .agg #[.slice a r.rest.length c, .int .i64 (r.bad : Nat)] from rfl)
 rw [HV.out]
 go_enter Tryz.func60, Tryz.ntmps60
 go_wp2_with fail
 have H0 : Sep w NoF [] w := Sep.start _
 have H1 : Sep w NoF [.box (w.heap.size + 2) [.slice none 0 0, .int .i64 0] 122, .box (w.heap.size + 1) [.int .i64 0, .string ⟨#[]⟩] 43, .box (w.heap.size) [.slice a r.rest.length c, .int .i64 (r.bad : Nat)] 122] ((((w.alloc (.cells #[.slice a r.rest.length c, .int .i64 (r.bad : Nat)] 122)).alloc (.cells #[.int .i64 0, .string ⟨#[]⟩] 43)).alloc (.cells #[.slice none 0 0, .int .i64 0] 122))) := (((H0.allocAt (w.heap.size) [.slice a r.rest.length c, .int .i64 (r.bad : Nat)] 122 (by simp)).allocAt (w.heap.size + 1) [.int .i64 0, .string ⟨#[]⟩] 43 (by simp)).allocAt (w.heap.size + 2) [.slice none 0 0, .int .i64 0] 122 (by simp))
 clear H0
 generalize (((w.alloc (.cells #[.slice a r.rest.length c, .int .i64 (r.bad : Nat)] 122)).alloc (.cells #[.int .i64 0, .string ⟨#[]⟩] 43)).alloc (.cells #[.slice none 0 0, .int .i64 0] 122)) = w1 at *
 have hwi := rwithin01_any r a c 3 (by decide) w0 w1 HD.out (HB0.out.trans (H1.toBelow.mono HB0.out.size))
 unfold RInt01R at hwi
 obtain ⟨k, hv⟩ : ∃ v, v = (r.within 3).1 := ⟨_, rfl⟩
 obtain ⟨s, hs⟩ : ∃ s, s = (r.within 3).2 := ⟨_, rfl⟩
 have HK := Zh (show r.within 3 = (k, s) by rw [hv, hs])
 rw [← hv, ← hs] at hwi
 clear hv hs
 refine hwi.mono ?_
 clear hwi
 rintro en w2 ⟨a2, c2, rfl, hy, hb⟩
 have HY := Lib.hid' hy
 clear hy
 have H2 : Sep w NoF [.box (w.heap.size + 2) [.slice none 0 0, .int .i64 0] 122, .box (w.heap.size + 1) [.int .i64 0, .string ⟨#[]⟩] 43, .box (w.heap.size) [.slice a r.rest.length c, .int .i64 (r.bad : Nat)] 122] (w2) := (H1.below hb)
 clear H1 hb
 unfold rdV
 have Rc0 := H2.cell 2 rfl 0 rfl
 have Rc1 := H2.cell 2 rfl 1 rfl
 have Rf0 := H2.free 2 rfl 0
 have Rf1 := H2.free 2 rfl 1
 have Rl := H2.lt 2 rfl
 go_upto_region 3 with fail
 have hlw2 : w.heap.size ≤ w2.heap.size := Nat.le_of_lt Rl
 have H3 : Sep w NoF [.box (w.heap.size) [.slice a2 s.rest.length c2, .int .i64 (s.bad : Nat)] 122, .box (w2.heap.size) [.int .i64 (k : Int), .string ⟨#[]⟩] 43, .box (w.heap.size + 1) [.int .i64 0, .string ⟨#[]⟩] 43, .box (w.heap.size + 2) [.slice none 0 0, .int .i64 0] 122] ((((w2.setCell ⟨w.heap.size, 0, none⟩ (.slice a2 s.rest.length c2)).setCell ⟨w.heap.size, 1, none⟩ (.int .i64 (s.bad : Nat))).alloc (.cells #[.int .i64 (k : Int), .string ⟨#[]⟩] 43))) := (((((((H2.set 2 rfl 0 (.slice a2 s.rest.length c2)).set 0 rfl 1 (.int .i64 (s.bad : Nat))).allocAt (w2.heap.size) [.int .i64 (k : Int), .string ⟨#[]⟩] 43 (by simp)).focus 2 rfl).focus 3 rfl).focus 2 rfl).focus 3 rfl)
 clear Rc0 Rc1 Rf0 Rf1 Rl
 clear H2
 generalize (((w2.setCell ⟨w.heap.size, 0, none⟩ (.slice a2 s.rest.length c2)).setCell ⟨w.heap.size, 1, none⟩ (.int .i64 (s.bad : Nat))).alloc (.cells #[.int .i64 (k : Int), .string ⟨#[]⟩] 43)) = w3 at *
 generalize w2.heap.size = qC at *
 have Rc0 := H3.cell 0 rfl 0 rfl
 have Rc1 := H3.cell 0 rfl 1 rfl
 have Rf0 := H3.free 0 rfl 0
 have Rf1 := H3.free 0 rfl 1
 have Rl := H3.lt 0 rfl
 have Cc0 := H3.cell 1 rfl 0 rfl
 have Cc1 := H3.cell 1 rfl 1 rfl
 have Cf0 := H3.free 1 rfl 0
 have Cf1 := H3.free 1 rfl 1
 have Cl := H3.lt 1 rfl
 have RnC := H3.ne 0 1 rfl rfl (by decide)
 have CnR := H3.ne 1 0 rfl rfl (by decide)
 go_upto_if 16 with fail
 go_cut [] (fun wc => ∃ (d : List UInt8) (s5 : RD) (a7 : Option Addr) (c7 : Nat), Hid ((if k = 1 then s.text 64 else ([], s)) = (d, s5)) ∧ d.length ≤ 64 ∧ Hid (Bytes w0 (.slice a7 s5.rest.length c7) s5.rest) ∧ Sep w NoF [.box w.heap.size [.slice a7 s5.rest.length c7, .int .i64 (s5.bad : Nat)] 122, .box qC [.int .i64 (k : Int), .string (strOf d)] 43, .box (w.heap.size + 1) [.int .i64 0, .string ⟨#[]⟩] 43, .box (w.heap.size + 2) [.slice none 0 0, .int .i64 0] 122] wc)
 case first =>
  by_cases hk2 : k = 1
  ·skip
   have hk3 : ((k : Int) == 1) = true := by rw [beq_iff_eq]; omega
   have HK2 := Lib.hid' hk2
   clear hk2
   go_wp2_with fail
   clear Rc0 Rc1 Rf0 Rf1 Rl Cc0 Cc1 Cf0 Cf1 Cl RnC CnR
   have htx := rtext01_any s a2 c2 64 (by decide) w0 w3 HY.out (HB0.out.trans (H3.toBelow.mono HB0.out.size))
   unfold RByt01R at htx
   have htle := text_le5 s 64
   obtain ⟨x, hx⟩ : ∃ x, x = s.text 64 := ⟨_, rfl⟩
   rw [← hx] at htx htle
   have HK5 := Lib.hid' hx.symm
   clear hx
   obtain ⟨d, s5⟩ := x
   simp only at htx htle
   refine htx.mono ?_
   clear htx
   rintro en w11 ⟨ta, tc, a7, c7, rfl, ht, hy, hb⟩
   have HT := Lib.hid' ht
   have HY5 := Lib.hid' hy
   clear ht hy
   unfold rdV
   have H4 : Sep w NoF [.box (w.heap.size) [.slice a2 s.rest.length c2, .int .i64 (s.bad : Nat)] 122, .box (qC) [.int .i64 (k : Int), .string ⟨#[]⟩] 43, .box (w.heap.size + 1) [.int .i64 0, .string ⟨#[]⟩] 43, .box (w.heap.size + 2) [.slice none 0 0, .int .i64 0] 122] (w11) := (H3.below hb)
   clear H3 hb
   have Rc0 := H4.cell 0 rfl 0 rfl
   have Rc1 := H4.cell 0 rfl 1 rfl
   have Rf0 := H4.free 0 rfl 0
   have Rf1 := H4.free 0 rfl 1
   have Rl := H4.lt 0 rfl
   have Cc0 := H4.cell 1 rfl 0 rfl
   have Cc1 := H4.cell 1 rfl 1 rfl
   have Cf0 := H4.free 1 rfl 0
   have Cf1 := H4.free 1 rfl 1
   have Cl := H4.lt 1 rfl
   have RnC := H4.ne 0 1 rfl rfl (by decide)
   have CnR := H4.ne 1 0 rfl rfl (by decide)
   go_upto_region 6 with fail
   have H5 : Sep w NoF [.box (w.heap.size) [.slice a7 s5.rest.length c7, .int .i64 (s5.bad : Nat)] 122, .box (qC) [.int .i64 (k : Int), .string ⟨#[]⟩] 43, .box (w.heap.size + 1) [.int .i64 0, .string ⟨#[]⟩] 43, .box (w.heap.size + 2) [.slice none 0 0, .int .i64 0] 122] ((((w11.setCell ⟨w.heap.size, 0, none⟩ (.slice a7 s5.rest.length c7)).setCell ⟨w.heap.size, 1, none⟩ (.int .i64 (s5.bad : Nat))).alloc (.cells #[.slice a7 s5.rest.length c7, .int .i64 (s5.bad : Nat)] 122))) := (((H4.set 0 rfl 0 (.slice a7 s5.rest.length c7)).set 0 rfl 1 (.int .i64 (s5.bad : Nat))).allocX (.cells #[.slice a7 s5.rest.length c7, .int .i64 (s5.bad : Nat)] 122))
   clear Rc0 Rc1 Rf0 Rf1 Rl Cc0 Cc1 Cf0 Cf1 Cl RnC CnR
   clear H4
   generalize (((w11.setCell ⟨w.heap.size, 0, none⟩ (.slice a7 s5.rest.length c7)).setCell ⟨w.heap.size, 1, none⟩ (.int .i64 (s5.bad : Nat))).alloc (.cells #[.slice a7 s5.rest.length c7, .int .i64 (s5.bad : Nat)] 122)) = w12 at *
   have Rc0 := H5.cell 0 rfl 0 rfl
   have Rc1 := H5.cell 0 rfl 1 rfl
   have Rf0 := H5.free 0 rfl 0
   have Rf1 := H5.free 0 rfl 1
   have Rl := H5.lt 0 rfl
   have Cc0 := H5.cell 1 rfl 0 rfl
   have Cc1 := H5.cell 1 rfl 1 rfl
   have Cf0 := H5.free 1 rfl 0
   have Cf1 := H5.free 1 rfl 1
   have Cl := H5.lt 1 rfl
   have RnC := H5.ne 0 1 rfl rfl (by decide)
   have CnR := H5.ne 1 0 rfl rfl (by decide)
   have hcs := run_string_of (P := Tryz.prog) 22 5 9 Tryz.underlying22 Tryz.underlying5 Tryz.underlying9 (show Bytes w12 (.slice ta d.length tc) d from SlV.below HT.out (Nat.le_refl _) (HB0.out.trans (H5.toBelow.mono HB0.out.size)))
   go_wp2_with fail
   clear hcs
   have H6 : Sep w NoF [.box (w.heap.size) [.slice a7 s5.rest.length c7, .int .i64 (s5.bad : Nat)] 122, .box (qC) [.int .i64 (k : Int), .string (strOf d)] 43, .box (w.heap.size + 1) [.int .i64 0, .string ⟨#[]⟩] 43, .box (w.heap.size + 2) [.slice none 0 0, .int .i64 0] 122] ((w12.setCell ⟨qC, 1, none⟩ (.string (strOf d)))) := (((((H5.set 1 rfl 1 (.string (strOf d))).focus 3 rfl).focus 3 rfl).focus 2 rfl).focus 3 rfl)
   clear Rc0 Rc1 Rf0 Rf1 Rl Cc0 Cc1 Cf0 Cf1 Cl RnC CnR
   clear H5
   go_meet
   exact ⟨d, s5, a7, c7, Zh (by rw [if_pos HK2.out]; exact HK5.out), htle, HY5, H6⟩
  have hk3 : ((k : Int) == 1) = false := by rw [beq_eq_false_iff_ne]; omega
  have HX5 := Zh (show (if k = 1 then s.text 64 else ([], s)) = ([], s) from if_neg hk2)
  clear hk2
  go_wp2_with fail
  go_meet
  exact ⟨[], s, a2, c2, HX5, by simp, HY, H3⟩
 case rest =>
 clear Rc0 Rc1 Rf0 Rf1 Rl Cc0 Cc1 Cf0 Cf1 Cl RnC CnR
 obtain ⟨d, s5, a7, c7, HX, hdl, HY5, H9⟩ := hcut
 clear H3 HY
 obtain ⟨w9, hw9⟩ : ∃ w9, w9 = wc := ⟨_, rfl⟩
 rw [← hw9] at H9 ⊢
 clear hw9
 have HPE := Zh (show p = if s5.bad ≠ 0 then (⟨0, []⟩, s5) else (⟨(k : Nat), d⟩, s5) from by rw [HP.out]; exact cell_eq5 HK.out HX.out)
 have HB9 := Lib.hid' H9.toBelow
 have Rc0 := H9.cell 0 rfl 0 rfl
 have Rc1 := H9.cell 0 rfl 1 rfl
 have Rl := H9.lt 0 rfl
 have Cc0 := H9.cell 1 rfl 0 rfl
 have Cc1 := H9.cell 1 rfl 1 rfl
 have Cl := H9.lt 1 rfl
 have Z1c0 := H9.cell 2 rfl 0 rfl
 have Z1c1 := H9.cell 2 rfl 1 rfl
 have Z1f0 := H9.free 2 rfl 0
 have Z1f1 := H9.free 2 rfl 1
 have Z1l := H9.lt 2 rfl
 have Z2c0 := H9.cell 3 rfl 0 rfl
 have Z2c1 := H9.cell 3 rfl 1 rfl
 have Z2f0 := H9.free 3 rfl 0
 have Z2f1 := H9.free 3 rfl 1
 have Z2l := H9.lt 3 rfl
 have RnZ1 := H9.ne 0 2 rfl rfl (by decide)
 have RnZ2 := H9.ne 0 3 rfl rfl (by decide)
 have CnZ1 := H9.ne 1 2 rfl rfl (by decide)
 have CnZ2 := H9.ne 1 3 rfl rfl (by decide)
 have Z1nR := H9.ne 2 0 rfl rfl (by decide)
 have Z1nC := H9.ne 2 1 rfl rfl (by decide)
 have Z1nZ2 := H9.ne 2 3 rfl rfl (by decide)
 have Z2nR := H9.ne 3 0 rfl rfl (by decide)
 have Z2nC := H9.ne 3 1 rfl rfl (by decide)
 have Z2nZ1 := H9.ne 3 2 rfl rfl (by decide)
 by_cases hb0 : s5.bad = 0
 ·skip
  have hbb : ((s5.bad : Int) != 0) = false := by rw [bne_eq_false_iff_eq]; omega
  have HRET := Zh (show ∀ wq, Below w.heap.size w wq → RCTakeR p w0 w (.returned (.tuple #[.agg #[.int .i64 (k : Int), .string (strOf d)], .agg #[.slice a7 s5.rest.length c7, .int .i64 (s5.bad : Nat)]])) wq from fun wq hq => by
   rw [HPE.out.trans (if_neg (by simpa using hb0))]; exact ⟨a7, c7, rfl, HY5.out, hq⟩)
  clear hb0
  go_wp2_with fail
  go_region
  all_goals
   go_wp2
   refine bodyPost_ret (v := .tuple #[.agg #[.int .i64 (k : Int), .string (strOf d)], .agg #[.slice a7 s5.rest.length c7, .int .i64 (s5.bad : Nat)]]) (by simp [results, Tryz.results60, go_sem, Rc0, Rc1, Cc0, Cc1, Z1c0, Z1c1, Z2c0, Z2c1, Z1nZ2, Z2nZ1]) rfl ?_
   first
    | exact HRET.out _ ((((HB9.out.setCell (by simp <;> omega) _).setCell (by simp <;> omega) _).setCell (by simp <;> omega) _).setCell (by simp <;> omega) _)
    | exact HRET.out _ ((((HB9.out.drew.setCell (by simp <;> omega) _).setCell (by simp <;> omega) _).setCell (by simp <;> omega) _).setCell (by simp <;> omega) _)
 ·skip
  have hbb : ((s5.bad : Int) != 0) = true := by rw [bne_iff_ne]; omega
  have HRET := Zh (show ∀ wq, Below w.heap.size w wq → RCTakeR p w0 w (.returned (.tuple #[.agg #[.int .i64 0, .string ⟨#[]⟩], .agg #[.slice a7 s5.rest.length c7, .int .i64 (s5.bad : Nat)]])) wq from fun wq hq => by
   rw [HPE.out.trans (if_pos hb0)]; exact ⟨a7, c7, rfl, HY5.out, hq⟩)
  clear hb0
  go_wp2_with fail
  go_region
  all_goals
   go_wp2
   refine bodyPost_ret (v := .tuple #[.agg #[.int .i64 0, .string ⟨#[]⟩], .agg #[.slice a7 s5.rest.length c7, .int .i64 (s5.bad : Nat)]]) (by simp [results, Tryz.results60, go_sem, Rc0, Rc1, Cc0, Cc1, Z1c0, Z1c1, Z2c0, Z2c1, Z1nZ2, Z2nZ1]) rfl ?_
   first
    | exact HRET.out _ ((((HB9.out.setCell (by simp <;> omega) _).setCell (by simp <;> omega) _).setCell (by simp <;> omega) _).setCell (by simp <;> omega) _)
    | exact HRET.out _ ((((HB9.out.drew.setCell (by simp <;> omega) _).setCell (by simp <;> omega) _).setCell (by simp <;> omega) _).setCell (by simp <;> omega) _)
end Go.Proofs.YtddlkkmdcfamiaaGreatDoor

namespace Go.Proofs.YtddlkkmdcfamiaaGreatDoor
open Go.RowKit

def RTakeU09R (p : Nat × U) (w : World) (en : Ending) (w' : World) : Prop :=
 ∃ a c, en = .returned (.tuple #[ruV p.2 a c, .int .i64 (p.1 : Nat)]) ∧ w'.ownsRow w.heap.size 81 3 (.slice a p.2.cells.length c) p.2.cells.length (rents p.2.cells) ∧ Below w.heap.size w w'
theorem rtk_1 {b : List UInt8} {n : Nat} (h : (fone b).1 = n) (hn : n ≠ 0) : rTakeU b = (n, U.zero) := by subst h; unfold rTakeU; rw [if_pos hn]
theorem rtk_2 {b t : List UInt8} {e l m : Nat} {s1 s2 s3 : RD} (h : fone b = (0, t)) (h1 : RD.within ⟨t, 0⟩ 1099511627776 = (e, s1)) (h2 : s1.within 1048576 = (l, s2)) (h3 : s2.num = (m, s3)) :
  rTakeU b = if s3.bad = 0 ∧ 65536 < m then (3, U.zero) else rEndU e l (RD.rEnts m (l : Nat) s3 []) := by
 unfold rTakeU
 rw [h]
 simp only [ne_eq, not_true_eq_false, if_false, h1, h2, h3]
theorem rents_step {n k : Nat} {f : Int} {s : RD} {acc : List (Int × C)} {O : Option (List (Int × C) × RD)} (hk : k < n) (hb : s.bad = 0) (h : RD.rEnts (n - k) f s acc = O) :
  (if s.num.2.bad = 0 ∧ (1048576 - f).toNat ≤ s.num.1 then none else RD.rEnts (n - (k + 1)) (f + (s.num.1 : Nat) + 1) s.num.2.cell.2 (acc ++ [(f + (s.num.1 : Nat), s.num.2.cell.1)])) = O := by
 rw [show n - k = (n - (k + 1)) + 1 by omega] at h
 unfold RD.rEnts at h
 rwa [if_pos hb] at h
theorem rents_stop {n k : Nat} {f : Int} {s : RD} {acc : List (Int × C)} {O : Option (List (Int × C) × RD)} (h : RD.rEnts (n - k) f s acc = O) (hg : ¬ (k < n ∧ s.bad = 0)) : O = some (acc, s) := by
 subst h
 by_cases hb : s.bad = 0
 ·rw [show n - k = 0 by have : ¬ k < n := fun h => hg ⟨h, hb⟩; omega]; rfl
 ·exact RD.rEnts_bad _ _ hb _
theorem within_leq (r : RD) (most : Nat) : (r.within most).1 ≤ most := by
 unfold RD.within
 split
 ·simp
 ·omega
set_option maxHeartbeats 40000000 in
theorem rtakeu09_any (b : List UInt8) (a : Option Addr) (c : Nat) (w : World) (h : Bytes w (.slice a b.length c) b) :
  Calls Tryz.prog 26 #[.slice a b.length c] w (RTakeU09R (rTakeU b) w) := by
 have HD := Lib.hid' h
 have hbl := bytes_len h
 clear h
 obtain ⟨p, hp⟩ : ∃ p, p = rTakeU b := ⟨_, rfl⟩
 have HP := Lib.hid' hp
 rw [← hp]
 clear hp
 go_enter Tryz.func26, Tryz.ntmps26
 go_wp2_with fail
 have G0 : Sep w NoF [] w := Sep.start _
 have H1 : Sep w NoF [.box (w.heap.size + 1) [.int .i64 0, .int .i64 0, .slice none 0 0] 67, .box (w.heap.size) [.int .i64 0, .int .i64 0, .slice none 0 0] 67] (((w.alloc (.cells #[.int .i64 0, .int .i64 0, .slice none 0 0] 67)).alloc (.cells #[.int .i64 0, .int .i64 0, .slice none 0 0] 67))) := ((G0.allocAt (w.heap.size) [.int .i64 0, .int .i64 0, .slice none 0 0] 67 (by simp)).allocAt (w.heap.size + 1) [.int .i64 0, .int .i64 0, .slice none 0 0] 67 (by simp))
 clear G0
 generalize ((w.alloc (.cells #[.int .i64 0, .int .i64 0, .slice none 0 0] 67)).alloc (.cells #[.int .i64 0, .int .i64 0, .slice none 0 0] 67)) = w1 at *
 have HERR : Hid (∀ wq (err : Nat), Below w.heap.size w wq → p = (err, U.zero) → RTakeU09R p w (.returned (.tuple #[.agg #[.int .i64 0, .int .i64 0, .slice none 0 0], .int .i64 (err : Nat)])) (((wq.setCell ⟨w.heap.size, 0, none⟩ (.int .i64 0)).setCell ⟨w.heap.size, 1, none⟩ (.int .i64 0)).setCell ⟨w.heap.size, 2, none⟩ (.slice none 0 0))) := Zh (by
  intro wq err hb hx
  subst hx
  exact ⟨none, 0, rfl, own_nil _ _ _ _, (((hb.setCell (by simp) _).setCell (by simp) _).setCell (by simp) _)⟩)
 refine (rone09_any b a c w1 (SlV.below HD.out (Nat.le_refl _) H1.toBelow)).mono ?_
 rintro en w2 ⟨a2, t, c2, rfl, hy2, hf2, hb2⟩
 obtain ⟨fe, hfe⟩ : ∃ n, n = (fone b).1 := ⟨_, rfl⟩
 rw [← hfe] at hf2 ⊢
 have HFE := Lib.hid' hfe
 have HF2 := Lib.hid' hf2
 have HY2 := Lib.hid' hy2
 have htl := bytes_len hy2
 clear hfe hf2 hy2
 have H2 : Sep w NoF [.box (w.heap.size + 1) [.int .i64 0, .int .i64 0, .slice none 0 0] 67, .box (w.heap.size) [.int .i64 0, .int .i64 0, .slice none 0 0] 67] (w2) := (H1.below hb2)
 clear H1 hb2
 have H3 : Sep w NoF [.box (w.heap.size) [.int .i64 0, .int .i64 0, .slice none 0 0] 67, .box (w.heap.size + 1) [.int .i64 0, .int .i64 0, .slice none 0 0] 67] (w2) := ((H2.focus 0 rfl).focus 1 rfl)
 clear H2
 have HN2 := Zh (H3.box 0 rfl)
 have HM2 := Zh (H3.box 1 rfl)
 have HB2 := Lib.hid' H3.toBelow
 have hMT : w.heap.size + 1 < w2.heap.size := H3.lt 1 rfl
 clear H3
 by_cases hfe0 : fe = 0
 rotate_left
 ·skip
  have HNw := Zh (HN2.out)
  have HMw := Zh (HM2.out)
  have HBw := Zh (HB2.out)
  have n0 := HNw.out.box.1 0 _ rfl
  have n1 := HNw.out.box.1 1 _ rfl
  have n2 := HNw.out.box.1 2 _ rfl
  have g0 := HNw.out.box.2.1 0
  have g1 := HNw.out.box.2.1 1
  have g2 := HNw.out.box.2.1 2
  have m0 := HMw.out.box.1 0 _ rfl
  have m1 := HMw.out.box.1 1 _ rfl
  have m2 := HMw.out.box.1 2 _ rfl
  have hnl := HNw.out.lt
  have hml := HMw.out.lt
  have HE := Zh (HERR.out w2 fe HBw.out (by rw [HP.out]; exact rtk_1 HFE.out.symm hfe0))
  have hb1 : ((fe : Int) != 0) = true := by rw [bne_iff_ne]; omega
  clear hfe0
  go_wp2
  refine bodyPost_ret (v := .tuple #[.agg #[.int .i64 0, .int .i64 0, .slice none 0 0], .int .i64 (fe : Nat)]) (by simp [results, Tryz.results26, go_sem, n0, n1, n2]) rfl HE.out
 subst hfe0
 have HF0 := Zh (show fone b = (0, t) from by rw [HF2.out rfl, HFE.out])
 clear HFE HF2
 go_wp2_with fail
 have H0 : Sep w2 NoF [] w2 := Sep.start _
 have H1 : Sep w2 NoF [.box (w2.heap.size + 1) [.int .i64 0, .int .i64 0, .slice none 0 0] 67, .box (w2.heap.size) [.slice a2 t.length c2, .int .i64 0] 122] (((w2.alloc (.cells #[.slice a2 t.length c2, .int .i64 0] 122)).alloc (.cells #[.int .i64 0, .int .i64 0, .slice none 0 0] 67))) := ((H0.allocAt (w2.heap.size) [.slice a2 t.length c2, .int .i64 0] 122 (by simp)).allocAt (w2.heap.size + 1) [.int .i64 0, .int .i64 0, .slice none 0 0] 67 (by simp))
 clear H0
 generalize ((w2.alloc (.cells #[.slice a2 t.length c2, .int .i64 0] 122)).alloc (.cells #[.int .i64 0, .int .i64 0, .slice none 0 0] 67)) = w3 at *
 have hwi := rwithin01_any ⟨t, 0⟩ a2 c2 1099511627776 (by decide) w2 w3 HY2.out H1.toBelow
 unfold RInt01R at hwi
 obtain ⟨e0, hv⟩ : ∃ v, v = (RD.within ⟨t, 0⟩ 1099511627776).1 := ⟨_, rfl⟩
 obtain ⟨s1, hs⟩ : ∃ s, s = (RD.within ⟨t, 0⟩ 1099511627776).2 := ⟨_, rfl⟩
 have HK1 := Zh (show RD.within ⟨t, 0⟩ 1099511627776 = (e0, s1) by rw [hv, hs])
 have hle_e0 : e0 ≤ 1099511627776 := by rw [hv]; exact within_leq _ _
 rw [← hv, ← hs] at hwi
 clear hv hs
 refine hwi.mono ?_
 clear hwi
 rintro en w4 ⟨a4, c4, rfl, hy, hb⟩
 have HY_s1 := Lib.hid' hy
 clear hy
 have H2 : Sep w2 NoF [.box (w2.heap.size + 1) [.int .i64 0, .int .i64 0, .slice none 0 0] 67, .box (w2.heap.size) [.slice a2 t.length c2, .int .i64 0] 122] (w4) := (H1.below hb)
 clear H1 hb
 unfold rdV
 have Rc0 := H2.cell 1 rfl 0 rfl
 have Rc1 := H2.cell 1 rfl 1 rfl
 have Rf0 := H2.free 1 rfl 0
 have Rf1 := H2.free 1 rfl 1
 have Rl := H2.lt 1 rfl
 have Vc0 := H2.cell 0 rfl 0 rfl
 have Vc1 := H2.cell 0 rfl 1 rfl
 have Vc2 := H2.cell 0 rfl 2 rfl
 have Vf0 := H2.free 0 rfl 0
 have Vf1 := H2.free 0 rfl 1
 have Vf2 := H2.free 0 rfl 2
 have Vl := H2.lt 0 rfl
 have RnV := H2.ne 1 0 rfl rfl (by decide)
 have VnR := H2.ne 0 1 rfl rfl (by decide)
 go_wp2_with fail
 have H3 : Sep w2 NoF [.box (w2.heap.size) [.slice a4 s1.rest.length c4, .int .i64 (s1.bad : Nat)] 122, .box (w2.heap.size + 1) [.int .i64 (e0 : Int), .int .i64 0, .slice none 0 0] 67] ((((w4.setCell ⟨w2.heap.size + 1, 0, none⟩ (.int .i64 (e0 : Int))).setCell ⟨w2.heap.size, 0, none⟩ (.slice a4 s1.rest.length c4)).setCell ⟨w2.heap.size, 1, none⟩ (.int .i64 (s1.bad : Nat)))) := (((((H2.set 0 rfl 0 (.int .i64 (e0 : Int))).set 1 rfl 0 (.slice a4 s1.rest.length c4)).set 0 rfl 1 (.int .i64 (s1.bad : Nat))).focus 1 rfl).focus 1 rfl)
 clear Rc0 Rc1 Rf0 Rf1 Rl Vc0 Vc1 Vc2 Vf0 Vf1 Vf2 Vl RnV VnR
 clear H2
 generalize (((w4.setCell ⟨w2.heap.size + 1, 0, none⟩ (.int .i64 (e0 : Int))).setCell ⟨w2.heap.size, 0, none⟩ (.slice a4 s1.rest.length c4)).setCell ⟨w2.heap.size, 1, none⟩ (.int .i64 (s1.bad : Nat))) = w5 at *
 have hwi := rwithin01_any s1 a4 c4 1048576 (by decide) w2 w5 HY_s1.out H3.toBelow
 unfold RInt01R at hwi
 obtain ⟨l0, hv⟩ : ∃ v, v = (RD.within s1 1048576).1 := ⟨_, rfl⟩
 obtain ⟨s2, hs⟩ : ∃ s, s = (RD.within s1 1048576).2 := ⟨_, rfl⟩
 have HK2 := Zh (show RD.within s1 1048576 = (l0, s2) by rw [hv, hs])
 have hle_l0 : l0 ≤ 1048576 := by rw [hv]; exact within_leq _ _
 rw [← hv, ← hs] at hwi
 clear hv hs
 refine hwi.mono ?_
 clear hwi
 rintro en w6 ⟨a6, c6, rfl, hy, hb⟩
 have HY_s2 := Lib.hid' hy
 clear hy
 have H4 : Sep w2 NoF [.box (w2.heap.size) [.slice a4 s1.rest.length c4, .int .i64 (s1.bad : Nat)] 122, .box (w2.heap.size + 1) [.int .i64 (e0 : Int), .int .i64 0, .slice none 0 0] 67] (w6) := (H3.below hb)
 clear H3 hb
 unfold rdV
 have Rc0 := H4.cell 0 rfl 0 rfl
 have Rc1 := H4.cell 0 rfl 1 rfl
 have Rf0 := H4.free 0 rfl 0
 have Rf1 := H4.free 0 rfl 1
 have Rl := H4.lt 0 rfl
 have Vc0 := H4.cell 1 rfl 0 rfl
 have Vc1 := H4.cell 1 rfl 1 rfl
 have Vc2 := H4.cell 1 rfl 2 rfl
 have Vf0 := H4.free 1 rfl 0
 have Vf1 := H4.free 1 rfl 1
 have Vf2 := H4.free 1 rfl 2
 have Vl := H4.lt 1 rfl
 have RnV := H4.ne 0 1 rfl rfl (by decide)
 have VnR := H4.ne 1 0 rfl rfl (by decide)
 go_wp2_with fail
 have H5 : Sep w2 NoF [.box (w2.heap.size) [.slice a6 s2.rest.length c6, .int .i64 (s2.bad : Nat)] 122, .box (w2.heap.size + 1) [.int .i64 (e0 : Int), .int .i64 (l0 : Int), .slice none 0 0] 67] ((((w6.setCell ⟨w2.heap.size + 1, 1, none⟩ (.int .i64 (l0 : Int))).setCell ⟨w2.heap.size, 0, none⟩ (.slice a6 s2.rest.length c6)).setCell ⟨w2.heap.size, 1, none⟩ (.int .i64 (s2.bad : Nat)))) := (((((H4.set 1 rfl 1 (.int .i64 (l0 : Int))).set 1 rfl 0 (.slice a6 s2.rest.length c6)).set 0 rfl 1 (.int .i64 (s2.bad : Nat))).focus 1 rfl).focus 1 rfl)
 clear Rc0 Rc1 Rf0 Rf1 Rl Vc0 Vc1 Vc2 Vf0 Vf1 Vf2 Vl RnV VnR
 clear H4
 generalize (((w6.setCell ⟨w2.heap.size + 1, 1, none⟩ (.int .i64 (l0 : Int))).setCell ⟨w2.heap.size, 0, none⟩ (.slice a6 s2.rest.length c6)).setCell ⟨w2.heap.size, 1, none⟩ (.int .i64 (s2.bad : Nat))) = w7 at *
 have hnu := rnum01_any s2 a6 c6 w2 w7 HY_s2.out H5.toBelow
 unfold RNum01R at hnu
 obtain ⟨m, hm⟩ : ∃ z, z = s2.num.1 := ⟨_, rfl⟩
 obtain ⟨s3, hs⟩ : ∃ z, z = s2.num.2 := ⟨_, rfl⟩
 have hlt_m : m < 18446744073709551616 := by rw [hm]; exact RD.num_lt s2
 have HK3 := Zh (show s2.num = (m, s3) by rw [hm, hs])
 rw [← hm, ← hs] at hnu
 clear hm hs
 refine hnu.mono ?_
 clear hnu
 rintro en w8 ⟨a8, c8, rfl, hy, hb⟩
 have HY_s3 := Lib.hid' hy
 clear hy
 have H6 : Sep w2 NoF [.box (w2.heap.size) [.slice a6 s2.rest.length c6, .int .i64 (s2.bad : Nat)] 122, .box (w2.heap.size + 1) [.int .i64 (e0 : Int), .int .i64 (l0 : Int), .slice none 0 0] 67] (w8) := (H5.below hb)
 clear H5 hb
 unfold rdV
 have Rc0 := H6.cell 0 rfl 0 rfl
 have Rc1 := H6.cell 0 rfl 1 rfl
 have Rf0 := H6.free 0 rfl 0
 have Rf1 := H6.free 0 rfl 1
 have Rl := H6.lt 0 rfl
 go_upto_region 10 with fail
 have H7 : Sep w2 NoF [.box (w2.heap.size) [.slice a8 s3.rest.length c8, .int .i64 (s3.bad : Nat)] 122, .box (w2.heap.size + 1) [.int .i64 (e0 : Int), .int .i64 (l0 : Int), .slice none 0 0] 67] (((w8.setCell ⟨w2.heap.size, 0, none⟩ (.slice a8 s3.rest.length c8)).setCell ⟨w2.heap.size, 1, none⟩ (.int .i64 (s3.bad : Nat)))) := ((((H6.set 0 rfl 0 (.slice a8 s3.rest.length c8)).set 0 rfl 1 (.int .i64 (s3.bad : Nat))).focus 1 rfl).focus 1 rfl)
 clear Rc0 Rc1 Rf0 Rf1 Rl
 clear H6
 generalize ((w8.setCell ⟨w2.heap.size, 0, none⟩ (.slice a8 s3.rest.length c8)).setCell ⟨w2.heap.size, 1, none⟩ (.int .i64 (s3.bad : Nat))) = w9 at *
 have HPQ := Zh (HP.out.trans (rtk_2 HF0.out HK1.out HK2.out HK3.out))
 clear HK1 HK2 HK3 HY_s1 HY_s2 HY2
 by_cases h34 : s3.bad = 0 ∧ 65536 < m
 ·skip
  have Rc0 := H7.cell 0 rfl 0 rfl
  have Rc1 := H7.cell 0 rfl 1 rfl
  have Rl := H7.lt 0 rfl
  have HPE := Zh (HPQ.out.trans (if_pos h34))
  obtain ⟨h3, h4⟩ := h34
  have hb1 : ((s3.bad : Int) == 0) = true := by rw [beq_iff_eq]; omega
  clear h3
  have HNw := Zh (HN2.out.below (Nat.le_refl _) H7.toBelow)
  have HMw := Zh (HM2.out.below (Nat.le_refl _) H7.toBelow)
  have HBw := Zh (HB2.out.trans (H7.toBelow.mono HB2.out.size))
  have n0 := HNw.out.box.1 0 _ rfl
  have n1 := HNw.out.box.1 1 _ rfl
  have n2 := HNw.out.box.1 2 _ rfl
  have g0 := HNw.out.box.2.1 0
  have g1 := HNw.out.box.2.1 1
  have g2 := HNw.out.box.2.1 2
  have m0 := HMw.out.box.1 0 _ rfl
  have m1 := HMw.out.box.1 1 _ rfl
  have m2 := HMw.out.box.1 2 _ rfl
  have hnl := HNw.out.lt
  have hml := HMw.out.lt
  have HE := Zh (HERR.out w9 3 HBw.out (HPE.out))
  go_wp2
  refine bodyPost_ret (v := .tuple #[.agg #[.int .i64 0, .int .i64 0, .slice none 0 0], .int .i64 3]) (by simp [results, Tryz.results26, go_sem, n0, n1, n2]) rfl HE.out
 obtain ⟨O, hO⟩ : ∃ O, O = RD.rEnts m (l0 : Nat) s3 [] := ⟨_, rfl⟩
 have HPE := Zh (show p = rEndU e0 l0 O from by rw [HPQ.out, if_neg h34, hO])
 have HC := Zh (show RD.rEnts (m - 0) (l0 : Nat) s3 [] = O from hO.symm)
 have HM6 := Zh (show s3.bad = 0 → m ≤ 65536 from fun h => by have h5 : ¬ 65536 < m := fun h6 => h34 ⟨h, h6⟩; omega)
 clear hO HPQ
 have Rc0 := H7.cell 0 rfl 0 rfl
 have Rc1 := H7.cell 0 rfl 1 rfl
 have Rl := H7.lt 0 rfl
 have Vc0 := H7.cell 1 rfl 0 rfl
 have Vc1 := H7.cell 1 rfl 1 rfl
 have Vc2 := H7.cell 1 rfl 2 rfl
 have Vl := H7.lt 1 rfl
 go_cut [53] (fun v53 wc => v53 = .bool false ∧ wc = w9)
 case first =>
  by_cases hb0 : s3.bad = 0
  ·have h5 : ¬ 65536 < m := fun h6 => h34 ⟨hb0, h6⟩
   have hb1 : ((s3.bad : Int) == 0) = true := by rw [beq_iff_eq]; omega
   clear hb0 h34
   go_wp2_with fail
   go_meet
   exact ⟨by simp only [Value.bool.injEq, decide_eq_false_iff_not]; omega, rfl⟩
  ·have hb1 : ((s3.bad : Int) == 0) = false := by rw [beq_eq_false_iff_ne]; omega
   clear hb0 h34
   go_wp2_with fail
   go_meet
   exact ⟨rfl, rfl⟩
 case rest =>
 obtain ⟨rfl, hwc⟩ := hcut
 rw [hwc]
 clear hwc h34
 go_wp2_with fail
 clear Rc0 Rc1 Rl Vc0 Vc1 Vc2 Vl
 have H8 : Sep w2 NoF [.row 81 3 (.slice none 0 0) (0) ([]), .box (w2.heap.size) [.slice a8 s3.rest.length c8, .int .i64 (s3.bad : Nat)] 122, .box (w2.heap.size + 1) [.int .i64 (e0 : Int), .int .i64 (l0 : Int), .slice none 0 0] 67] (w9) := (H7.nilRow 81 3)
 clear H7
 go_loopw [12, 10, 11] (fun v12 v10 v11 wr => ∃ (k : Nat) (s : RD) (f : Int) (L : List (Int × C)) (la : Option Addr) (lc : Nat) (a' : Option Addr) (c' : Nat) (od : Bool), v12 = .int .u64 k ∧ v10 = .int .i64 f ∧ v11 = .bool od ∧ k ≤ m ∧ k ≤ 65536 ∧ 0 ≤ f ∧ f ≤ 1048577 ∧ Hid (od = L.any noneE) ∧ Hid (s.bad = 0 → m ≤ 65536 ∧ f ≤ 1048576) ∧ Hid (L.length = k) ∧ Hid (RD.rEnts (m - k) f s L = O) ∧ Hid (Bytes w2 (.slice a' s.rest.length c') s.rest) ∧ Sep w2 NoF [.row 81 3 (.slice la L.length lc) L.length (rents L), .box w2.heap.size [.slice a' s.rest.length c', .int .i64 (s.bad : Nat)] 122, .box (w2.heap.size + 1) [.int .i64 (e0 : Int), .int .i64 (l0 : Int), .slice la L.length lc] 67] wr) (fun v12 _ _ _ => m - (intOf v12).toNat)
 case atStart => exact ⟨0, s3, l0, [], none, 0, a8, c8, false, rfl, rfl, rfl, Nat.zero_le _, Nat.zero_le _, by omega, by omega, Lib.hid' rfl, Zh (fun h => ⟨HM6.out h, by omega⟩), Lib.hid' rfl, HC, HY_s3, H8⟩
 case round =>
  clear HC HM6 HY_s3 H8
  obtain ⟨k, s, f, L, la, lc, a', c', od, rfl, rfl, rfl, hk, hk6, hf0, hf1, HOD, HM6, HL, HC, HY, H0⟩ := hrel
  by_cases hgo : k < m ∧ s.bad = 0
  ·skip
   obtain ⟨hlt, hs0⟩ := hgo
   obtain ⟨hm6, hf2⟩ := HM6.out hs0
   have HNX := Zh (rents_step hlt hs0 HC.out)
   have hb1 : ((s.bad : Int) == 0) = true := by rw [beq_iff_eq]; omega
   have hkl : L.length ≤ 65536 := by have := HL.out; omega
   clear hs0 HC HM6
   have Rc0 := H0.cell 1 rfl 0 rfl
   have Rc1 := H0.cell 1 rfl 1 rfl
   have Rf0 := H0.free 1 rfl 0
   have Rf1 := H0.free 1 rfl 1
   have Rl := H0.lt 1 rfl
   go_wp2_with fail
   clear Rc0 Rc1 Rf0 Rf1 Rl
   have hnu := rnum01_any s a' c' w2 wr HY.out H0.toBelow
   unfold RNum01R at hnu
   obtain ⟨by', hm⟩ : ∃ z, z = s.num.1 := ⟨_, rfl⟩
   obtain ⟨s4, hs⟩ : ∃ z, z = s.num.2 := ⟨_, rfl⟩
   have hlt_by' : by' < 18446744073709551616 := by rw [hm]; exact RD.num_lt s
   have HK4 := Zh (show s.num = (by', s4) by rw [hm, hs])
   rw [← hm, ← hs] at hnu
   clear hm hs
   refine hnu.mono ?_
   clear hnu
   rintro en x4 ⟨a9, c9, rfl, hy, hb⟩
   have HY_s4 := Lib.hid' hy
   clear hy
   have H1 : Sep w2 NoF [.row 81 3 (.slice la L.length lc) (L.length) (rents L), .box (w2.heap.size) [.slice a' s.rest.length c', .int .i64 (s.bad : Nat)] 122, .box (w2.heap.size + 1) [.int .i64 (e0 : Int), .int .i64 (l0 : Int), .slice la L.length lc] 67] (x4) := (H0.below hb)
   clear H0 hb
   unfold rdV
   rw [HK4.out] at HNX
   simp only at HNX
   have Rc0 := H1.cell 1 rfl 0 rfl
   have Rc1 := H1.cell 1 rfl 1 rfl
   have Rf0 := H1.free 1 rfl 0
   have Rf1 := H1.free 1 rfl 1
   have Rl := H1.lt 1 rfl
   go_upto_region 19 with fail
   have H2 : Sep w2 NoF [.box (x4.heap.size) [.slice a9 s4.rest.length c9, .int .i64 (s4.bad : Nat)] 122, .box (w2.heap.size) [.slice a9 s4.rest.length c9, .int .i64 (s4.bad : Nat)] 122, .row 81 3 (.slice la L.length lc) (L.length) (rents L), .box (w2.heap.size + 1) [.int .i64 (e0 : Int), .int .i64 (l0 : Int), .slice la L.length lc] 67] ((((x4.setCell ⟨w2.heap.size, 0, none⟩ (.slice a9 s4.rest.length c9)).setCell ⟨w2.heap.size, 1, none⟩ (.int .i64 (s4.bad : Nat))).alloc (.cells #[.slice a9 s4.rest.length c9, .int .i64 (s4.bad : Nat)] 122))) := (((H1.set 1 rfl 0 (.slice a9 s4.rest.length c9)).set 0 rfl 1 (.int .i64 (s4.bad : Nat))).allocAt (x4.heap.size) [.slice a9 s4.rest.length c9, .int .i64 (s4.bad : Nat)] 122 (by simp))
   clear Rc0 Rc1 Rf0 Rf1 Rl
   clear H1
   generalize (((x4.setCell ⟨w2.heap.size, 0, none⟩ (.slice a9 s4.rest.length c9)).setCell ⟨w2.heap.size, 1, none⟩ (.int .i64 (s4.bad : Nat))).alloc (.cells #[.slice a9 s4.rest.length c9, .int .i64 (s4.bad : Nat)] 122)) = x5 at *
   generalize x4.heap.size = q2 at *
   have Rc0 := H2.cell 1 rfl 0 rfl
   have Rc1 := H2.cell 1 rfl 1 rfl
   have Rl := H2.lt 1 rfl
   have hby0 : s4.bad ≠ 0 → by' = 0 := fun hb => by have h5 := RD.num_zero (r := s) (by rw [HK4.out]; exact hb); rw [HK4.out] at h5; exact h5
   obtain ⟨bq, hbq⟩ : ∃ bq, bq = decide (s4.bad = 0 ∧ (1048576 - f).toNat ≤ by') := ⟨_, rfl⟩
   have HBQ := Lib.hid' hbq
   clear hbq
   have HBY0 := Lib.hid' hby0
   clear hby0
   go_cut [82] (fun v82 wc => v82 = .bool bq ∧ wc = x5)
   case first =>
    by_cases hb0 : s4.bad = 0
    ·have hb1 : ((s4.bad : Int) == 0) = true := by rw [beq_iff_eq]; omega
     by_cases hrg : (1048576 - f).toNat ≤ by'
     ·have hrg2 : (1048576 - f) ≤ (by' : Int) := by omega
      have HF := Zh (HBQ.out.trans (decide_eq_true ⟨hb0, hrg⟩))
      clear hb0 hrg
      go_wp2_with fail
      go_meet
      exact ⟨by rw [HF.out], rfl⟩
     ·have hrg2 : ¬ (1048576 - f) ≤ (by' : Int) := by omega
      have HF := Zh (HBQ.out.trans (decide_eq_false (fun h => hrg h.2)))
      clear hb0 hrg
      go_wp2_with fail
      go_meet
      exact ⟨by rw [HF.out], rfl⟩
    ·have hb1 : ((s4.bad : Int) == 0) = false := by rw [beq_eq_false_iff_ne]; omega
     have HF := Zh (HBQ.out.trans (decide_eq_false (fun h => hb0 h.1)))
     clear hb0
     go_wp2_with fail
     go_meet
     exact ⟨by rw [HF.out], rfl⟩
   case rest =>
   obtain ⟨rfl, hwc⟩ := hcut
   rw [hwc]
   clear hwc
   clear Rc0 Rc1 Rl
   cases bq with
   | true =>
    have HON := Zh (show O = none from by have h5 := HNX.out; rw [if_pos (of_decide_eq_true HBQ.out.symm)] at h5; exact h5.symm)
    have HPE2 := Zh (show p = (1, U.zero) from by rw [HPE.out, HON.out]; rfl)
    have HNw := Zh (HN2.out.below (Nat.le_refl _) H2.toBelow)
    have HMw := Zh (HM2.out.below (Nat.le_refl _) H2.toBelow)
    have HBw := Zh (HB2.out.trans (H2.toBelow.mono HB2.out.size))
    have n0 := HNw.out.box.1 0 _ rfl
    have n1 := HNw.out.box.1 1 _ rfl
    have n2 := HNw.out.box.1 2 _ rfl
    have g0 := HNw.out.box.2.1 0
    have g1 := HNw.out.box.2.1 1
    have g2 := HNw.out.box.2.1 2
    have m0 := HMw.out.box.1 0 _ rfl
    have m1 := HMw.out.box.1 1 _ rfl
    have m2 := HMw.out.box.1 2 _ rfl
    have hnl := HNw.out.lt
    have hml := HMw.out.lt
    have HE := Zh (HERR.out x5 1 HBw.out (HPE2.out))
    go_wp2
    refine bodyPost_ret (v := .tuple #[.agg #[.int .i64 0, .int .i64 0, .slice none 0 0], .int .i64 1]) (by simp [results, Tryz.results26, go_sem, n0, n1, n2]) rfl HE.out
   | false =>
   have hnb : ¬ (s4.bad = 0 ∧ (1048576 - f).toNat ≤ by') := of_decide_eq_false HBQ.out.symm
   have hby6 : by' < 1048576 := by
    by_cases hb : s4.bad = 0
    ·have h5 : ¬ (1048576 - f).toNat ≤ by' := fun h => hnb ⟨hb, h⟩
     omega
    ·have := HBY0.out hb; omega
   have HFB := Zh (show s4.bad = 0 → f + (by' : Int) + 1 ≤ 1048576 from fun hb => by
    have h5 : ¬ (1048576 - f).toNat ≤ by' := fun h => hnb ⟨hb, h⟩
    omega)
   have hfb7 : f + (by' : Int) + 1 ≤ 1048577 := by
    by_cases hb : s4.bad = 0
    ·have := HFB.out hb; omega
    ·have := HBY0.out hb; omega
   have HNY := Zh (show RD.rEnts (m - (k + 1)) (f + (by' : Nat) + 1) s4.cell.2 (L ++ [(f + (by' : Nat), s4.cell.1)]) = O from by have h5 := HNX.out; rwa [if_neg hnb] at h5)
   have HSB := Zh (show s4.cell.2.bad = 0 → s4.bad = 0 from fun h => (RD.cell_ok h).1)
   clear HNX hnb HBY0 HBQ
   have hct := fun wq hq => rctake_any s4 a9 c9 w2 wq HY_s4.out hq
   obtain ⟨q, hq⟩ : ∃ q, q = s4.cell := ⟨_, rfl⟩
   rw [← hq] at hct HNY HSB
   clear hq
   obtain ⟨cc, s5⟩ := q
   simp only at HNY HSB
   have HCT := Lib.hid' hct
   clear hct
   have Rc0 := H2.cell 1 rfl 0 rfl
   have Rc1 := H2.cell 1 rfl 1 rfl
   have Rf0 := H2.free 1 rfl 0
   have Rf1 := H2.free 1 rfl 1
   have Rl := H2.lt 1 rfl
   have R2c0 := H2.cell 0 rfl 0 rfl
   have R2c1 := H2.cell 0 rfl 1 rfl
   have R2f0 := H2.free 0 rfl 0
   have R2f1 := H2.free 0 rfl 1
   have R2l := H2.lt 0 rfl
   have RnR2 := H2.ne 1 0 rfl rfl (by decide)
   have R2nR := H2.ne 0 1 rfl rfl (by decide)
   go_wp2_with fail
   refine (HCT.out _ H2.toBelow).mono ?_
   clear HCT
   rintro en x6 ⟨a10, c10, rfl, hy, hb6⟩
   simp only at hy ⊢
   have HY5 := Lib.hid' hy
   clear hy
   have H3 : Sep w2 NoF [.box (q2) [.slice a9 s4.rest.length c9, .int .i64 (s4.bad : Nat)] 122, .box (w2.heap.size) [.slice a9 s4.rest.length c9, .int .i64 (s4.bad : Nat)] 122, .row 81 3 (.slice la L.length lc) (L.length) (rents L), .box (w2.heap.size + 1) [.int .i64 (e0 : Int), .int .i64 (l0 : Int), .slice la L.length lc] 67] (x6) := (H2.below hb6)
   clear Rc0 Rc1 Rf0 Rf1 Rl R2c0 R2c1 R2f0 R2f1 R2l RnR2 R2nR
   clear H2 hb6
   unfold rdV rcellV
   have Rc0 := H3.cell 1 rfl 0 rfl
   have Rc1 := H3.cell 1 rfl 1 rfl
   have Rf0 := H3.free 1 rfl 0
   have Rf1 := H3.free 1 rfl 1
   have Rl := H3.lt 1 rfl
   have R2c0 := H3.cell 0 rfl 0 rfl
   have R2c1 := H3.cell 0 rfl 1 rfl
   have R2f0 := H3.free 0 rfl 0
   have R2f1 := H3.free 0 rfl 1
   have R2l := H3.lt 0 rfl
   have Vc0 := H3.cell 3 rfl 0 rfl
   have Vc1 := H3.cell 3 rfl 1 rfl
   have Vc2 := H3.cell 3 rfl 2 rfl
   have Vl := H3.lt 3 rfl
   have RnR2 := H3.ne 1 0 rfl rfl (by decide)
   have RnV := H3.ne 1 3 rfl rfl (by decide)
   have R2nR := H3.ne 0 1 rfl rfl (by decide)
   have R2nV := H3.ne 0 3 rfl rfl (by decide)
   have VnR := H3.ne 3 1 rfl rfl (by decide)
   have VnR2 := H3.ne 3 0 rfl rfl (by decide)
   go_upto_region 23 with fail
   have H4 : Sep w2 NoF [.box (x6.heap.size) [.int .i64 cc.k, .string (strOf cc.d)] 43, .box (w2.heap.size) [.slice a10 s5.rest.length c10, .int .i64 (s5.bad : Nat)] 122, .box (q2) [.slice a10 s5.rest.length c10, .int .i64 (s5.bad : Nat)] 122, .row 81 3 (.slice la L.length lc) (L.length) (rents L), .box (w2.heap.size + 1) [.int .i64 (e0 : Int), .int .i64 (l0 : Int), .slice la L.length lc] 67] ((((((x6.setCell ⟨q2, 0, none⟩ (.slice a10 s5.rest.length c10)).setCell ⟨q2, 1, none⟩ (.int .i64 (s5.bad : Nat))).setCell ⟨w2.heap.size, 0, none⟩ (.slice a10 s5.rest.length c10)).setCell ⟨w2.heap.size, 1, none⟩ (.int .i64 (s5.bad : Nat))).alloc (.cells #[.int .i64 cc.k, .string (strOf cc.d)] 43))) := (((((H3.set 0 rfl 0 (.slice a10 s5.rest.length c10)).set 0 rfl 1 (.int .i64 (s5.bad : Nat))).set 1 rfl 0 (.slice a10 s5.rest.length c10)).set 0 rfl 1 (.int .i64 (s5.bad : Nat))).allocAt (x6.heap.size) [.int .i64 cc.k, .string (strOf cc.d)] 43 (by simp))
   clear Rc0 Rc1 Rf0 Rf1 Rl R2c0 R2c1 R2f0 R2f1 R2l Vc0 Vc1 Vc2 Vl RnR2 RnV R2nR R2nV VnR VnR2
   clear H3
   generalize (((((x6.setCell ⟨q2, 0, none⟩ (.slice a10 s5.rest.length c10)).setCell ⟨q2, 1, none⟩ (.int .i64 (s5.bad : Nat))).setCell ⟨w2.heap.size, 0, none⟩ (.slice a10 s5.rest.length c10)).setCell ⟨w2.heap.size, 1, none⟩ (.int .i64 (s5.bad : Nat))).alloc (.cells #[.int .i64 cc.k, .string (strOf cc.d)] 43)) = x7 at *
   have HAN := Zh (show (L ++ [(f + (by' : Int), cc)]).any noneE = (od || ((cc.k == 0) || (cc.k == 3))) by rw [HOD.out]; simp [noneE])
   obtain ⟨o2, ho2⟩ : ∃ o2, o2 = (L ++ [(f + (by' : Int), cc)]).any noneE := ⟨_, rfl⟩
   have HO2 := Lib.hid' ho2
   have HO3 := Zh (ho2.trans HAN.out)
   clear ho2 HAN
   have Kc0 := H4.cell 0 rfl 0 rfl
   have Kc1 := H4.cell 0 rfl 1 rfl
   have Kl := H4.lt 0 rfl
   go_cut [11] (fun v11 wc => v11 = .bool o2 ∧ wc = x7)
   case first =>
    cases od <;> cases h0 : (cc.k == 0) <;> cases h3 : (cc.k == 3)
    all_goals
     have HF := Lib.hid' HO3.out
     rw [h0, h3] at HF
     go_wp2_with fail
     go_meet
     exact ⟨by rw [HF.out]; rfl, rfl⟩
   case rest =>
   obtain ⟨rfl, hwc⟩ := hcut
   rw [hwc]
   clear hwc HO3 HOD
   clear Kc0 Kc1 Kl
   have Vc0 := H4.cell 4 rfl 0 rfl
   have Vc1 := H4.cell 4 rfl 1 rfl
   have Vc2 := H4.cell 4 rfl 2 rfl
   have Vf0 := H4.free 4 rfl 0
   have Vf1 := H4.free 4 rfl 1
   have Vf2 := H4.free 4 rfl 2
   have Vl := H4.lt 4 rfl
   have Kc0 := H4.cell 0 rfl 0 rfl
   have Kc1 := H4.cell 0 rfl 1 rfl
   have Kl := H4.lt 0 rfl
   have VnK := H4.ne 4 0 rfl rfl (by decide)
   have KnV := H4.ne 0 4 rfl rfl (by decide)
   go_wp2_with (at_builtin; refine Sep.append etREnt rfl (.tmp 102) (.tmp 109) rfl [.int .i64 (f + (by' : Int)), .int .i64 cc.k, .string (strOf cc.d)] rfl H4 3 rfl rfl rfl (by simp [Value.oneCell']) (by omega) ?_)
   intro la2 lc2 x8 HA
   have H5 : Sep w2 NoF [.row 81 3 (.slice la2 (L.length + 1) lc2) (L.length + 1) (rents L ++ [.int .i64 (f + (by' : Int)), .int .i64 cc.k, .string (strOf cc.d)]), .box (x6.heap.size) [.int .i64 cc.k, .string (strOf cc.d)] 43, .box (w2.heap.size) [.slice a10 s5.rest.length c10, .int .i64 (s5.bad : Nat)] 122, .box (q2) [.slice a10 s5.rest.length c10, .int .i64 (s5.bad : Nat)] 122, .box (w2.heap.size + 1) [.int .i64 (e0 : Int), .int .i64 (l0 : Int), .slice la L.length lc] 67] (x8) := HA
   clear Vc0 Vc1 Vc2 Vf0 Vf1 Vf2 Vl Kc0 Kc1 Kl VnK KnV
   clear HA H4
   have Vc0 := H5.cell 4 rfl 0 rfl
   have Vc1 := H5.cell 4 rfl 1 rfl
   have Vc2 := H5.cell 4 rfl 2 rfl
   have Vf0 := H5.free 4 rfl 0
   have Vf1 := H5.free 4 rfl 1
   have Vf2 := H5.free 4 rfl 2
   have Vl := H5.lt 4 rfl
   go_wp2_with fail
   have H6 : Sep w2 NoF [.row 81 3 (.slice la2 (L.length + 1) lc2) (L.length + 1) (rents L ++ [.int .i64 (f + (by' : Int)), .int .i64 cc.k, .string (strOf cc.d)]), .box (w2.heap.size) [.slice a10 s5.rest.length c10, .int .i64 (s5.bad : Nat)] 122, .box (w2.heap.size + 1) [.int .i64 (e0 : Int), .int .i64 (l0 : Int), .slice la2 (L.length + 1) lc2] 67] ((x8.setCell ⟨w2.heap.size + 1, 2, none⟩ (.slice la2 (L.length + 1) lc2))) := ((((((H5.set 4 rfl 2 (.slice la2 (L.length + 1) lc2)).drop 2).drop 3).focus 0 rfl).focus 2 rfl).focus 2 rfl)
   clear Vc0 Vc1 Vc2 Vf0 Vf1 Vf2 Vl
   clear H5
   generalize (x8.setCell ⟨w2.heap.size + 1, 2, none⟩ (.slice la2 (L.length + 1) lc2)) = x9 at *
   have HL9 := Zh (show (L ++ [(f + (by' : Int), cc)]).length = L.length + 1 by simp)
   have HF9 : Sep w2 NoF [.row 81 3 (.slice la2 (L ++ [(f + (by' : Int), cc)]).length lc2) (L ++ [(f + (by' : Int), cc)]).length (rents (L ++ [(f + (by' : Int), cc)])), .box w2.heap.size [.slice a10 s5.rest.length c10, .int .i64 (s5.bad : Nat)] 122, .box (w2.heap.size + 1) [.int .i64 (e0 : Int), .int .i64 (l0 : Int), .slice la2 (L ++ [(f + (by' : Int), cc)]).length lc2] 67] x9 := by
    rw [HL9.out, rents_append]
    exact H6
   clear H6
   go_wp2_with fail
   go_roundw
   case rel => exact ⟨k + 1, s5, f + (by' : Int) + 1, (L ++ [(f + (by' : Int), cc)]), la2, lc2, a10, c10, o2, by go_num, rfl, rfl, by omega, by omega, by omega, hfb7, HO2, Zh (fun hb => ⟨hm6, HFB.out (HSB.out hb)⟩), Zh (by rw [HL9.out, HL.out]), HNY, HY5, HF9⟩
   case measure => simp [intOf]; omega
  have HOE := Zh (rents_stop HC.out hgo)
  have HPF := Zh (show p = if s.fin ≠ 0 then (s.fin, U.zero) else if od = true then (2, U.zero) else (0, ⟨(e0 : Int), (l0 : Int), L⟩) from by rw [HPE.out, HOE.out, HOD.out]; rfl)
  have hsl := bytes_len HY.out
  have hen := fun wq => rend01_any s a' c' hsl wq
  obtain ⟨fn, hfn⟩ : ∃ n, n = s.fin := ⟨_, rfl⟩
  rw [← hfn] at hen HPF
  have HEN := Lib.hid' hen
  have hgo2 : m ≤ k ∨ (k < m ∧ ((s.bad : Int) == 0) = false) := by
   by_cases h1 : k < m
   ·exact .inr ⟨h1, by rw [beq_eq_false_iff_ne]; intro h2; exact hgo ⟨h1, by omega⟩⟩
   ·exact .inl (by omega)
  clear hen hfn HPE HC HM6 hgo HOE HOD
  rcases hgo2 with hge | ⟨hlt, hbb⟩
  all_goals
   have Rc0 := H0.cell 1 rfl 0 rfl
   have Rc1 := H0.cell 1 rfl 1 rfl
   have Rl := H0.lt 1 rfl
   go_wp2_with fail
   refine (HEN.out _).mono ?_
   rintro en x2 ⟨rfl, hba⟩
   have H1 : Sep w2 NoF [.row 81 3 (.slice la L.length lc) (L.length) (rents L), .box (w2.heap.size) [.slice a' s.rest.length c', .int .i64 (s.bad : Nat)] 122, .box (w2.heap.size + 1) [.int .i64 (e0 : Int), .int .i64 (l0 : Int), .slice la L.length lc] 67] (x2) := (H0.below hba)
   clear Rc0 Rc1 Rl
   clear H0 hba
   by_cases hf0 : fn = 0
   rotate_left
   ·skip
    have HNw := Zh (HN2.out.below (Nat.le_refl _) H1.toBelow)
    have HMw := Zh (HM2.out.below (Nat.le_refl _) H1.toBelow)
    have HBw := Zh (HB2.out.trans (H1.toBelow.mono HB2.out.size))
    have n0 := HNw.out.box.1 0 _ rfl
    have n1 := HNw.out.box.1 1 _ rfl
    have n2 := HNw.out.box.1 2 _ rfl
    have g0 := HNw.out.box.2.1 0
    have g1 := HNw.out.box.2.1 1
    have g2 := HNw.out.box.2.1 2
    have m0 := HMw.out.box.1 0 _ rfl
    have m1 := HMw.out.box.1 1 _ rfl
    have m2 := HMw.out.box.1 2 _ rfl
    have hnl := HNw.out.lt
    have hml := HMw.out.lt
    have HE := Zh (HERR.out x2 fn HBw.out (HPF.out.trans (if_pos hf0)))
    have hb1 : ((fn : Int) != 0) = true := by rw [bne_iff_ne]; omega
    clear hf0
    go_wp2
    refine bodyPost_ret (v := .tuple #[.agg #[.int .i64 0, .int .i64 0, .slice none 0 0], .int .i64 (fn : Nat)]) (by simp [results, Tryz.results26, go_sem, n0, n1, n2]) rfl HE.out
   have HPG := Zh (HPF.out.trans (if_neg (by simpa using hf0)))
   subst hf0
   cases od with
   | true =>
    have HNw := Zh (HN2.out.below (Nat.le_refl _) H1.toBelow)
    have HMw := Zh (HM2.out.below (Nat.le_refl _) H1.toBelow)
    have HBw := Zh (HB2.out.trans (H1.toBelow.mono HB2.out.size))
    have n0 := HNw.out.box.1 0 _ rfl
    have n1 := HNw.out.box.1 1 _ rfl
    have n2 := HNw.out.box.1 2 _ rfl
    have g0 := HNw.out.box.2.1 0
    have g1 := HNw.out.box.2.1 1
    have g2 := HNw.out.box.2.1 2
    have m0 := HMw.out.box.1 0 _ rfl
    have m1 := HMw.out.box.1 1 _ rfl
    have m2 := HMw.out.box.1 2 _ rfl
    have hnl := HNw.out.lt
    have hml := HMw.out.lt
    have HE := Zh (HERR.out x2 2 HBw.out (HPG.out.trans (if_pos rfl)))
    go_wp2
    refine bodyPost_ret (v := .tuple #[.agg #[.int .i64 0, .int .i64 0, .slice none 0 0], .int .i64 2]) (by simp [results, Tryz.results26, go_sem, n0, n1, n2]) rfl HE.out
   | false =>
    have Vc0 := H1.cell 2 rfl 0 rfl
    have Vc1 := H1.cell 2 rfl 1 rfl
    have Vc2 := H1.cell 2 rfl 2 rfl
    have Vl := H1.lt 2 rfl
    have HNw := Zh (HN2.out.below (Nat.le_refl _) H1.toBelow)
    have HMw := Zh (HM2.out.below (Nat.le_refl _) H1.toBelow)
    have HBw := Zh (HB2.out.trans (H1.toBelow.mono HB2.out.size))
    have n0 := HNw.out.box.1 0 _ rfl
    have n1 := HNw.out.box.1 1 _ rfl
    have n2 := HNw.out.box.1 2 _ rfl
    have g0 := HNw.out.box.2.1 0
    have g1 := HNw.out.box.2.1 1
    have g2 := HNw.out.box.2.1 2
    have m0 := HMw.out.box.1 0 _ rfl
    have m1 := HMw.out.box.1 1 _ rfl
    have m2 := HMw.out.box.1 2 _ rfl
    have hnl := HNw.out.lt
    have hml := HMw.out.lt
    have HRET := Zh (show RTakeU09R p w (.returned (.tuple #[.agg #[.int .i64 (e0 : Int), .int .i64 (l0 : Int), .slice la L.length lc], .int .i64 0])) (((x2.setCell ⟨w.heap.size, 0, none⟩ (.int .i64 (e0 : Int))).setCell ⟨w.heap.size, 1, none⟩ (.int .i64 (l0 : Int))).setCell ⟨w.heap.size, 2, none⟩ (.slice la L.length lc)) from by
     rw [HPG.out.trans (if_neg (by decide))]
     have ho := H1.own 0 rfl
     have hfr : Fr (fun q => q = w.heap.size) x2 (((x2.setCell ⟨w.heap.size, 0, none⟩ (.int .i64 (e0 : Int))).setCell ⟨w.heap.size, 1, none⟩ (.int .i64 (l0 : Int))).setCell ⟨w.heap.size, 2, none⟩ (.slice la L.length lc)) := ((fr_set _ _ _ _).trans (fr_set _ _ _ _) (fun i hi => .inl hi)).trans (fr_set _ _ _ _) (fun i hi => .inl hi)
     exact ⟨la, lc, rfl, own_base (own_fr ho hfr (own_slin ho (fun q hq e => by have := (own_blk ho hq).1; omega))) (by omega), (((HBw.out.setCell (by simp) _).setCell (by simp) _).setCell (by simp) _)⟩)
    go_wp2
    refine bodyPost_ret (v := .tuple #[.agg #[.int .i64 (e0 : Int), .int .i64 (l0 : Int), .slice la L.length lc], .int .i64 0]) (by simp [results, Tryz.results26, go_sem, Vc0, Vc1, Vc2, n0, n1, n2]) rfl HRET.out
end Go.Proofs.YtddlkkmdcfamiaaGreatDoor
