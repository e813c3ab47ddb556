/- Proved here: a part of the proof (11 of 12). -/
import Derived.Test.YtkhnbdbcaebdaaaGreatDoorQ10
import Derived.KernelRfl
import Derived.Lib.SliceRun
import Derived.Shelf.GgClosure.Gives
import Derived.Test.YtkhnbdbcaebdaaaGreatDoorSlzL
import Derived.Sort.OwnSortedInts
namespace Go.Proofs.YtkhnbdbcaebdaaaGreatDoor
open Go.RowKit
set_option linter.unusedSimpArgs false
set_option linter.unusedVariables false
set_option maxRecDepth 100000

def CTakeR (p : C × RD) (b : Nat) (w : World) (e : Ending) (w' : World) : Prop :=
  ∃ a c, e = .returned (.agg #[.int .i64 p.1.k, .slice a p.1.d.length c]) ∧ w'.ownsRow w.heap.size 5 1 (.slice a p.1.d.length c) p.1.d.length (byteVs p.1.d) ∧ RAt w' b p.2 ∧ Fr (fun k => k = b) w w'
theorem cell_eq {r s s2 : RD} {k : Nat} {d : List UInt8} (h1 : r.within 3 = (k, s)) (h2 : (if k = 1 then s.text 64 else ([], s)) = (d, s2)) : r.cell = if s2.bad ≠ 0 then (⟨0, []⟩, s2) else (⟨(k : Nat), d⟩, s2) := by
  unfold RD.cell
  rw [h1]
  simp only
  rw [h2]
set_option maxHeartbeats 4000000 in
theorem ctake_any (bR : Nat) (r : RD) (w : World) (h : RAt w bR r) : Calls Tryz.prog 138 #[.pointer (some ⟨bR, 0, none⟩)] w (CTakeR r.cell bR w) := by
  have HR := Lib.hid' h
  have hbl := h.lt
  clear h
  obtain ⟨p, hp⟩ : ∃ p, p = r.cell := ⟨_, rfl⟩
  have HP := Lib.hid' hp
  rw [← hp]
  clear hp
  go_enter Tryz.func138, Tryz.ntmps138
  go_wp2_with fail
  have H0 : Sep w (fun k => k = bR) [Asn.blk bR] w := Sep.blk0 hbl
  have hT : bR < w.heap.size := hbl
  have HRn := Lib.hid' (show RAt ((w.alloc (.cells #[.int .i64 0, .slice none 0 0] 57))) bR r from HR.out.hi ((Fr.refl (fun k => bR < k) _).allocH _))
  clear HR
  have H1 : Sep w (fun k => k = bR) [.box (w.heap.size) [.int .i64 0, .slice none 0 0] 57, Asn.blk bR] ((w.alloc (.cells #[.int .i64 0, .slice none 0 0] 57))) := (H0.allocAt (w.heap.size) [.int .i64 0, .slice none 0 0] 57 (by simp))
  clear H0
  generalize (w.alloc (.cells #[.int .i64 0, .slice none 0 0] 57)) = w1 at *
  have HR := HRn
  clear HRn
  obtain ⟨k, hk⟩ : ∃ k, k = (r.within 3).1 := ⟨_, rfl⟩
  obtain ⟨s, hs⟩ : ∃ s, s = (r.within 3).2 := ⟨_, rfl⟩
  have HK := Lib.hid' (show r.within 3 = (k, s) by rw [hk, hs])
  have hwi := within_r_any bR r 3 (by decide) w1 HR.out
  rw [← hk, ← hs] at hwi
  clear hk hs
  refine hwi.mono ?_
  clear hwi
  rintro en w2 ⟨rfl, hr2, hf2⟩
  have HR2 := Lib.hid' hr2
  have hz2 := hf2.size
  clear hr2 HR
  have H2 : Sep w (fun k => k = bR) [Asn.blk bR, .box (w.heap.size) [.int .i64 0, .slice none 0 0] 57] (w2) := (H1.rd 1 rfl hf2)
  clear H1 hf2
  by_cases hk1 : k = 1
  · skip
    subst hk1
    have Tc0 := H2.cell 1 rfl 0 rfl
    have Tc1 := H2.cell 1 rfl 1 rfl
    have Tl := H2.lt 1 rfl
    have hT2 : w.heap.size < w2.heap.size := Tl
    go_wp2_with fail
    have hC : bR < w2.heap.size := by omega
    have HRn := Lib.hid' (show RAt ((w2.alloc (.cells #[.int .i64 1, .slice none 0 0] 57))) bR s from HR2.out.hi ((Fr.refl (fun k => bR < k) _).allocH _))
    clear HR2
    have H3 : Sep w (fun k => k = bR) [.box (w2.heap.size) [.int .i64 1, .slice none 0 0] 57, Asn.blk bR, .box (w.heap.size) [.int .i64 0, .slice none 0 0] 57] ((w2.alloc (.cells #[.int .i64 1, .slice none 0 0] 57))) := (H2.allocAt (w2.heap.size) [.int .i64 1, .slice none 0 0] 57 (by simp))
    clear Tc0 Tc1 Tl
    clear H2
    generalize (w2.alloc (.cells #[.int .i64 1, .slice none 0 0] 57)) = w3 at *
    have HR2 := HRn
    clear HRn
    obtain ⟨x, hx⟩ : ∃ x, x = s.text 64 := ⟨_, rfl⟩
    have htx := text_r_any bR s 64 (by decide) w3 HR2.out
    rw [← hx] at htx
    have HX := Lib.hid' (show (if 1 = 1 then s.text 64 else ([], s)) = x from by rw [if_pos rfl, hx])
    clear hx
    obtain ⟨d, s2⟩ := x
    have HTX := Lib.hid' htx
    clear htx
    refine HTX.out.mono ?_
    clear HTX
    rintro en w4 ⟨ta, tc, rfl, ho, hr4, hf4⟩
    simp only at ho hr4 ⊢
    have HR4 := Lib.hid' hr4
    clear hr4 HR2
    have H4 : Sep w (fun k => k = bR) [.row 5 1 (.slice ta d.length tc) (d.length) (byteVs d), Asn.blk bR, .box (w2.heap.size) [.int .i64 1, .slice none 0 0] 57, .box (w.heap.size) [.int .i64 0, .slice none 0 0] 57] (w4) := (H3.rdRow 1 rfl hf4 ho)
    clear H3 hf4 ho
    have Cc0 := H4.cell 2 rfl 0 rfl
    have Cc1 := H4.cell 2 rfl 1 rfl
    have Cf0 := H4.free 2 rfl 0
    have Cf1 := H4.free 2 rfl 1
    have Cl := H4.lt 2 rfl
    go_upto_region 4 with fail
    have HRn := Lib.hid' (show RAt ((w4.setCell ⟨w2.heap.size, 1, none⟩ (.slice ta d.length tc))) bR s2 from HR4.out.hi ((Fr.refl (fun k => bR < k) _).setH (by omega) _ _))
    clear HR4
    have H5 : Sep w (fun k => k = bR) [.box (w2.heap.size) [.int .i64 1, .slice ta d.length tc] 57, .row 5 1 (.slice ta d.length tc) (d.length) (byteVs d), Asn.blk bR, .box (w.heap.size) [.int .i64 0, .slice none 0 0] 57] ((w4.setCell ⟨w2.heap.size, 1, none⟩ (.slice ta d.length tc))) := (H4.set 2 rfl 1 (.slice ta d.length tc))
    clear Cc0 Cc1 Cf0 Cf1 Cl
    clear H4
    generalize (w4.setCell ⟨w2.heap.size, 1, none⟩ (.slice ta d.length tc)) = w5 at *
    have HR4 := HRn
    clear HRn
    have HPE := Lib.hid' (show p = if s2.bad ≠ 0 then (⟨0, []⟩, s2) else (⟨((1 : Nat) : Int), d⟩, s2) from by rw [HP.out]; exact cell_eq HK.out HX.out)
    have HER := Lib.hid' (fun hh => err_any bR s2 w5 hh)
    obtain ⟨bd, hbd⟩ : ∃ n, n = s2.bad := ⟨_, rfl⟩
    rw [← hbd] at HPE HER
    clear hbd
    have Cc0 := H5.cell 0 rfl 0 rfl
    have Cc1 := H5.cell 0 rfl 1 rfl
    have Cl := H5.lt 0 rfl
    have Tc0 := H5.cell 3 rfl 0 rfl
    have Tc1 := H5.cell 3 rfl 1 rfl
    have Tf0 := H5.free 3 rfl 0
    have Tf1 := H5.free 3 rfl 1
    have Tl := H5.lt 3 rfl
    have CnT := H5.ne 0 3 rfl rfl (by decide)
    have TnC := H5.ne 3 0 rfl rfl (by decide)
    go_wp2_with fail
    refine (HER.out HR4.out).mono ?_
    rintro en wz ⟨rfl, rfl⟩
    by_cases hb0 : bd = 0
    · skip
      have HPE2 := Lib.hid' (show p = (⟨((1 : Nat) : Int), d⟩, s2) from HPE.out.trans (if_neg (by simpa using hb0)))
      rw [hb0, errV_0]
      clear hb0
      have HFF : Sep w (fun k => k = bR) [.box (w.heap.size) [.int .i64 1, .slice ta d.length tc] 57, .box (w2.heap.size) [.int .i64 1, .slice ta d.length tc] 57, .row 5 1 (.slice ta d.length tc) (d.length) (byteVs d), Asn.blk bR] (((w5.setCell ⟨w.heap.size, 0, none⟩ (.int .i64 1)).setCell ⟨w.heap.size, 1, none⟩ (.slice ta d.length tc))) := ((H5.set 3 rfl 0 (.int .i64 1)).set 0 rfl 1 (.slice ta d.length tc))
      have HRET := Lib.hid' (show CTakeR p bR w (.returned (.agg #[.int .i64 1, .slice ta d.length tc])) (((w5.setCell ⟨w.heap.size, 0, none⟩ (.int .i64 1)).setCell ⟨w.heap.size, 1, none⟩ (.slice ta d.length tc))) from by
        rw [HPE2.out]
        exact ⟨ta, tc, rfl, HFF.own1 2 3 (by decide) rfl rfl, HR4.out.hi (((Fr.refl (fun k => bR < k) _).setH (by omega) _ _).setH (by omega) _ _), HFF.fr⟩)
      clear HFF
      go_wp2
      refine bodyPost_ret (v := .agg #[.int .i64 1, .slice ta d.length tc]) (by simp [results, Tryz.results138, go_sem, Cc0, Cc1, Tc0, Tc1]) rfl HRET.out
    · skip
      have HPE2 := Lib.hid' (show p = (⟨0, []⟩, s2) from HPE.out.trans (if_pos hb0))
      rw [errV_pos hb0]
      clear hb0
      have HFF : Sep w (fun k => k = bR) [.box (w.heap.size) [.int .i64 0, .slice none 0 0] 57, .box (w2.heap.size) [.int .i64 1, .slice ta d.length tc] 57, .row 5 1 (.slice ta d.length tc) (d.length) (byteVs d), Asn.blk bR] (((w5.setCell ⟨w.heap.size, 0, none⟩ (.int .i64 0)).setCell ⟨w.heap.size, 1, none⟩ (.slice none 0 0))) := ((H5.set 3 rfl 0 (.int .i64 0)).set 0 rfl 1 (.slice none 0 0))
      have HRET := Lib.hid' (show CTakeR p bR w (.returned (.agg #[.int .i64 0, .slice none 0 0])) (((w5.setCell ⟨w.heap.size, 0, none⟩ (.int .i64 0)).setCell ⟨w.heap.size, 1, none⟩ (.slice none 0 0))) from by
        rw [HPE2.out]
        exact ⟨none, 0, rfl, own_nil _ _ _ _, HR4.out.hi (((Fr.refl (fun k => bR < k) _).setH (by omega) _ _).setH (by omega) _ _), HFF.fr⟩)
      clear HFF
      go_wp2
      refine bodyPost_ret (v := .agg #[.int .i64 0, .slice none 0 0]) (by simp [results, Tryz.results138, go_sem, Cc0, Cc1, Tc0, Tc1]) rfl HRET.out
  have hkb : ((k : Int) == 1) = false := by rw [beq_eq_false_iff_ne]; omega
  have HX := Lib.hid' (show (if k = 1 then s.text 64 else ([], s)) = ([], s) from if_neg hk1)
  clear hk1
  have Tc0 := H2.cell 1 rfl 0 rfl
  have Tc1 := H2.cell 1 rfl 1 rfl
  have Tl := H2.lt 1 rfl
  have hT2 : w.heap.size < w2.heap.size := Tl
  go_wp2_with fail
  have hC : bR < w2.heap.size := by omega
  have HRn := Lib.hid' (show RAt ((w2.alloc (.cells #[.int .i64 (k : Int), .slice none 0 0] 57))) bR s from HR2.out.hi ((Fr.refl (fun k => bR < k) _).allocH _))
  clear HR2
  have H3 : Sep w (fun k => k = bR) [.box (w2.heap.size) [.int .i64 (k : Int), .slice none 0 0] 57, Asn.blk bR, .box (w.heap.size) [.int .i64 0, .slice none 0 0] 57] ((w2.alloc (.cells #[.int .i64 (k : Int), .slice none 0 0] 57))) := (H2.allocAt (w2.heap.size) [.int .i64 (k : Int), .slice none 0 0] 57 (by simp))
  clear Tc0 Tc1 Tl
  clear H2
  generalize (w2.alloc (.cells #[.int .i64 (k : Int), .slice none 0 0] 57)) = w3 at *
  have HR2 := HRn
  clear HRn
  have HPE := Lib.hid' (show p = if s.bad ≠ 0 then (⟨0, []⟩, s) else (⟨((k : Nat) : Int), []⟩, s) from by rw [HP.out]; exact cell_eq HK.out HX.out)
  have HER := Lib.hid' (fun hh => err_any bR s w3 hh)
  obtain ⟨bd, hbd⟩ : ∃ n, n = s.bad := ⟨_, rfl⟩
  rw [← hbd] at HPE HER
  clear hbd
  have Cc0 := H3.cell 0 rfl 0 rfl
  have Cc1 := H3.cell 0 rfl 1 rfl
  have Cl := H3.lt 0 rfl
  have Tc0 := H3.cell 2 rfl 0 rfl
  have Tc1 := H3.cell 2 rfl 1 rfl
  have Tf0 := H3.free 2 rfl 0
  have Tf1 := H3.free 2 rfl 1
  have Tl := H3.lt 2 rfl
  have CnT := H3.ne 0 2 rfl rfl (by decide)
  have TnC := H3.ne 2 0 rfl rfl (by decide)
  refine (HER.out HR2.out).mono ?_
  rintro en wz ⟨rfl, rfl⟩
  by_cases hb0 : bd = 0
  · skip
    have HPE2 := Lib.hid' (show p = (⟨((k : Nat) : Int), []⟩, s) from HPE.out.trans (if_neg (by simpa using hb0)))
    rw [hb0, errV_0]
    clear hb0
    have HFF : Sep w (fun k => k = bR) [.box (w.heap.size) [.int .i64 (k : Int), .slice none 0 0] 57, .box (w2.heap.size) [.int .i64 (k : Int), .slice none 0 0] 57, Asn.blk bR] (((w3.setCell ⟨w.heap.size, 0, none⟩ (.int .i64 (k : Int))).setCell ⟨w.heap.size, 1, none⟩ (.slice none 0 0))) := ((H3.set 2 rfl 0 (.int .i64 (k : Int))).set 0 rfl 1 (.slice none 0 0))
    have HRET := Lib.hid' (show CTakeR p bR w (.returned (.agg #[.int .i64 (k : Int), .slice none 0 0])) (((w3.setCell ⟨w.heap.size, 0, none⟩ (.int .i64 (k : Int))).setCell ⟨w.heap.size, 1, none⟩ (.slice none 0 0))) from by
      rw [HPE2.out]
      exact ⟨none, 0, rfl, own_nil _ _ _ _, HR2.out.hi (((Fr.refl (fun k => bR < k) _).setH (by omega) _ _).setH (by omega) _ _), HFF.fr⟩)
    clear HFF
    go_wp2
    refine bodyPost_ret (v := .agg #[.int .i64 (k : Int), .slice none 0 0]) (by simp [results, Tryz.results138, go_sem, Cc0, Cc1, Tc0, Tc1]) rfl HRET.out
  · skip
    have HPE2 := Lib.hid' (show p = (⟨0, []⟩, s) from HPE.out.trans (if_pos hb0))
    rw [errV_pos hb0]
    clear hb0
    have HFF : Sep w (fun k => k = bR) [.box (w.heap.size) [.int .i64 0, .slice none 0 0] 57, .box (w2.heap.size) [.int .i64 (k : Int), .slice none 0 0] 57, Asn.blk bR] (((w3.setCell ⟨w.heap.size, 0, none⟩ (.int .i64 0)).setCell ⟨w.heap.size, 1, none⟩ (.slice none 0 0))) := ((H3.set 2 rfl 0 (.int .i64 0)).set 0 rfl 1 (.slice none 0 0))
    have HRET := Lib.hid' (show CTakeR p bR w (.returned (.agg #[.int .i64 0, .slice none 0 0])) (((w3.setCell ⟨w.heap.size, 0, none⟩ (.int .i64 0)).setCell ⟨w.heap.size, 1, none⟩ (.slice none 0 0))) from by
      rw [HPE2.out]
      exact ⟨none, 0, rfl, own_nil _ _ _ _, HR2.out.hi (((Fr.refl (fun k => bR < k) _).setH (by omega) _ _).setH (by omega) _ _), HFF.fr⟩)
    clear HFF
    go_wp2
    refine bodyPost_ret (v := .agg #[.int .i64 0, .slice none 0 0]) (by simp [results, Tryz.results138, go_sem, Cc0, Cc1, Tc0, Tc1]) rfl HRET.out
end Go.Proofs.YtkhnbdbcaebdaaaGreatDoor

namespace Go.Proofs.YtkhnbdbcaebdaaaGreatDoor
open Go.RowKit
set_option linter.unusedSimpArgs false
set_option linter.unusedVariables false
set_option maxRecDepth 100000

def datA (x : Ent) : Asn := .row 5 1 (.slice x.2.2.1 x.2.1.d.length x.2.2.2) x.2.1.d.length (byteVs x.2.1.d)
def EntsTR (p : List (Int × C) × RD) (b : Nat) (w : World) (en : Ending) (w' : World) : Prop :=
  ∃ (E : List Ent) (a : Option Addr) (c : Nat), en = .returned (.slice a E.length c) ∧ docE E = p.1 ∧ w'.ownsRow w.heap.size 121 3 (.slice a E.length c) E.length (ents E) ∧
    (∀ x ∈ E, w'.ownsRow w.heap.size 5 1 (.slice x.2.2.1 x.2.1.d.length x.2.2.2) x.2.1.d.length (byteVs x.2.1.d)) ∧ RAt w' b p.2 ∧ Fr (fun k => k = b) w w'
theorem ents_next {n k : Nat} {f : Int} {s : RD} {acc : List (Int × C)} {P : List (Int × C) × RD} (hk : k < n) (h : RD.ents (n - k) f s acc = P) :
    (if (s.by1 f).cell.2.bad ≠ 0 then ([], (s.by1 f).cell.2) else RD.ents (n - (k + 1)) (f + (s.num.1 : Nat) + 1) (s.by1 f).cell.2 (acc ++ [(f + (s.num.1 : Nat), (s.by1 f).cell.1)])) = P := by
  rw [show n - k = (n - (k + 1)) + 1 by omega] at h
  exact h
set_option maxHeartbeats 8000000 in
theorem rents_any (bR : Nat) (r : RD) (f0 : Int) (h0 : 0 ≤ f0) (h1 : f0 ≤ 1048576) (w : World) (h : RAt w bR r) :
    Calls Tryz.prog 101 #[.pointer (some ⟨bR, 0, none⟩), .int .i64 f0] w (EntsTR (RD.ents (min r.num.1 65536) f0 (if 65536 < r.num.1 then r.num.2.fail 3 else r.num.2) []) bR w) := by
  have HR := Lib.hid' h
  have hbl := h.lt
  clear h
  obtain ⟨m, hm⟩ : ∃ m, m = r.num.1 := ⟨_, rfl⟩
  obtain ⟨s, hs⟩ : ∃ s, s = r.num.2 := ⟨_, rfl⟩
  have hmlt : m < 18446744073709551616 := by rw [hm]; exact RD.num_lt r
  have hnu := fun wq hq => number_any bR r wq hq
  rw [← hm, ← hs] at hnu ⊢
  have HNU := Lib.hid' hnu
  clear hnu hm hs
  obtain ⟨n, hn⟩ : ∃ n, n = min m 65536 := ⟨_, rfl⟩
  have hn6 : n ≤ 65536 := by omega
  have HMN := Lib.hid' (show min (m : Int) 65536 = (n : Int) by omega)
  obtain ⟨s0, hs0⟩ : ∃ s0, s0 = if 65536 < m then s.fail 3 else s := ⟨_, rfl⟩
  rw [← hn, ← hs0]
  obtain ⟨P, hP⟩ : ∃ P, P = RD.ents n f0 s0 [] := ⟨_, rfl⟩
  rw [← hP]
  have HC := Lib.hid' (show RD.ents (n - 0) f0 s0 [] = P from hP.symm)
  clear hP
  go_enter Tryz.func101, Tryz.ntmps101
  go_wp2_with fail
  have H0 : Sep w (fun k => k = bR) [Asn.blk bR] w := Sep.blk0 hbl
  refine (HNU.out w HR.out).mono ?_
  clear HNU
  rintro en w1 ⟨rfl, hr1, hf1⟩
  have HR1 := Lib.hid' hr1
  clear hr1
  have H1 : Sep w (fun k => k = bR) [Asn.blk bR] (w1) := (H0.rd 0 rfl hf1)
  clear H0 hf1
  by_cases h6 : 65536 < m
  · skip
    rw [if_pos h6] at hs0
    subst hs0
    go_wp2_with fail
    refine (fail_any bR s 3 (by decide) w1 HR1.out).mono ?_
    rintro en w2 ⟨rfl, hr2, hf2⟩
    have HR2 := Lib.hid' hr2
    clear hr2 HR1
    have H2 : Sep w (fun k => k = bR) [Asn.blk bR] (w2) := (H1.rd 0 rfl hf2)
    clear H1 hf2
    obtain ⟨s0, hs0⟩ : ∃ s0, s0 = s.fail 3 := ⟨_, rfl⟩
    rw [← hs0] at HC HR2
    clear hs0
    clear hn
    go_wp2_with fail
    have H3 : Sep w (fun k => k = bR) [Asn.all (([] : List Ent).map datA), .row 121 3 (.slice none 0 0) (0) ([]), Asn.blk bR] (w2) := ((H2.nilRow 121 3).none datA)
    clear H2
    go_loopw [18, 1, 6] (fun v18 v1 v6 wr => ∃ (k : Nat) (s : RD) (f : Int) (E : List Ent) (la : Option Addr) (lc : Nat), v18 = .int .u64 k ∧ v1 = .int .i64 f ∧ v6 = .slice la E.length lc ∧ k ≤ n ∧ 0 ≤ f ∧ f ≤ 1048576 ∧ Hid (E.length = k) ∧ Hid (RD.ents (n - k) f s (docE E) = P) ∧ Hid (RAt wr bR s) ∧ Sep w (fun k => k = bR) [Asn.all (E.map datA), .row 121 3 (.slice la E.length lc) E.length (ents E), Asn.blk bR] wr) (fun v18 _ _ _ => n - (intOf v18).toNat)
    case atStart => exact ⟨0, s0, f0, [], none, 0, rfl, rfl, rfl, Nat.zero_le _, h0, h1, Lib.hid' rfl, HC, HR2, H3⟩
    case round =>
      clear HC HR2 H3 h0 h1
      obtain ⟨k, s, f, E, la, lc, rfl, rfl, rfl, hk, h0, h1, HL, HC, HR, H0⟩ := hrel
      by_cases hlt : k < n
      · skip
        have hgo : decide ((k : Int) < min (m : Int) 65536) = true := decide_eq_true (by have := HMN.out; omega)
        have HNX := Lib.hid' (ents_next hlt HC.out)
        have hel : E.length ≤ 65536 := by have := HL.out; omega
        obtain ⟨by', hby⟩ : ∃ m, m = s.num.1 := ⟨_, rfl⟩
        obtain ⟨s1, hs1⟩ : ∃ s1, s1 = s.num.2 := ⟨_, rfl⟩
        have hblt : by' < 18446744073709551616 := by rw [hby]; exact RD.num_lt s
        have HBY1 := Lib.hid' (show s.by1 f = if (1048576 - f).toNat ≤ by' then s1.fail 1 else s1 by rw [hby, hs1]; rfl)
        have hnu := number_any bR s wr HR.out
        rw [← hby] at HNX
        rw [← hby, ← hs1] at hnu
        have HNU := Lib.hid' hnu
        clear hnu hby hs1 HC
        go_wp2_with fail
        refine HNU.out.mono ?_
        clear HNU
        rintro en w1 ⟨rfl, hr1, hf1⟩
        have HR1 := Lib.hid' hr1
        clear hr1 HR
        have H1 : Sep w (fun k => k = bR) [Asn.blk bR, Asn.all (E.map datA), .row 121 3 (.slice la E.length lc) (E.length) (ents E)] (w1) := (H0.rd 2 rfl hf1)
        clear H0 hf1
        by_cases hrg : (1048576 - f).toNat ≤ by'
        · skip
          rw [if_pos hrg] at HBY1
          have hrg2 : (1048576 - f) ≤ (by' : Int) := by omega
          clear hrg
          go_wp2_with fail
          refine (fail_any bR s1 1 (by decide) w1 HR1.out).mono ?_
          rintro en w2 ⟨rfl, hr2, hf2⟩
          have HR2 := Lib.hid' hr2
          clear hr2 HR1
          have H2 : Sep w (fun k => k = bR) [Asn.blk bR, Asn.all (E.map datA), .row 121 3 (.slice la E.length lc) (E.length) (ents E)] (w2) := (H1.rd 0 rfl hf2)
          clear H1 hf2
          go_wp2_with fail
          obtain ⟨q, hq⟩ : ∃ q, q = (s1.fail 1).cell := ⟨_, rfl⟩
          have hct := ctake_any bR (s1.fail 1) w2 HR2.out
          rw [← hq] at hct
          rw [HBY1.out, ← hq] at HNX

          have HBD := Lib.hid' (show q.2.bad ≠ 0 by rw [hq, RD.cell_bad (RD.fail_bad _ (by decide))]; exact RD.fail_bad _ (by decide))
          obtain ⟨cc, s2⟩ := q
          simp only at HNX hct
          have HCT := Lib.hid' hct
          clear hct hq
          refine HCT.out.mono ?_
          clear HCT
          rintro en w3 ⟨da, dc, rfl, ho, hr3, hf3⟩
          simp only at ho hr3 ⊢
          have HR3 := Lib.hid' hr3
          clear hr3 HR2
          have H3 : Sep w (fun k => k = bR) [.row 5 1 (.slice da cc.d.length dc) (cc.d.length) (byteVs cc.d), Asn.blk bR, Asn.all (E.map datA), .row 121 3 (.slice la E.length lc) (E.length) (ents E)] (w3) := (H2.rdRow 0 rfl hf3 ho)
          clear H2 hf3 ho
          have hB3 : bR < w3.heap.size := HR3.out.lt
          go_wp2_with fail
          have HRn := Lib.hid' (show RAt ((w3.alloc (.cells #[.int .i64 0, .int .i64 cc.k, .slice da cc.d.length dc] 121))) bR s2 from HR3.out.hi ((Fr.refl (fun k => bR < k) _).allocH _))
          clear HR3
          have H4 : Sep w (fun k => k = bR) [.box (w3.heap.size) [.int .i64 0, .int .i64 cc.k, .slice da cc.d.length dc] 121, .row 5 1 (.slice da cc.d.length dc) (cc.d.length) (byteVs cc.d), Asn.blk bR, Asn.all (E.map datA), .row 121 3 (.slice la E.length lc) (E.length) (ents E)] ((w3.alloc (.cells #[.int .i64 0, .int .i64 cc.k, .slice da cc.d.length dc] 121))) := (H3.allocAt (w3.heap.size) [.int .i64 0, .int .i64 cc.k, .slice da cc.d.length dc] 121 (by simp))
          clear H3
          generalize (w3.alloc (.cells #[.int .i64 0, .int .i64 cc.k, .slice da cc.d.length dc] 121)) = w4 at *
          have HR3 := HRn
          clear HRn
          have HER := Lib.hid' (err_any bR s2 w4 HR3.out)
          obtain ⟨bd, hbd⟩ : ∃ n, n = s2.bad := ⟨_, rfl⟩
          rw [← hbd] at HER HNX
          have hb0 : bd ≠ 0 := by rw [hbd]; exact HBD.out
          clear HBD
          clear hbd
          refine HER.out.mono ?_
          clear HER
          rintro en wz ⟨rfl, rfl⟩
          have HPE := Lib.hid' (show ([], s2) = P by have := HNX.out; rwa [if_pos hb0] at this)
          rw [errV_pos hb0]
          clear hb0
          go_wp2
          go_ret
          rw [← HPE.out]
          exact ⟨[], none, 0, rfl, rfl, own_nil _ _ _ _, by simp, HR3.out, H4.fr⟩
        rw [if_neg hrg] at HBY1
        have hrg2 : ¬ (1048576 - f) ≤ (by' : Int) := by omega
        go_wp2_with fail
        obtain ⟨q, hq⟩ : ∃ q, q = (s1).cell := ⟨_, rfl⟩
        have hct := ctake_any bR (s1) w1 HR1.out
        rw [← hq] at hct
        rw [HBY1.out, ← hq] at HNX

        obtain ⟨cc, s2⟩ := q
        simp only at HNX hct
        have HCT := Lib.hid' hct
        clear hct hq
        refine HCT.out.mono ?_
        clear HCT
        rintro en w3 ⟨da, dc, rfl, ho, hr3, hf3⟩
        simp only at ho hr3 ⊢
        have HR3 := Lib.hid' hr3
        clear hr3 HR1
        have H2 : Sep w (fun k => k = bR) [.row 5 1 (.slice da cc.d.length dc) (cc.d.length) (byteVs cc.d), Asn.blk bR, Asn.all (E.map datA), .row 121 3 (.slice la E.length lc) (E.length) (ents E)] (w3) := (H1.rdRow 0 rfl hf3 ho)
        clear H1 hf3 ho
        have hB3 : bR < w3.heap.size := HR3.out.lt
        go_wp2_with fail
        have HRn := Lib.hid' (show RAt ((w3.alloc (.cells #[.int .i64 0, .int .i64 cc.k, .slice da cc.d.length dc] 121))) bR s2 from HR3.out.hi ((Fr.refl (fun k => bR < k) _).allocH _))
        clear HR3
        have H3 : Sep w (fun k => k = bR) [.box (w3.heap.size) [.int .i64 0, .int .i64 cc.k, .slice da cc.d.length dc] 121, .row 5 1 (.slice da cc.d.length dc) (cc.d.length) (byteVs cc.d), Asn.blk bR, Asn.all (E.map datA), .row 121 3 (.slice la E.length lc) (E.length) (ents E)] ((w3.alloc (.cells #[.int .i64 0, .int .i64 cc.k, .slice da cc.d.length dc] 121))) := (H2.allocAt (w3.heap.size) [.int .i64 0, .int .i64 cc.k, .slice da cc.d.length dc] 121 (by simp))
        clear H2
        generalize (w3.alloc (.cells #[.int .i64 0, .int .i64 cc.k, .slice da cc.d.length dc] 121)) = w4 at *
        have HR3 := HRn
        clear HRn
        have HER := Lib.hid' (err_any bR s2 w4 HR3.out)
        obtain ⟨bd, hbd⟩ : ∃ n, n = s2.bad := ⟨_, rfl⟩
        rw [← hbd] at HER HNX
        clear hbd
        refine HER.out.mono ?_
        clear HER
        rintro en wz ⟨rfl, rfl⟩
        by_cases hb0 : bd ≠ 0
        · skip
          have HPE := Lib.hid' (show ([], s2) = P by have := HNX.out; rwa [if_pos hb0] at this)
          rw [errV_pos hb0]
          clear hb0
          go_wp2
          go_ret
          rw [← HPE.out]
          exact ⟨[], none, 0, rfl, rfl, own_nil _ _ _ _, by simp, HR3.out, H3.fr⟩
        have hb1 : bd = 0 := by simpa using hb0
        have HNN := Lib.hid' (show RD.ents (n - (k + 1)) (f + (by' : Nat) + 1) s2 (docE E ++ [(f + (by' : Nat), cc)]) = P by have := HNX.out; rwa [if_neg hb0] at this)
        rw [hb1, errV_0]
        clear hb0 hb1 HNX
        have g0 : 0 ≤ f + (by' : Int) := by omega
        have g1 : f + (by' : Int) < 1048576 := by omega
        have Ec0 := H3.cell 0 rfl 0 rfl
        have Ec1 := H3.cell 0 rfl 1 rfl
        have Ec2 := H3.cell 0 rfl 2 rfl
        have Ef0 := H3.free 0 rfl 0
        have Ef1 := H3.free 0 rfl 1
        have Ef2 := H3.free 0 rfl 2
        have El := H3.lt 0 rfl
        go_upto_region 15 with fail
        have HRn := Lib.hid' (show RAt ((w4.setCell ⟨w3.heap.size, 0, none⟩ (.int .i64 (f + (by' : Int))))) bR s2 from HR3.out.hi ((Fr.refl (fun k => bR < k) _).setH (by omega) _ _))
        clear HR3
        have H4 : Sep w (fun k => k = bR) [.box (w3.heap.size) [.int .i64 (f + (by' : Int)), .int .i64 cc.k, .slice da cc.d.length dc] 121, .row 5 1 (.slice da cc.d.length dc) (cc.d.length) (byteVs cc.d), Asn.blk bR, Asn.all (E.map datA), .row 121 3 (.slice la E.length lc) (E.length) (ents E)] ((w4.setCell ⟨w3.heap.size, 0, none⟩ (.int .i64 (f + (by' : Int))))) := (H3.set 0 rfl 0 (.int .i64 (f + (by' : Int))))
        clear Ec0 Ec1 Ec2 Ef0 Ef1 Ef2 El
        clear H3
        generalize (w4.setCell ⟨w3.heap.size, 0, none⟩ (.int .i64 (f + (by' : Int)))) = w5 at *
        have HR3 := HRn
        clear HRn
        have Ec0 := H4.cell 0 rfl 0 rfl
        have Ec1 := H4.cell 0 rfl 1 rfl
        have Ec2 := H4.cell 0 rfl 2 rfl
        have El := H4.lt 0 rfl
        have HRH := Lib.hid' (H4.rowHi hbl 4 2 (by decide) rfl rfl)
        go_wp2_with (at_builtin; refine Sep.appendF etEnt rfl (.tmp 44) (.tmp 46) rfl [.int .i64 (f + (by' : Int)), .int .i64 cc.k, .slice da cc.d.length dc] rfl H4 4 rfl rfl rfl (by simp [Value.oneCell']) (by omega) ?_)
        intro la2 lc2 w6 HA hfa
        have H5 : Sep w (fun k => k = bR) [.row 121 3 (.slice la2 (E.length + 1) lc2) (E.length + 1) (ents E ++ [.int .i64 (f + (by' : Int)), .int .i64 cc.k, .slice da cc.d.length dc]), .box (w3.heap.size) [.int .i64 (f + (by' : Int)), .int .i64 cc.k, .slice da cc.d.length dc] 121, .row 5 1 (.slice da cc.d.length dc) (cc.d.length) (byteVs cc.d), Asn.blk bR, Asn.all (E.map datA)] (w6) := HA
        clear Ec0 Ec1 Ec2 El
        clear HA H4
        have HR6 := Lib.hid' (HR3.out.high hfa HRH.out)
        clear hfa HRH HR3
        go_wp2_with fail
        have H6 : Sep w (fun k => k = bR) [.row 5 1 (.slice da cc.d.length dc) (cc.d.length) (byteVs cc.d), Asn.all (E.map datA), .row 121 3 (.slice la2 (E.length + 1) lc2) (E.length + 1) (ents E ++ [.int .i64 (f + (by' : Int)), .int .i64 cc.k, .slice da cc.d.length dc]), Asn.blk bR] (w6) := (((((H5.drop 1).focus 2 rfl).focus 1 rfl).focus 3 rfl).focus 3 rfl)
        clear H5
        have HL9 := Lib.hid' (show (E ++ [((f + (by' : Int)), cc, da, dc)]).length = E.length + 1 by simp)
        have HF9 : Sep w (fun k => k = bR) [Asn.all ((E ++ [((f + (by' : Int)), cc, da, dc)]).map datA), .row 121 3 (.slice la2 (E ++ [((f + (by' : Int)), cc, da, dc)]).length lc2) (E ++ [((f + (by' : Int)), cc, da, dc)]).length (ents (E ++ [((f + (by' : Int)), cc, da, dc)])), Asn.blk bR] w6 := by
          have h9 := Sep.push datA (y := ((f + (by' : Int)), cc, da, dc)) (Ks := E) H6
          rw [HL9.out, ents_append]
          exact h9
        clear H6
        go_roundw
        case rel => exact ⟨k + 1, s2, f + (by' : Int) + 1, E ++ [((f + (by' : Int)), cc, da, dc)], la2, lc2, by go_num, rfl, by rw [HL9.out], by omega, by omega, by omega, Lib.hid' (by rw [HL9.out, HL.out]), Lib.hid' (by unfold docE at *; rw [List.map_append]; exact HNN.out), HR6, HF9⟩
        case measure => simp [intOf]; omega
      obtain rfl : k = n := by omega
      have hgo : decide ((k : Int) < min (m : Int) 65536) = false := decide_eq_false (by have := HMN.out; omega)
      have HPE := Lib.hid' (show (docE E, s) = P by have := HC.out; rwa [Nat.sub_self] at this)
      go_wp2
      go_ret
      rw [← HPE.out]
      exact ⟨E, la, lc, rfl, rfl, H0.own1 1 2 (by decide) rfl rfl, fun x hx => H0.oneAt datA 0 2 (by decide) rfl rfl hx rfl, HR.out, H0.fr⟩
  · skip
    rw [if_neg h6] at hs0
    subst hs0
    clear hn
    go_wp2_with fail
    have H2 : Sep w (fun k => k = bR) [Asn.all (([] : List Ent).map datA), .row 121 3 (.slice none 0 0) (0) ([]), Asn.blk bR] (w1) := ((H1.nilRow 121 3).none datA)
    clear H1
    go_loopw [18, 1, 6] (fun v18 v1 v6 wr => ∃ (k : Nat) (s : RD) (f : Int) (E : List Ent) (la : Option Addr) (lc : Nat), v18 = .int .u64 k ∧ v1 = .int .i64 f ∧ v6 = .slice la E.length lc ∧ k ≤ n ∧ 0 ≤ f ∧ f ≤ 1048576 ∧ Hid (E.length = k) ∧ Hid (RD.ents (n - k) f s (docE E) = P) ∧ Hid (RAt wr bR s) ∧ Sep w (fun k => k = bR) [Asn.all (E.map datA), .row 121 3 (.slice la E.length lc) E.length (ents E), Asn.blk bR] wr) (fun v18 _ _ _ => n - (intOf v18).toNat)
    case atStart => exact ⟨0, s0, f0, [], none, 0, rfl, rfl, rfl, Nat.zero_le _, h0, h1, Lib.hid' rfl, HC, HR1, H2⟩
    case round =>
      clear HC HR1 H2 h0 h1
      obtain ⟨k, s, f, E, la, lc, rfl, rfl, rfl, hk, h0, h1, HL, HC, HR, H0⟩ := hrel
      by_cases hlt : k < n
      · skip
        have hgo : decide ((k : Int) < min (m : Int) 65536) = true := decide_eq_true (by have := HMN.out; omega)
        have HNX := Lib.hid' (ents_next hlt HC.out)
        have hel : E.length ≤ 65536 := by have := HL.out; omega
        obtain ⟨by', hby⟩ : ∃ m, m = s.num.1 := ⟨_, rfl⟩
        obtain ⟨s1, hs1⟩ : ∃ s1, s1 = s.num.2 := ⟨_, rfl⟩
        have hblt : by' < 18446744073709551616 := by rw [hby]; exact RD.num_lt s
        have HBY1 := Lib.hid' (show s.by1 f = if (1048576 - f).toNat ≤ by' then s1.fail 1 else s1 by rw [hby, hs1]; rfl)
        have hnu := number_any bR s wr HR.out
        rw [← hby] at HNX
        rw [← hby, ← hs1] at hnu
        have HNU := Lib.hid' hnu
        clear hnu hby hs1 HC
        go_wp2_with fail
        refine HNU.out.mono ?_
        clear HNU
        rintro en w1 ⟨rfl, hr1, hf1⟩
        have HR1 := Lib.hid' hr1
        clear hr1 HR
        have H1 : Sep w (fun k => k = bR) [Asn.blk bR, Asn.all (E.map datA), .row 121 3 (.slice la E.length lc) (E.length) (ents E)] (w1) := (H0.rd 2 rfl hf1)
        clear H0 hf1
        by_cases hrg : (1048576 - f).toNat ≤ by'
        · skip
          rw [if_pos hrg] at HBY1
          have hrg2 : (1048576 - f) ≤ (by' : Int) := by omega
          clear hrg
          go_wp2_with fail
          refine (fail_any bR s1 1 (by decide) w1 HR1.out).mono ?_
          rintro en w2 ⟨rfl, hr2, hf2⟩
          have HR2 := Lib.hid' hr2
          clear hr2 HR1
          have H2 : Sep w (fun k => k = bR) [Asn.blk bR, Asn.all (E.map datA), .row 121 3 (.slice la E.length lc) (E.length) (ents E)] (w2) := (H1.rd 0 rfl hf2)
          clear H1 hf2
          go_wp2_with fail
          obtain ⟨q, hq⟩ : ∃ q, q = (s1.fail 1).cell := ⟨_, rfl⟩
          have hct := ctake_any bR (s1.fail 1) w2 HR2.out
          rw [← hq] at hct
          rw [HBY1.out, ← hq] at HNX

          have HBD := Lib.hid' (show q.2.bad ≠ 0 by rw [hq, RD.cell_bad (RD.fail_bad _ (by decide))]; exact RD.fail_bad _ (by decide))
          obtain ⟨cc, s2⟩ := q
          simp only at HNX hct
          have HCT := Lib.hid' hct
          clear hct hq
          refine HCT.out.mono ?_
          clear HCT
          rintro en w3 ⟨da, dc, rfl, ho, hr3, hf3⟩
          simp only at ho hr3 ⊢
          have HR3 := Lib.hid' hr3
          clear hr3 HR2
          have H3 : Sep w (fun k => k = bR) [.row 5 1 (.slice da cc.d.length dc) (cc.d.length) (byteVs cc.d), Asn.blk bR, Asn.all (E.map datA), .row 121 3 (.slice la E.length lc) (E.length) (ents E)] (w3) := (H2.rdRow 0 rfl hf3 ho)
          clear H2 hf3 ho
          have hB3 : bR < w3.heap.size := HR3.out.lt
          go_wp2_with fail
          have HRn := Lib.hid' (show RAt ((w3.alloc (.cells #[.int .i64 0, .int .i64 cc.k, .slice da cc.d.length dc] 121))) bR s2 from HR3.out.hi ((Fr.refl (fun k => bR < k) _).allocH _))
          clear HR3
          have H4 : Sep w (fun k => k = bR) [.box (w3.heap.size) [.int .i64 0, .int .i64 cc.k, .slice da cc.d.length dc] 121, .row 5 1 (.slice da cc.d.length dc) (cc.d.length) (byteVs cc.d), Asn.blk bR, Asn.all (E.map datA), .row 121 3 (.slice la E.length lc) (E.length) (ents E)] ((w3.alloc (.cells #[.int .i64 0, .int .i64 cc.k, .slice da cc.d.length dc] 121))) := (H3.allocAt (w3.heap.size) [.int .i64 0, .int .i64 cc.k, .slice da cc.d.length dc] 121 (by simp))
          clear H3
          generalize (w3.alloc (.cells #[.int .i64 0, .int .i64 cc.k, .slice da cc.d.length dc] 121)) = w4 at *
          have HR3 := HRn
          clear HRn
          have HER := Lib.hid' (err_any bR s2 w4 HR3.out)
          obtain ⟨bd, hbd⟩ : ∃ n, n = s2.bad := ⟨_, rfl⟩
          rw [← hbd] at HER HNX
          have hb0 : bd ≠ 0 := by rw [hbd]; exact HBD.out
          clear HBD
          clear hbd
          refine HER.out.mono ?_
          clear HER
          rintro en wz ⟨rfl, rfl⟩
          have HPE := Lib.hid' (show ([], s2) = P by have := HNX.out; rwa [if_pos hb0] at this)
          rw [errV_pos hb0]
          clear hb0
          go_wp2
          go_ret
          rw [← HPE.out]
          exact ⟨[], none, 0, rfl, rfl, own_nil _ _ _ _, by simp, HR3.out, H4.fr⟩
        rw [if_neg hrg] at HBY1
        have hrg2 : ¬ (1048576 - f) ≤ (by' : Int) := by omega
        go_wp2_with fail
        obtain ⟨q, hq⟩ : ∃ q, q = (s1).cell := ⟨_, rfl⟩
        have hct := ctake_any bR (s1) w1 HR1.out
        rw [← hq] at hct
        rw [HBY1.out, ← hq] at HNX

        obtain ⟨cc, s2⟩ := q
        simp only at HNX hct
        have HCT := Lib.hid' hct
        clear hct hq
        refine HCT.out.mono ?_
        clear HCT
        rintro en w3 ⟨da, dc, rfl, ho, hr3, hf3⟩
        simp only at ho hr3 ⊢
        have HR3 := Lib.hid' hr3
        clear hr3 HR1
        have H2 : Sep w (fun k => k = bR) [.row 5 1 (.slice da cc.d.length dc) (cc.d.length) (byteVs cc.d), Asn.blk bR, Asn.all (E.map datA), .row 121 3 (.slice la E.length lc) (E.length) (ents E)] (w3) := (H1.rdRow 0 rfl hf3 ho)
        clear H1 hf3 ho
        have hB3 : bR < w3.heap.size := HR3.out.lt
        go_wp2_with fail
        have HRn := Lib.hid' (show RAt ((w3.alloc (.cells #[.int .i64 0, .int .i64 cc.k, .slice da cc.d.length dc] 121))) bR s2 from HR3.out.hi ((Fr.refl (fun k => bR < k) _).allocH _))
        clear HR3
        have H3 : Sep w (fun k => k = bR) [.box (w3.heap.size) [.int .i64 0, .int .i64 cc.k, .slice da cc.d.length dc] 121, .row 5 1 (.slice da cc.d.length dc) (cc.d.length) (byteVs cc.d), Asn.blk bR, Asn.all (E.map datA), .row 121 3 (.slice la E.length lc) (E.length) (ents E)] ((w3.alloc (.cells #[.int .i64 0, .int .i64 cc.k, .slice da cc.d.length dc] 121))) := (H2.allocAt (w3.heap.size) [.int .i64 0, .int .i64 cc.k, .slice da cc.d.length dc] 121 (by simp))
        clear H2
        generalize (w3.alloc (.cells #[.int .i64 0, .int .i64 cc.k, .slice da cc.d.length dc] 121)) = w4 at *
        have HR3 := HRn
        clear HRn
        have HER := Lib.hid' (err_any bR s2 w4 HR3.out)
        obtain ⟨bd, hbd⟩ : ∃ n, n = s2.bad := ⟨_, rfl⟩
        rw [← hbd] at HER HNX
        clear hbd
        refine HER.out.mono ?_
        clear HER
        rintro en wz ⟨rfl, rfl⟩
        by_cases hb0 : bd ≠ 0
        · skip
          have HPE := Lib.hid' (show ([], s2) = P by have := HNX.out; rwa [if_pos hb0] at this)
          rw [errV_pos hb0]
          clear hb0
          go_wp2
          go_ret
          rw [← HPE.out]
          exact ⟨[], none, 0, rfl, rfl, own_nil _ _ _ _, by simp, HR3.out, H3.fr⟩
        have hb1 : bd = 0 := by simpa using hb0
        have HNN := Lib.hid' (show RD.ents (n - (k + 1)) (f + (by' : Nat) + 1) s2 (docE E ++ [(f + (by' : Nat), cc)]) = P by have := HNX.out; rwa [if_neg hb0] at this)
        rw [hb1, errV_0]
        clear hb0 hb1 HNX
        have g0 : 0 ≤ f + (by' : Int) := by omega
        have g1 : f + (by' : Int) < 1048576 := by omega
        have Ec0 := H3.cell 0 rfl 0 rfl
        have Ec1 := H3.cell 0 rfl 1 rfl
        have Ec2 := H3.cell 0 rfl 2 rfl
        have Ef0 := H3.free 0 rfl 0
        have Ef1 := H3.free 0 rfl 1
        have Ef2 := H3.free 0 rfl 2
        have El := H3.lt 0 rfl
        go_upto_region 15 with fail
        have HRn := Lib.hid' (show RAt ((w4.setCell ⟨w3.heap.size, 0, none⟩ (.int .i64 (f + (by' : Int))))) bR s2 from HR3.out.hi ((Fr.refl (fun k => bR < k) _).setH (by omega) _ _))
        clear HR3
        have H4 : Sep w (fun k => k = bR) [.box (w3.heap.size) [.int .i64 (f + (by' : Int)), .int .i64 cc.k, .slice da cc.d.length dc] 121, .row 5 1 (.slice da cc.d.length dc) (cc.d.length) (byteVs cc.d), Asn.blk bR, Asn.all (E.map datA), .row 121 3 (.slice la E.length lc) (E.length) (ents E)] ((w4.setCell ⟨w3.heap.size, 0, none⟩ (.int .i64 (f + (by' : Int))))) := (H3.set 0 rfl 0 (.int .i64 (f + (by' : Int))))
        clear Ec0 Ec1 Ec2 Ef0 Ef1 Ef2 El
        clear H3
        generalize (w4.setCell ⟨w3.heap.size, 0, none⟩ (.int .i64 (f + (by' : Int)))) = w5 at *
        have HR3 := HRn
        clear HRn
        have Ec0 := H4.cell 0 rfl 0 rfl
        have Ec1 := H4.cell 0 rfl 1 rfl
        have Ec2 := H4.cell 0 rfl 2 rfl
        have El := H4.lt 0 rfl
        have HRH := Lib.hid' (H4.rowHi hbl 4 2 (by decide) rfl rfl)
        go_wp2_with (at_builtin; refine Sep.appendF etEnt rfl (.tmp 44) (.tmp 46) rfl [.int .i64 (f + (by' : Int)), .int .i64 cc.k, .slice da cc.d.length dc] rfl H4 4 rfl rfl rfl (by simp [Value.oneCell']) (by omega) ?_)
        intro la2 lc2 w6 HA hfa
        have H5 : Sep w (fun k => k = bR) [.row 121 3 (.slice la2 (E.length + 1) lc2) (E.length + 1) (ents E ++ [.int .i64 (f + (by' : Int)), .int .i64 cc.k, .slice da cc.d.length dc]), .box (w3.heap.size) [.int .i64 (f + (by' : Int)), .int .i64 cc.k, .slice da cc.d.length dc] 121, .row 5 1 (.slice da cc.d.length dc) (cc.d.length) (byteVs cc.d), Asn.blk bR, Asn.all (E.map datA)] (w6) := HA
        clear Ec0 Ec1 Ec2 El
        clear HA H4
        have HR6 := Lib.hid' (HR3.out.high hfa HRH.out)
        clear hfa HRH HR3
        go_wp2_with fail
        have H6 : Sep w (fun k => k = bR) [.row 5 1 (.slice da cc.d.length dc) (cc.d.length) (byteVs cc.d), Asn.all (E.map datA), .row 121 3 (.slice la2 (E.length + 1) lc2) (E.length + 1) (ents E ++ [.int .i64 (f + (by' : Int)), .int .i64 cc.k, .slice da cc.d.length dc]), Asn.blk bR] (w6) := (((((H5.drop 1).focus 2 rfl).focus 1 rfl).focus 3 rfl).focus 3 rfl)
        clear H5
        have HL9 := Lib.hid' (show (E ++ [((f + (by' : Int)), cc, da, dc)]).length = E.length + 1 by simp)
        have HF9 : Sep w (fun k => k = bR) [Asn.all ((E ++ [((f + (by' : Int)), cc, da, dc)]).map datA), .row 121 3 (.slice la2 (E ++ [((f + (by' : Int)), cc, da, dc)]).length lc2) (E ++ [((f + (by' : Int)), cc, da, dc)]).length (ents (E ++ [((f + (by' : Int)), cc, da, dc)])), Asn.blk bR] w6 := by
          have h9 := Sep.push datA (y := ((f + (by' : Int)), cc, da, dc)) (Ks := E) H6
          rw [HL9.out, ents_append]
          exact h9
        clear H6
        go_roundw
        case rel => exact ⟨k + 1, s2, f + (by' : Int) + 1, E ++ [((f + (by' : Int)), cc, da, dc)], la2, lc2, by go_num, rfl, by rw [HL9.out], by omega, by omega, by omega, Lib.hid' (by rw [HL9.out, HL.out]), Lib.hid' (by unfold docE at *; rw [List.map_append]; exact HNN.out), HR6, HF9⟩
        case measure => simp [intOf]; omega
      obtain rfl : k = n := by omega
      have hgo : decide ((k : Int) < min (m : Int) 65536) = false := decide_eq_false (by have := HMN.out; omega)
      have HPE := Lib.hid' (show (docE E, s) = P by have := HC.out; rwa [Nat.sub_self] at this)
      go_wp2
      go_ret
      rw [← HPE.out]
      exact ⟨E, la, lc, rfl, rfl, H0.own1 1 2 (by decide) rfl rfl, fun x hx => H0.oneAt datA 0 2 (by decide) rfl rfl hx rfl, HR.out, H0.fr⟩
end Go.Proofs.YtkhnbdbcaebdaaaGreatDoor

namespace Go.Proofs.YtkhnbdbcaebdaaaGreatDoor
open Go.RowKit
set_option linter.unusedSimpArgs false
set_option linter.unusedVariables false
set_option maxRecDepth 20000

def idxB {α : Type} (f : α → Bool) (l : List α) : Int := match l.findIdx? f with | some i => (i : Int) | none => -1
theorem idxB_hit {α : Type} {f : α → Bool} {l : List α} {k : Nat} (hk : k < l.length) (h1 : ∀ y ∈ l.take k, f y = false) (h2 : f l[k] = true) : idxB f l = k := by
  have : l.findIdx? f = some k := by
    rw [List.findIdx?_eq_some_iff_getElem]
    refine ⟨hk, h2, fun j hj => ?_⟩
    have := h1 l[j] (by rw [List.mem_take_iff_getElem]; exact ⟨j, by omega, rfl⟩)
    simp [this]
  unfold idxB; rw [this]
theorem idxB_none {α : Type} {f : α → Bool} {l : List α} (h1 : ∀ y ∈ l, f y = false) : idxB f l = -1 := by
  have : l.findIdx? f = none := by rw [List.findIdx?_eq_none_iff]; exact h1
  unfold idxB; rw [this]
theorem idxB_any {α : Type} (f : α → Bool) (l : List α) : decide (0 ≤ idxB f l) = l.any f := by
  unfold idxB
  cases h : l.findIdx? f with
  | none =>
    rw [List.findIdx?_eq_none_iff] at h
    have : l.any f = false := by rw [List.any_eq_false]; intro x hx; rw [h x hx]; decide
    rw [this]; rfl
  | some i =>
    rw [List.findIdx?_eq_some_iff_getElem] at h
    obtain ⟨h1, h2, _⟩ := h
    have : l.any f = true := List.any_eq_true.2 ⟨_, List.getElem_mem h1, h2⟩
    rw [this]; simp
theorem take_no {α : Type} {f : α → Bool} {l : List α} {k : Nat} (hk : k < l.length) (h1 : ∀ y ∈ l.take k, f y = false) (h2 : f l[k] = false) : ∀ y ∈ l.take (k + 1), f y = false := by
  intro y hy
  rw [List.take_succ_eq_append_getElem hk] at hy
  rcases List.mem_append.1 hy with hy | hy
  · exact h1 y hy
  · simp at hy; subst hy; exact h2

end Go.Proofs.YtkhnbdbcaebdaaaGreatDoor

namespace Go.Proofs.YtkhnbdbcaebdaaaGreatDoor
set_option linter.unusedSimpArgs false
set_option linter.unusedVariables false

structure Pj where
  e : Int
  cs : List (List Int)
def Pj.all (p : Pj) : List Int := p.cs.flatten
end Go.Proofs.YtkhnbdbcaebdaaaGreatDoor

namespace Go.Proofs.YtkhnbdbcaebdaaaGreatDoor
open Go.RowKit
set_option linter.unusedSimpArgs false
set_option linter.unusedVariables false
set_option maxRecDepth 20000

def zVs (l : List Int) : List Value := l.map (Value.int .i64)
/-- the numbers of a slice value -/
def Zs (w : World) (v : Value) (l : List Int) : Prop := SlV w v l.length (zVs l)
theorem Zs.at {w : World} {a : Option Addr} {n c : Nat} {l : List Int} (h : Zs w (.slice a n c) l) {k : Nat} (hk : k < l.length) :
    ∃ b off, a = some ⟨b, off, none⟩ ∧ b < w.heap.size ∧ w.cell? ⟨b, off + k, none⟩ = some (.int .i64 l[k]) := by
  have h' : SlV w (.slice a n c) n (l.flatMap (fun x => [Value.int .i64 x])) := by
    obtain ⟨a', c', he, r⟩ := h
    cases he
    refine ⟨a, c, rfl, ?_⟩
    have : l.flatMap (fun x => [Value.int .i64 x]) = zVs l := by
      clear r hk; induction l with
      | nil => rfl
      | cons x l ih => rw [List.flatMap_cons, ih]; rfl
    rw [this]; exact r
  obtain ⟨b, off, e, hb, hc⟩ := SlV.row (f := fun x => [Value.int .i64 x]) (s := 1) (fun _ => rfl) (by decide) h' hk
  refine ⟨b, off, e, hb, ?_⟩
  have := hc 0 _ rfl
  simpa using this
/-- a list's slice: the numbers, the address, the capacity -/
abbrev Ch := List Int × Option Addr × Nat
def chV (x : Ch) : Value := .slice x.2.1 x.1.length x.2.2
/-- a slice of slices -/
structure Chs (w : World) (a : Option Addr) (c : Nat) (X : List Ch) : Prop where
  rows : SlV w (.slice a X.length c) X.length (X.map chV)
  each : ∀ x ∈ X, Zs w (chV x) x.1
theorem Chs.below {w w' : World} {a : Option Addr} {c : Nat} {X : List Ch} (h : Chs w a c X) {B : Nat} (hB : w.heap.size ≤ B) (hb : Below B w w') : Chs w' a c X :=
  ⟨SlV.below h.rows hB hb, fun x hx => SlV.below (h.each x hx) hB hb⟩
theorem Chs.at {w : World} {a : Option Addr} {c : Nat} {X : List Ch} (h : Chs w a c X) {k : Nat} (hk : k < X.length) :
    ∃ b off, a = some ⟨b, off, none⟩ ∧ b < w.heap.size ∧ w.cell? ⟨b, off + k, none⟩ = some (.slice X[k].2.1 X[k].1.length X[k].2.2) ∧ Zs w (.slice X[k].2.1 X[k].1.length X[k].2.2) X[k].1 := by
  have h' : SlV w (.slice a X.length c) X.length (X.flatMap (fun x => [chV x])) := by
    have : X.flatMap (fun x => [chV x]) = X.map chV := by
      clear h hk; induction X with
      | nil => rfl
      | cons x l ih => rw [List.flatMap_cons, ih]; rfl
    rw [this]; exact h.rows
  obtain ⟨b, off, e, hb, hc⟩ := SlV.row (f := fun x => [chV x]) (s := 1) (fun _ => rfl) (by decide) h' hk
  refine ⟨b, off, e, hb, ?_, h.each _ (List.getElem_mem hk)⟩
  have := hc 0 _ rfl
  simpa [chV] using this

end Go.Proofs.YtkhnbdbcaebdaaaGreatDoor

namespace Go.Proofs.YtkhnbdbcaebdaaaGreatDoor
open Go.RowKit Go.Sort
set_option linter.unusedSimpArgs false
set_option linter.unusedVariables false
set_option maxRecDepth 20000

end Go.Proofs.YtkhnbdbcaebdaaaGreatDoor

namespace Go.Proofs.YtkhnbdbcaebdaaaGreatDoor
open Go.RowKit
set_option linter.unusedSimpArgs false
set_option linter.unusedVariables false
set_option maxRecDepth 100000

def entA (x : Ent) : Value := .agg #[.int .i64 x.1, .int .i64 x.2.1.k, .slice x.2.2.1 x.2.1.d.length x.2.2.2]
theorem rnone_any (x : Ent) (hl : x.2.1.d.length ≤ 9223372036854775807) (w : World) : Calls Tryz.prog 103 #[entA x] w fun e w' => e = .returned (.bool (noneE (noAd x))) ∧ Below w.heap.size w w' := by
  obtain ⟨xa, ⟨k, d⟩, da, dc⟩ := x
  simp only at hl
  unfold entA noneE noAd
  simp only
  by_cases h0 : k = 0
  · subst h0
    go_enter Tryz.func103, Tryz.ntmps103
    go_wp2
    go_ret
    exact ⟨rfl, by go_grown⟩
  · have h1 : (k == 0) = false := by rw [beq_eq_false_iff_ne]; exact h0
    cases h3 : (k == 3)
    all_goals
      go_enter Tryz.func103, Tryz.ntmps103
      go_wp2
      go_ret
      exact ⟨by simp [h1], by go_grown⟩
theorem cf_rnone (args : Array Value) (w : World) : (callFunc 103 args).run Tryz.prog w = .ok (.enter 103 args) w := by kernel_rfl
/-- an entry of a slice -/
theorem EL.at {w : World} {a : Option Addr} {c : Nat} {E : List Ent} (h : EL w a c E) {k : Nat} (hk : k < E.length) :
    ∃ b off, a = some ⟨b, off, none⟩ ∧ b < w.heap.size ∧ w.cell? ⟨b, off + k * 3, none⟩ = some (.int .i64 E[k].1) ∧ w.cell? ⟨b, off + k * 3 + 1, none⟩ = some (.int .i64 E[k].2.1.k) ∧
      w.cell? ⟨b, off + k * 3 + 2, none⟩ = some (.slice E[k].2.2.1 E[k].2.1.d.length E[k].2.2.2) ∧ E[k].2.1.d.length ≤ 9223372036854775807 := by
  obtain ⟨hsl, hby⟩ := h
  obtain ⟨b, off, rfl, hb, hc⟩ := SlV.row (s := 3) (fun _ => rfl) (by decide) hsl hk
  have c0 := hc 0 _ rfl; have c1 := hc 1 _ rfl; have c2 := hc 2 _ rfl
  simp only [Nat.add_zero] at c0
  exact ⟨b, off, rfl, hb, c0, c1, c2, bytes_len (hby _ (List.getElem_mem hk))⟩
set_option maxHeartbeats 1000000 in
theorem indexFE_any (E : List Ent) (a : Option Addr) (c : Nat) (w : World) (h : EL w a c E) :
    Calls Tryz.prog 141 #[.slice a E.length c, .func (.func 103) #[] #[]] w fun e w' => e = .returned (.int .i64 (idxB (fun x => noneE (noAd x)) E)) ∧ Below w.heap.size w w' := by
  have HS := Lib.hid' h
  have hlen := h.len
  have hcf := cf_rnone
  clear h
  go_enter Tryz.func141, Tryz.ntmps141
  go_wp2_with fail
  go_loopw [8] (fun v8 wr => ∃ k : Nat, v8 = .int .i64 k ∧ k ≤ E.length ∧ Hid (∀ y ∈ E.take k, noneE (noAd y) = false) ∧ Hid (Below w.heap.size w wr)) (fun v8 _ => E.length - (intOf v8).toNat)
  case atStart => exact ⟨0, rfl, Nat.zero_le _, Lib.hid' (by simp), Lib.hid' (Below.refl _ _)⟩
  case round =>
    obtain ⟨k, rfl, hk, HNO, HB⟩ := hrel
    by_cases hlt : k < E.length
    · obtain ⟨b, off, rfl, hb, c0, c1, c2, hdl⟩ := (HS.out.below (Nat.le_refl _) HB.out).at hlt
      have HH := Lib.hid' (fun h2 => idxB_hit (f := fun x : Ent => noneE (noAd x)) hlt HNO.out h2)
      have HT := Lib.hid' (fun h2 => take_no (f := fun x : Ent => noneE (noAd x)) hlt HNO.out h2)
      generalize E[k] = y at *
      have HP := Lib.hid' (fun w => rnone_any y hdl w)
      unfold entA at HP
      go_wp2_with fail
      refine (HP.out _).mono ?_
      rintro e w2 ⟨rfl, hb2⟩
      have HB2 := Lib.hid' (HB.out.trans (hb2.mono HB.out.size))
      clear hb2
      cases hq : noneE (noAd y) with
      | true =>
        have HF := Lib.hid' (HH.out hq)
        go_wp2_with fail
        go_ret
        exact ⟨ret_eq (by rw [HF.out]; rfl), HB2.out⟩
      | false =>
        have HF := Lib.hid' (HT.out hq)
        go_wp2_with fail
        go_roundw
        case rel => exact ⟨k + 1, by go_num, by omega, HF, HB2⟩
        case measure => simp [intOf]; omega
    · have HF := Lib.hid' (idxB_none (f := fun x : Ent => noneE (noAd x)) (by have := HNO.out; rwa [List.take_of_length_le (by omega)] at this))
      go_wp2_with fail
      go_ret
      exact ⟨ret_eq (by rw [HF.out]; rfl), HB.out⟩
theorem containsFE_any (E : List Ent) (a : Option Addr) (c : Nat) (w : World) (h : EL w a c E) :
    Calls Tryz.prog 104 #[.slice a E.length c, .func (.func 103) #[] #[]] w fun e w' => e = .returned (.bool ((docE E).any noneE)) ∧ Below w.heap.size w w' := by
  have HC := Lib.hid' (indexFE_any E a c w h)
  have HA := Lib.hid' (show E.any (fun x => noneE (noAd x)) = decide (0 ≤ idxB (fun x => noneE (noAd x)) E) from (idxB_any (fun x : Ent => noneE (noAd x)) E).symm)
  have HE := Lib.hid' (show (docE E).any noneE = E.any (fun x => noneE (noAd x)) by unfold docE; rw [List.any_map]; rfl)
  clear h
  rw [HE.out]
  go_enter Tryz.func104, Tryz.ntmps104
  go_wp2_with fail
  refine HC.out.mono ?_
  rintro e w' ⟨rfl, hb⟩
  have HB := Lib.hid' hb
  clear hb
  generalize idxB (fun x : Ent => noneE (noAd x)) E = i at *
  go_wp2
  go_ret
  exact ⟨ret_eq (by rw [HA.out]; rfl), HB.out⟩
theorem UnitAt.weak' {A A' : Nat → Prop} {w : World} {bu bm : Nat} {u : U} (h : UnitAt A w bu bm u) (hA : ∀ k, A' k → A k) (h1 : A' bu) (h2 : A' bm) : UnitAt A' w bu bm u := by
  obtain ⟨L, q1, q2⟩ := h.map
  exact ⟨h.blk, ⟨L, q1, q2.mono (fun x y _ _ ⟨r1, a, c, r2, r3, r4⟩ => ⟨r1, a, c, r2, r3, fun p hp => ⟨fun hk => (r4 p hp).1 (hA _ hk), (r4 p hp).2⟩⟩)⟩, h.ok, h1, h2⟩
def TakeUR (p : Nat × U) (w : World) (en : Ending) (w' : World) : Prop :=
  (p.1 ≠ 0 ∧ en = .returned (.tuple #[.pointer none, errV p.1]) ∧ Below w.heap.size w w') ∨
  (p.1 = 0 ∧ ∃ bu bm, en = .returned (.tuple #[.pointer (some ⟨bu, 0, none⟩), .nilIface]) ∧ w.heap.size ≤ bu ∧ w.heap.size ≤ bm ∧ UnitAt (fun k => k = bu ∨ k = bm ∨ k < w.heap.size) w' bu bm p.2 ∧ Below w.heap.size w w')
theorem within_le' (r : RD) (most : Nat) : (r.within most).1 ≤ most := by
  unfold RD.within
  split
  · simp
  · omega
theorem takeU_1 {b : List UInt8} {n : Nat} (h : (fone b).1 = n) (hn : n ≠ 0) : takeU b = (n, U.zero) := by subst h; unfold takeU; rw [if_pos hn]
theorem takeU_2 {b : List UInt8} {u : U} {r : RD} {n : Nat} (h : (fone b).1 = 0) (hu : readU ⟨(fone b).2, 0⟩ = (u, r)) (hr : r.fin = n) (hn : n ≠ 0) : takeU b = (n, U.zero) := by
  subst hr; unfold takeU; rw [if_neg (by simpa using h), hu, if_pos hn]
theorem takeU_3 {b : List UInt8} {u : U} {r : RD} (h : (fone b).1 = 0) (hu : readU ⟨(fone b).2, 0⟩ = (u, r)) (hr : r.fin = 0) (hn : u.cells.any noneE = true) : takeU b = (2, U.zero) := by
  unfold takeU; rw [if_neg (by simpa using h), hu, if_neg (by simpa using hr), if_pos hn]
theorem takeU_4 {b : List UInt8} {u : U} {r : RD} (h : (fone b).1 = 0) (hu : readU ⟨(fone b).2, 0⟩ = (u, r)) (hr : r.fin = 0) (hn : ¬ u.cells.any noneE = true) : takeU b = (0, u) := by
  unfold takeU; rw [if_neg (by simpa using h), hu, if_neg (by simpa using hr), if_neg hn]
set_option maxHeartbeats 4000000 in
theorem rtakeu_any (b : List UInt8) (a : Option Addr) (c : Nat) (w : World) (h : Bytes w (.slice a b.length c) b) : Calls Tryz.prog 56 #[.slice a b.length c] w (TakeUR (takeU b) w) := by
  have HD := Lib.hid' h
  have hbl := bytes_len h
  have hfo := fone_any b a c w h
  clear h
  unfold FOneR at hfo
  obtain ⟨p, hp⟩ : ∃ p, p = takeU b := ⟨_, rfl⟩
  have HP := Lib.hid' hp
  rw [← hp]
  clear hp
  obtain ⟨f1, hf1⟩ : ∃ n, n = (fone b).1 := ⟨_, rfl⟩
  obtain ⟨t, ht⟩ : ∃ t, t = (fone b).2 := ⟨_, rfl⟩
  rw [← hf1, ← ht] at hfo
  have HF1 := Lib.hid' hf1
  have HT := Lib.hid' ht
  have HFO := Lib.hid' hfo
  clear hf1 ht hfo
  have HERR := Lib.hid' (show ∀ n wq, n ≠ 0 → p = (n, U.zero) → Below w.heap.size w wq → TakeUR p w (.returned (.tuple #[.pointer none, errV n])) wq from fun n wq hn hpe hq => by
    subst hpe; exact .inl ⟨hn, rfl, hq⟩)
  go_enter Tryz.func56, Tryz.ntmps56
  go_wp2_with fail
  refine HFO.out.mono ?_
  clear HFO
  rintro en w2 ⟨a2, c2, rfl, hy2, hb2⟩
  have HY2 := Lib.hid' hy2
  have HB2 := Lib.hid' hb2
  clear hy2 hb2
  by_cases hf0 : f1 = 0
  rotate_left
  · have HE := Lib.hid' (HERR.out f1 w2 hf0 (by rw [HP.out]; exact takeU_1 HF1.out.symm hf0) HB2.out)
    rw [errV_pos hf0] at HE ⊢
    clear hf0
    go_wp2
    go_ret2
    exact HE.out
  have HF0 := Lib.hid' (show (fone b).1 = 0 from HF1.out.symm.trans hf0)
  rw [hf0, errV_0]
  clear hf0 HF1
  go_wp2_with fail
  refine (vNew_any t a2 c2 w2 HY2.out).mono ?_
  rintro en w3 ⟨rfl, hr3, hb3, hz3⟩
  obtain ⟨bR, hbR⟩ : ∃ q, q = w2.heap.size := ⟨_, rfl⟩
  have HR3 := Lib.hid' (show RAt w3 bR ⟨t, 0⟩ by rw [hbR]; exact hr3)
  have HB3 := Lib.hid' (HB2.out.trans (hb3.mono HB2.out.size))
  have hwb : w.heap.size ≤ bR := by rw [hbR]; exact HB2.out.size
  simp only [← hbR]
  clear hr3 hb3 hz3 hbR HB2 HY2
  obtain ⟨e0, he0⟩ : ∃ e0, e0 = (RD.within ⟨t, 0⟩ 1099511627776).1 := ⟨_, rfl⟩
  obtain ⟨s1, hs1⟩ : ∃ s, s = (RD.within ⟨t, 0⟩ 1099511627776).2 := ⟨_, rfl⟩
  have hwi := within_r_any bR ⟨t, 0⟩ 1099511627776 (by decide) w3 HR3.out
  rw [← he0, ← hs1] at hwi
  have he1 : e0 ≤ 1099511627776 := by rw [he0]; exact within_le' _ _
  have HWI := Lib.hid' hwi
  have HE0 := Lib.hid' (show RD.within ⟨t, 0⟩ 1099511627776 = (e0, s1) by rw [he0, hs1])
  clear hwi he0 hs1
  go_wp2_with fail
  refine HWI.out.mono ?_
  clear HWI
  rintro en w4 ⟨rfl, hr4, hf4⟩
  have HR4 := Lib.hid' hr4
  have HB4 := Lib.hid' (HB3.out.trans (hf4.below HB3.out.size (fun q hq => by omega)))
  clear hr4 hf4 HB3 HR3
  obtain ⟨l0, hl0⟩ : ∃ l0, l0 = (RD.within s1 1048576).1 := ⟨_, rfl⟩
  obtain ⟨s2, hs2⟩ : ∃ s, s = (RD.within s1 1048576).2 := ⟨_, rfl⟩
  have hwi := within_r_any bR s1 1048576 (by decide) w4 HR4.out
  rw [← hl0, ← hs2] at hwi
  have hl1 : l0 ≤ 1048576 := by rw [hl0]; exact within_le' _ _
  have HWI := Lib.hid' hwi
  have HL0 := Lib.hid' (show RD.within s1 1048576 = (l0, s2) by rw [hl0, hs2])
  clear hwi hl0 hs2
  go_wp2_with fail
  refine HWI.out.mono ?_
  clear HWI
  rintro en w5 ⟨rfl, hr5, hf5⟩
  have HR5 := Lib.hid' hr5
  have HB5 := Lib.hid' (HB4.out.trans (hf5.below HB4.out.size (fun q hq => by omega)))
  clear hr5 hf5 HB4 HR4
  obtain ⟨x, hx⟩ : ∃ x, x = RD.ents (min s2.num.1 65536) (l0 : Nat) (if 65536 < s2.num.1 then s2.num.2.fail 3 else s2.num.2) [] := ⟨_, rfl⟩
  have hen := rents_any bR s2 (l0 : Nat) (by omega) (by omega) w5 HR5.out
  rw [← hx] at hen
  have HU := Lib.hid' (show readU ⟨(fone b).2, 0⟩ = (⟨(e0 : Nat), (l0 : Nat), x.1⟩, x.2) by
    rw [← HT.out, hx]
    unfold readU
    simp only [HE0.out, HL0.out])
  have HEN := Lib.hid' hen
  clear hen hx HE0 HL0
  obtain ⟨L, r⟩ := x
  simp only at HU
  go_wp2_with fail
  refine HEN.out.mono ?_
  clear HEN
  rintro en w6 ⟨E, ea, ec, rfl, hde, ho, hoe, hr6, hf6⟩
  simp only at hde hr6
  have HR6 := Lib.hid' hr6
  have HB6 := Lib.hid' (HB5.out.trans (hf6.below HB5.out.size (fun q hq => by omega)))
  have HEL := Lib.hid' (show EL w6 ea ec E from ⟨SlV.of_own ho, fun x hx => SlV.of_own (hoe x hx)⟩)
  have HDE := Lib.hid' hde
  have hel := HEL.out.len
  clear hde ho hoe hr6 hf6 HB5 HR5
  obtain ⟨fn, hfn⟩ : ∃ n, n = r.fin := ⟨_, rfl⟩
  have HFN := Lib.hid' hfn
  have hed := end_any bR r w6 HR6.out
  rw [← hfn] at hed
  have HED := Lib.hid' hed
  clear hed hfn
  go_wp2_with fail
  refine HED.out.mono ?_
  clear HED
  rintro en wz ⟨rfl, rfl⟩
  by_cases hfn0 : fn = 0
  rotate_left
  · have HE := Lib.hid' (HERR.out fn w6 hfn0 (by rw [HP.out]; exact takeU_2 HF0.out HU.out HFN.out.symm hfn0) HB6.out)
    rw [errV_pos hfn0] at HE ⊢
    clear hfn0
    go_wp2
    go_ret2
    exact HE.out
  have HFN0 := Lib.hid' (show r.fin = 0 from HFN.out.symm.trans hfn0)
  rw [hfn0, errV_0]
  clear hfn0 HFN
  have hcn := containsFE_any E ea ec w6 HEL.out
  rw [HDE.out] at hcn
  have HCN := Lib.hid' hcn
  clear hcn
  go_wp2_with fail
  refine HCN.out.mono ?_
  clear HCN
  rintro en w7 ⟨rfl, hb7⟩
  have HB7 := Lib.hid' (HB6.out.trans (hb7.mono HB6.out.size))
  have HEL7 := Lib.hid' (HEL.out.below (Nat.le_refl _) hb7)
  clear hb7 HB6 HEL
  cases hnn : L.any noneE with
  | true =>
    have HE := Lib.hid' (HERR.out 2 w7 (by decide) (by rw [HP.out]; exact takeU_3 HF0.out HU.out HFN0.out hnn) HB7.out)
    clear hnn
    go_wp2
    go_ret2
    exact HE.out
  | false =>
    have HPE := Lib.hid' (show p = (0, ⟨(e0 : Nat), (l0 : Nat), L⟩) by rw [HP.out]; exact takeU_4 HF0.out HU.out HFN0.out (by simp only; rw [hnn]; decide))
    have HOK := Lib.hid' (takeU_ok (HP.out.symm.trans HPE.out)).1
    simp only at HOK
    have hof := of_good (e0 : Nat) (l0 : Nat) E ea ec w7 HEL7.out (by rw [HDE.out]; exact HOK.out)
    have HOF := Lib.hid' hof
    clear hof hnn
    go_wp2_with fail
    refine HOF.out.mono ?_
    clear HOF
    rintro en w8 ⟨bu, bm, rfl, g1, g2, hu, hb8⟩
    have HZ := Lib.hid' HB7.out.size
    have HU8 := Lib.hid' hu
    have HB8 := Lib.hid' (HB7.out.trans (hb8.mono HB7.out.size))
    have HG := Lib.hid' (And.intro g1 g2)
    clear hu hb8 g1 g2
    go_wp2
    go_ret2
    rw [HPE.out]
    refine .inr ⟨rfl, bu, bm, rfl, Nat.le_trans HZ.out HG.out.1, Nat.le_trans HZ.out HG.out.2, ?_, HB8.out⟩
    have := HU8.out
    rw [HDE.out] at this
    exact this.weak' (fun k hk => by rcases hk with h | h | h; exact .inl h; exact .inr (.inl h); exact .inr (.inr (Nat.lt_of_lt_of_le h HZ.out))) (.inl rfl) (.inr (.inl rfl))
end Go.Proofs.YtkhnbdbcaebdaaaGreatDoor

namespace Go.Proofs.YtkhnbdbcaebdaaaGreatDoor
open Go.RowKit
set_option linter.unusedSimpArgs false
set_option linter.unusedVariables false
set_option maxRecDepth 100000
namespace SH
open DK
theorem baseOf_succ (l : List Nm) {k : Nat} (h : k < l.length) : baseOf (l.take (k + 1)) = match numberN 98 l[k] with
    | some n => some (l[k], n)
    | none => baseOf (l.take k) := by
  unfold baseOf
  rw [List.take_add_one, List.getElem?_eq_getElem h]
  simp only [Option.toList_some, List.reverse_append, List.reverse_singleton, List.singleton_append, List.findSome?_cons]
  cases numberN 98 l[k] <;> rfl
/-- the greatest base is read -/
def BaseR (r : Nat × U × Nat) (w : World) (e : Ending) (w' : World) : Prop :=
  (r.1 ≠ 0 ∧ (∃ k : Nat, e = .returned (.tuple #[.pointer none, .int .i64 (k : Nat), errV r.1])) ∧ Below w.heap.size w w') ∨
  (r.1 = 0 ∧ ∃ bu bm, e = .returned (.tuple #[ptrV bu, .int .i64 (r.2.2 : Nat), .nilIface]) ∧ w.heap.size ≤ bu ∧ w.heap.size ≤ bm ∧ UnitAt (fun k => k = bu ∨ k = bm ∨ k < w.heap.size) w' bu bm r.2.1 ∧ Below w.heap.size w w')
theorem slist_mem {D : Dk} {b x : Nm} (h : x ∈ (slistD D b).2) : objNamed x = true := by
  unfold slistD at h
  split at h
  · simp at h
  · have := (List.mem_filter.1 h).2
    simp only [Bool.and_eq_true] at this
    exact this.1
theorem obj_size {x : Nm} (h : objNamed x = true) : x.size ≤ 20 := by
  unfold objNamed at h
  simp only [Bool.and_eq_true, decide_eq_true_eq] at h
  exact h.1.1
set_option maxHeartbeats 8000000 in
theorem base_any {m p N : Nat} {D : Dk} {G : Nat → Prop} (w : World) (h : (Asn.disk N D G).holds w) (hs : StoAt p N G w) (ho : Ok m D) (hm : m ≤ 1073741824) (hd : D.down = false) :
    Calls Tryz.prog 25 #[ptrV p] w (BaseR (baseD (objs D bName) D) w) := by
  have HL := Lib.hid' (slist_any bName w h hs ho hm)
  have hsl : slistD D bName = (0, objs D bName) := by unfold slistD objs; rw [if_neg (by rw [hd]; decide)]
  have HSZ := Lib.hid' (show ∀ x ∈ objs D bName, x.size ≤ 20 from fun x hx => obj_size (slist_mem (D := D) (b := bName) (by rw [hsl]; exact hx)))
  have hlen : (objs D bName).length ≤ 1073741824 := by
    have h1 := listN_len (namesOf D.shown) bName (namesOf D.shown).length
    rw [List.take_length] at h1
    have h2 := names_len ho
    unfold objs; omega
  have HGET := Lib.hid' (fun (n : Nm) (wq : World) (hb : Below w.heap.size w wq) => get_any7 n wq (((Sep.idle h).below hb).at 0 rfl) (hs.below hb) ho)
  rw [hsl] at HL
  clear h hs ho hsl hd
  generalize objs D bName = l at *
  go_enter Tryz.func25, Tryz.ntmps25
  go_upto_region 2 with (go_at_call 53; refine HL.out.mono ?_; rintro e w1 ⟨a, c, rfl, hrow, hb⟩; simp only [errV_0])
  have H := Lib.hid' ((Sep.start w).belowRow hb hrow)
  clear hrow hb HL
  go_upto_region 5 with fail
  go_loopw [7] (fun v7 wr => ∃ (k : Nat) (z : Int), v7 = .int .i64 z ∧ z = (k : Int) - 1 ∧ k ≤ l.length ∧ Hid (baseOf (l.take k) = baseOf l) ∧ Hid (Sep w NoF [.row 9 1 (.slice a l.length c) l.length (strVs l)] wr)) (fun v7 _ => (intOf v7 + 1).toNat)
  case atStart => exact ⟨l.length, _, rfl, by first | rfl | exact IntWalk.i64_in _ (by omega), Nat.le_refl _, Lib.hid' (by rw [List.take_length]), H⟩
  case round =>
    clear H
    obtain ⟨k, z, rfl, hz, hk, HB, HS⟩ := hrel
    cases k with
    | zero =>
      obtain rfl : z = -1 := by omega
      have HF := Lib.hid' (show baseD l D = (0, U.new, 0) by unfold baseD; rw [← HB.out]; rfl)
      clear HB hz hk
      go_wp2_with (go_at_call 19; refine (new_any _).mono ?_; rintro e w2 ⟨rfl, hb2, hz2, hu2⟩)
      go_ret3
      rw [HF.out]
      have hs := HS.out.toBelow
      exact .inr ⟨rfl, wr.heap.size + 1, wr.heap.size, rfl, by have := hs.size; omega, hs.size, hu2 _ (.inr (.inl rfl)) (.inl rfl), hs.trans (hb2.mono hs.size)⟩
    | succ j =>
      obtain rfl : z = (j : Int) := by omega
      have hlt : j < l.length := by omega
      have H0 := HS.out
      obtain ⟨bb, off, cap, he, hbb, d0⟩ := str_at (H0.row 0 rfl) rfl hlt
      simp only [Value.slice.injEq, true_and] at he
      obtain ⟨rfl, rfl⟩ := he
      have HB2 := Lib.hid' (show (match numberN 98 l[j] with | some n => some (l[j], n) | none => baseOf (l.take j)) = baseOf l by rw [← baseOf_succ l hlt]; exact HB.out)
      have hxs := HSZ.out l[j] (List.getElem_mem hlt)
      have hlt' : (j : Int) < (l.length : Int) := by omega
      have e1 : IntKind.i64.wrap ((j : Int) - 1) = (j : Int) - 1 := IntWalk.i64_in _ (by omega)
      have hj0 : (0 : Int) ≤ (j : Int) := by omega
      clear HB H0 hz
      obtain ⟨x, hx⟩ : ∃ x, l[j] = x := ⟨_, rfl⟩
      rw [hx] at d0 HB2 hxs
      clear hx
      cases hn : numberN 98 x with
      | none =>
        rw [hn] at HB2
        have HNU := Lib.hid' (show ∀ w : World, Calls Tryz.prog 54 #[.string ⟨#[98]⟩, .string x] w fun e w' => e = .returned (.tuple #[.int .i64 0, .bool false]) ∧ Below w.heap.size w w' from fun w => by have := DK.number_any 98 x w (by omega); rwa [hn] at this)
        go_wp2_with (go_at_call 54; refine (HNU.out _).mono ?_; rintro e w2 ⟨rfl, hb2⟩)
        go_roundw
        case rel => exact ⟨j, _, rfl, by first | rfl | exact e1, by omega, HB2, Lib.hid' (HS.out.below hb2)⟩
        case measure => simp [intOf]; try omega
      | some n =>
        have hn9 := number_le hn
        rw [hn] at HB2
        have HBO := Lib.hid' (show baseOf l = some (x, n) from HB2.out.symm)
        have HNU := Lib.hid' (show ∀ w : World, Calls Tryz.prog 54 #[.string ⟨#[98]⟩, .string x] w fun e w' => e = .returned (.tuple #[.int .i64 (n : Nat), .bool true]) ∧ Below w.heap.size w w' from fun w => by have := DK.number_any 98 x w (by omega); rwa [hn] at this)
        have HF0 := Lib.hid' (show baseD l D = (if (getD D x).1 ≠ 0 then ((getD D x).1, U.zero, 0) else ((takeU (getD D x).2).1, (takeU (getD D x).2).2, n)) by unfold baseD; rw [HBO.out])
        have HGX := Lib.hid' (fun wq hb => HGET.out x wq hb)
        clear HB2 HBO hn hxs HGET
        generalize getD D x = g at *
        obtain ⟨ge, gd⟩ := g
        by_cases hg : ge = 0
        rotate_left
        · have HE := Lib.hid' hg
          have HF := Lib.hid' (show baseD l D = (ge, U.zero, 0) by rw [HF0.out, if_pos hg])
          clear hg HF0
          go_wp2_with (first | (go_at_call 54; refine (HNU.out _).mono ?_; rintro e w2 ⟨rfl, hb2⟩; have H2 := (HS.out.below hb2); have d2 := (hb2.cell (p := ⟨bb, off + j, none⟩) hbb).trans d0; have hb3 : bb < w2.heap.size := Nat.lt_of_lt_of_le hbb hb2.size; have HG2 := Lib.hid' (HGX.out w2 H2.toBelow)) | (go_at_call 55; refine HG2.out.mono ?_; rintro e w3 ⟨ga, gc, rfl, hgr, hb3'⟩; simp only [errV_pos HE.out]))
          go_ret3
          rw [HF.out]
          have h02 := H2.toBelow
          exact .inl ⟨HE.out, ⟨0, by rw [errV_pos HE.out]; rfl⟩, h02.trans (hb3'.mono h02.size)⟩
        subst hg
        have HF := Lib.hid' (show baseD l D = ((takeU gd).1, (takeU gd).2, n) by rw [HF0.out, if_neg (by simp)])
        clear HF0
        go_upto_region 13 with (first | (go_at_call 54; refine (HNU.out _).mono ?_; rintro e w2 ⟨rfl, hb2⟩; have H2 := (HS.out.below hb2); have d2 := (hb2.cell (p := ⟨bb, off + j, none⟩) hbb).trans d0; have hb3 : bb < w2.heap.size := Nat.lt_of_lt_of_le hbb hb2.size; have HG2 := Lib.hid' (HGX.out w2 H2.toBelow)) | (go_at_call 55; refine HG2.out.mono ?_; rintro e w3 ⟨ga, gc, rfl, hgr, hb3'⟩; simp only [errV_0]))
        have h03 : Below w.heap.size w w3 := H2.toBelow.trans (hb3'.mono H2.toBelow.size)
        have HTU := Lib.hid' (rtakeu_any gd ga gc w3 (SlV.of_own hgr))
        clear hgr hb3' H2 d0 d2 hb2 hb3
        generalize takeU gd = r at *
        obtain ⟨re, ru⟩ := r
        by_cases hre : re = 0
        · subst hre
          go_wp2_with (go_at_call 56; refine HTU.out.mono ?_; rintro e w4 (⟨hbad, _⟩ | ⟨_, bu, bm, rfl, g1, g2, hu, hb4⟩); first | (exact absurd rfl hbad) | skip)
          go_ret3
          rw [HF.out]
          exact .inr ⟨rfl, bu, bm, rfl, Nat.le_trans h03.size g1, Nat.le_trans h03.size g2, hu.weak' (fun k hk => by rcases hk with h | h | h; exact .inl h; exact .inr (.inl h); exact .inr (.inr (Nat.lt_of_lt_of_le h h03.size))) (.inl rfl) (.inr (.inl rfl)), h03.trans (hb4.mono h03.size)⟩
        · have HE := Lib.hid' hre
          go_wp2_with (go_at_call 56; refine HTU.out.mono ?_; rintro e w4 (⟨_, rfl, hb4⟩ | ⟨hz, _⟩); rotate_left; (exact absurd hz HE.out); simp only [errV_pos HE.out])
          go_ret3
          rw [HF.out]
          exact .inl ⟨HE.out, ⟨n, by simp only [errV_pos HE.out]; rfl⟩, h03.trans (hb4.mono h03.size)⟩
end SH
end Go.Proofs.YtkhnbdbcaebdaaaGreatDoor

namespace Go.Proofs.YtkhnbdbcaebdaaaGreatDoor
open Go.RowKit
set_option linter.unusedSimpArgs false
set_option linter.unusedVariables false
set_option maxRecDepth 100000
namespace SH
open DK
def AgR (q N : Nat) (u : U) (n : Nat) (D : Dk) (vs : PoolL) (F : Nat → Prop) (w : World) (e : Ending) (w' : World) : Prop :=
  e = .returned (.tuple #[.bool (againD D u n).2.1, errV (againD D u n).1]) ∧ ShR q N ⟨(againD D u n).2.2.1, (againD D u n).2.2.2, false⟩ D vs F w w'
theorem AgR.of {q N : Nat} {u u' : U} {n n' : Nat} {D : Dk} {vs us : PoolL} {F : Nat → Prop} {w w' : World} {e : Nat} {b : Bool} (hd : againD D u n = (e, b, u', n')) (hs : ∀ y ∈ vs, y ∈ us) (h : ShAt q N ⟨u', n', false⟩ D us [] F w w') : AgR q N u n D vs F w (.returned (.tuple #[.bool b, errV e])) w' := by
  unfold AgR
  rw [hd]
  exact ⟨rfl, us, hs, h⟩
set_option maxHeartbeats 16000000 in
theorem again_any {m q N : Nat} {u : U} {n : Nat} {D : Dk} {vs : PoolL} {F : Nat → Prop} (w : World) (h : ShAt q N ⟨u, n, false⟩ D vs [] F w w) (hp : Pow w) (ho : Ok m D) : Calls Tryz.prog 26 #[ptrV q] w (AgR q N u n D vs F w) := by
  obtain ⟨p, bu, bm, G1, Z, H⟩ := sh_open h
  have hok : u.ok := (H.at 0 rfl).2.2
  have hcl := ok_cells hok
  have hin := sh_in H
  have HH := Lib.hid' H
  have c2 := hin.c2
  have lq := hin.lq
  clear h hok
  by_cases h99 : 99999999 < n
  · have h99' : (99999999 : Int) < (n : Int) := by omega
    have HF := Lib.hid' (show againD D u n = (0, false, u, n) by unfold againD; rw [if_pos h99])
    clear H hin h99
    go_enter Tryz.func26, Tryz.ntmps26
    go_wp2
    go_ret2
    exact AgR.of (e := 0) HF.out (fun _ h => h) (sh_close HH.out)
  have h99' : ¬ (99999999 : Int) < (n : Int) := by omega
  have hn9 : n ≤ 99999999 := by omega
  have HF0 := Lib.hid' (show againD D u n = (if (getD D (nameN 114 n)).1 = 4 then (0, false, u, n) else if (getD D (nameN 114 n)).1 ≠ 0 then ((getD D (nameN 114 n)).1, false, u, n) else
    if (Ac.take (getD D (nameN 114 n)).2).1 ≠ 0 then ((Ac.take (getD D (nameN 114 n)).2).1, false, u, n) else
    if (apU u (Ac.take (getD D (nameN 114 n)).2).2).1 ≠ 0 then (13, false, (apU u (Ac.take (getD D (nameN 114 n)).2).2).2.2, n) else
    (0, true, (apU u (Ac.take (getD D (nameN 114 n)).2).2).2.2, n + 1)) by unfold againD; rw [if_neg h99])
  have HGE := Lib.hid' (fun (wq : World) (hb : Below w.heap.size w wq) => get_any7 (nameN 114 n) wq (((H.below hb).at 4 rfl)) (sh_disk (H.below hb)).2 ho)
  have HNA := Lib.hid' (name_any 114 n w.drew (hp.below ((Below.refl _ w).drew)) hn9)
  have c0 := hin.c0
  have c0d := (H.drew).cell 2 rfl 0 rfl
  have c2d := (H.drew).cell 2 rfl 2 rfl
  have HIN := Lib.hid' hin
  clear H hin h99 hp ho hn9
  go_enter Tryz.func26, Tryz.ntmps26
  go_upto_region 3 with fail

  refine startD (S := (fun w' => w'.cell? ⟨q, 0, none⟩ = some (ptrV p) ∧ w'.cell? ⟨q, 2, none⟩ = some (.int .i64 (n : Nat)) ∧ q < w'.heap.size)) (by kernel_rfl) ⟨c0d, c2d, by simpa using lq⟩ (fun hH0 => ?_)
  simp only [List.length_cons, List.length_nil, Nat.reduceAdd, List.replicate_succ, List.replicate_zero]
  refine takeD (i := 0) (d := 15) (v := .pointer (some ⟨q, 0, none⟩)) rfl rfl (by kernel_rfl) (by kernel_rfl) (by kernel_rfl) (fun _ _ _ h => h) (yldV [(0, .pointer (some ⟨q, 0, none⟩))] (by kernel_rfl) rfl (by kernel_rfl) ?_) hH0 ?_
  · intro w hSw; go_simp
  dsimp only [List.set_cons_zero, List.set_cons_succ]
  refine takeD (i := 1) (d := 16) (v := .pointer (some ⟨q, 0, none⟩)) rfl rfl (by kernel_rfl) (by kernel_rfl) (by kernel_rfl) (fun _ _ _ h => h) (yldV [(15, .pointer (some ⟨q, 0, none⟩))] (by kernel_rfl) rfl (by kernel_rfl) ?_) hH0 ?_
  · intro w hSw; go_simp
  dsimp only [List.set_cons_zero, List.set_cons_succ]
  refine takeD (i := 2) (d := 17) (v := .pointer (some ⟨q, 0, none⟩)) rfl rfl (by kernel_rfl) (by kernel_rfl) (by kernel_rfl) (fun _ _ _ h => h) (yldV [(16, .pointer (some ⟨q, 0, none⟩))] (by kernel_rfl) rfl (by kernel_rfl) ?_) hH0 ?_
  · intro w hSw; go_simp
  dsimp only [List.set_cons_zero, List.set_cons_succ]
  refine takeD (i := 3) (d := 18) (v := ptrV p) rfl rfl (by kernel_rfl) (by kernel_rfl) (by kernel_rfl) (fun _ _ _ h => h) (yldV [(17, .pointer (some ⟨q, 0, none⟩))] (by kernel_rfl) rfl (by kernel_rfl) ?_) hH0 ?_
  · intro w hSw; go_simp
  dsimp only [List.set_cons_zero, List.set_cons_succ]
  refine takeD (i := 4) (d := 19) (v := .pointer (some ⟨q, 0, none⟩)) rfl rfl (by kernel_rfl) (by kernel_rfl) (by kernel_rfl) (fun _ _ _ h => h) (yldV [(0, .pointer (some ⟨q, 0, none⟩))] (by kernel_rfl) rfl (by kernel_rfl) ?_) hH0 ?_
  · intro w hSw; go_simp
  dsimp only [List.set_cons_zero, List.set_cons_succ]
  refine takeD (i := 5) (d := 20) (v := .pointer (some ⟨q, 0, none⟩)) rfl rfl (by kernel_rfl) (by kernel_rfl) (by kernel_rfl) (fun _ _ _ h => h) (yldV [(19, .pointer (some ⟨q, 0, none⟩))] (by kernel_rfl) rfl (by kernel_rfl) ?_) hH0 ?_
  · intro w hSw; go_simp
  dsimp only [List.set_cons_zero, List.set_cons_succ]
  refine takeD (i := 6) (d := 21) (v := .pointer (some ⟨q, 2, none⟩)) rfl rfl (by kernel_rfl) (by kernel_rfl) (by kernel_rfl) (fun _ _ _ h => h) (yldV [(20, .pointer (some ⟨q, 0, none⟩))] (by kernel_rfl) rfl (by kernel_rfl) ?_) hH0 ?_
  · intro w hSw; go_simp
  dsimp only [List.set_cons_zero, List.set_cons_succ]
  refine takeD (i := 7) (d := 22) (v := .int .i64 (n : Nat)) rfl rfl (by kernel_rfl) (by kernel_rfl) (by kernel_rfl) (fun _ _ _ h => h) (yldV [(21, .pointer (some ⟨q, 2, none⟩))] (by kernel_rfl) rfl (by kernel_rfl) ?_) hH0 ?_
  · intro w hSw; go_simp
  dsimp only [List.set_cons_zero, List.set_cons_succ]
  refine wpAnyH_ready (rs := [8]) (by kernel_rfl) (by simp) (AllReadyH.cons (o := _) rfl (fun K hK => ?_) AllReadyH.nil)
  go_simp
  refine HNA.out.mono ?_
  rintro en w1 ⟨rfl, hb1⟩
  have hb01 : Below w.heap.size w w1 := ((Below.refl _ w).drew).trans (hb1.mono (by simp))
  have hi1 := HIN.out.below hb01
  have HG1 := Lib.hid' (HGE.out w1 hb01)
  refine hK.out _ _ ?_ (fun hH1 => ?_)
  · exact ⟨hi1.c0, hi1.c2, hi1.lq⟩
  clear hK K
  try simp only [Act.put, List.getElem_toArray, List.getElem_cons_zero, List.getElem_cons_succ, List.setIfInBounds_toArray, List.set_cons_zero, List.set_cons_succ]
  refine wpAnyH_ready (rs := [9]) (by kernel_rfl) (by simp) (AllReadyH.cons (o := _) rfl (fun K hK => ?_) AllReadyH.nil)
  go_simp
  refine HG1.out.mono ?_
  rintro en w2 ⟨ga, gc, rfl, hgr, hb2⟩
  have hb02 := hb01.trans (hb2.mono hb01.size)
  have hi2 := HIN.out.below hb02
  refine hK.out _ _ ?_ (fun hH2 => ?_)
  · exact ⟨hi2.c0, hi2.c2, hi2.lq⟩
  clear hK K
  try simp only [Act.put, List.getElem_toArray, List.getElem_cons_zero, List.getElem_cons_succ, List.setIfInBounds_toArray, List.set_cons_zero, List.set_cons_succ]
  refine takeD (i := 10) (d := 14) (v := .tuple #[.slice ga (getD D (nameN 114 n)).2.length gc, errV (getD D (nameN 114 n)).1]) rfl rfl (by kernel_rfl) (by kernel_rfl) (by kernel_rfl) (fun _ _ _ h => h) (yldV [(24, .tuple #[.slice ga (getD D (nameN 114 n)).2.length gc, errV (getD D (nameN 114 n)).1])] (by kernel_rfl) rfl (by kernel_rfl) ?_) hH2 ?_
  · intro w hSw; go_simp
  dsimp only [List.set_cons_zero, List.set_cons_succ]
  refine takeD (i := 11) (d := 25) (v := .slice ga (getD D (nameN 114 n)).2.length gc) rfl rfl (by kernel_rfl) (by kernel_rfl) (by kernel_rfl) (fun _ _ _ h => h) (yldV [(14, .tuple #[.slice ga (getD D (nameN 114 n)).2.length gc, errV (getD D (nameN 114 n)).1])] (by kernel_rfl) rfl (by kernel_rfl) ?_) hH2 ?_
  · intro w hSw; go_simp
  dsimp only [List.set_cons_zero, List.set_cons_succ]
  refine takeD (i := 12) (d := 26) (v := errV (getD D (nameN 114 n)).1) rfl rfl (by kernel_rfl) (by kernel_rfl) (by kernel_rfl) (fun _ _ _ h => h) (yldV [(14, .tuple #[.slice ga (getD D (nameN 114 n)).2.length gc, errV (getD D (nameN 114 n)).1])] (by kernel_rfl) rfl (by kernel_rfl) ?_) hH2 ?_
  · intro w hSw; go_simp
  dsimp only [List.set_cons_zero, List.set_cons_succ]
  refine takeD (i := 13) (d := 4) (v := .slice ga (getD D (nameN 114 n)).2.length gc) rfl rfl (by kernel_rfl) (by kernel_rfl) (by kernel_rfl) (fun _ _ _ h => h) (yldV [(25, .slice ga (getD D (nameN 114 n)).2.length gc)] (by kernel_rfl) rfl (by kernel_rfl) ?_) hH2 ?_
  · intro w hSw; go_simp
  dsimp only [List.set_cons_zero, List.set_cons_succ]
  refine takeD (i := 14) (d := 5) (v := errV (getD D (nameN 114 n)).1) rfl rfl (by kernel_rfl) (by kernel_rfl) (by kernel_rfl) (fun _ _ _ h => h) (yldV [(26, errV (getD D (nameN 114 n)).1)] (by kernel_rfl) rfl (by kernel_rfl) ?_) hH2 ?_
  · intro w hSw; go_simp
  dsimp only [List.set_cons_zero, List.set_cons_succ]
  refine wpAnyH_done (by kernel_rfl) ?_ _
  clear c0 c2 lq c0d c2d HNA HGE HG1 hb1 hb01 hi1 hi2 hb2 HIN

  have hgb : Bytes w2 (.slice ga (getD D (nameN 114 n)).2.length gc) (getD D (nameN 114 n)).2 := SlV.of_own hgr
  generalize getD D (nameN 114 n) = g at *
  obtain ⟨ge, gd⟩ := g
  simp only at hgb HF0 hgr
  clear hgr hH0 hH1 hH2
  by_cases h4 : ge = 4
  · subst h4
    have HF := Lib.hid' (show againD D u n = (0, false, u, n) by rw [HF0.out, if_pos rfl])
    have HX := Lib.hid' (HH.out.below hb02)
    rw [errV_pos (n := 4) (by decide)]
    clear HF0 HH hgb hb02
    go_wp2_with fail
    go_ret2
    exact AgR.of (e := 0) HF.out (fun _ h => h) (sh_close HX.out)
  by_cases h0 : ge = 0
  rotate_left
  · have HF := Lib.hid' (show againD D u n = (ge, false, u, n) by rw [HF0.out, if_neg h4, if_pos h0])
    have HX := Lib.hid' (HH.out.below hb02)
    have HE := Lib.hid' h0
    have g4 : ¬ (ge : Int) = 4 := by omega
    rw [errV_pos h0]
    clear HF0 HH hgb hb02 h4 h0
    go_wp2_with fail
    go_ret2
    rw [← errV_pos HE.out]
    exact AgR.of HF.out (fun _ h => h) (sh_close HX.out)
  subst h0
  have HTK := Lib.hid' (rtake9_any gd ga gc w2 hgb)
  have HF1 := Lib.hid' (show againD D u n = (if (Ac.take gd).1 ≠ 0 then ((Ac.take gd).1, false, u, n) else if (apU u (Ac.take gd).2).1 ≠ 0 then (13, false, (apU u (Ac.take gd).2).2.2, n) else (0, true, (apU u (Ac.take gd).2).2.2, n + 1)) by rw [HF0.out, if_neg h4, if_neg (by simp)])
  rw [errV_0]
  clear HF0 h4 hgb
  generalize Ac.take gd = t at *
  obtain ⟨te, x⟩ := t
  obtain ⟨xk, xe, xa, xd⟩ := x
  by_cases ht : te = 0
  rotate_left
  · have HF := Lib.hid' (show againD D u n = (te, false, u, n) by rw [HF1.out, if_pos ht])
    have HE := Lib.hid' ht
    have HX := Lib.hid' (HH.out.below hb02)
    clear HF1 HH ht
    go_wp2_with (go_at_call 57; refine HTK.out.mono ?_; rintro e w3 ⟨ya, yc, rfl, hyb, hb3⟩; simp only [errV_pos HE.out, ac9V])
    go_ret2
    rw [← errV_pos HE.out]
    exact AgR.of HF.out (fun _ h => h) (sh_close (((HX.out.below hb3)).below (by first | exact (Below.refl _ _).alloc (Nat.le_refl _) _ | go_grown)))
  subst ht
  have HF2 := Lib.hid' (show againD D u n = (if (apU u ⟨xk, xe, xa, xd⟩).1 ≠ 0 then (13, false, (apU u ⟨xk, xe, xa, xd⟩).2.2, n) else (0, true, (apU u ⟨xk, xe, xa, xd⟩).2.2, n + 1)) by rw [HF1.out, if_neg (by simp)])
  clear HF1
  go_upto_region 10 with (go_at_call 57; refine HTK.out.mono ?_; rintro e w3 ⟨ya, yc, rfl, hyb, hb3⟩; simp only [errV_0, ac9V])
  have H3 := (HH.out.below hb02).below hb3
  have H4 := H3.allocAt w3.heap.size [.int .i64 xk, .int .i64 xe, .int .i64 xa, .slice ya xd.length yc] 34 rfl
  have H4 : Sep w F (.box w3.heap.size [.int .i64 xk, .int .i64 xe, .int .i64 xa, .slice ya xd.length yc] 34 :: shL q p bu bm N ⟨u, n, false⟩ D vs Z G1 []) (w3.alloc (.cells #[.int .i64 xk, .int .i64 xe, .int .i64 xa, .slice ya xd.length yc] 34)) := H4
  have hyb4 : Bytes (w3.alloc (.cells #[.int .i64 xk, .int .i64 xe, .int .i64 xa, .slice ya xd.length yc] 34)).drew (.slice ya xd.length yc) xd := SlV.below hyb (Nat.le_refl _) (((Below.refl _ _).alloc (Nat.le_refl _) _).drew)
  generalize w3.alloc (.cells #[.int .i64 xk, .int .i64 xe, .int .i64 xa, .slice ya xd.length yc] 34) = w4 at *
  generalize w3.heap.size = B at *
  clear HH H3 hyb hb3 hb02 HTK
  go_upto_region 12 with fail
  have HX := Lib.hid' H4.drew
  have HAP := Lib.hid' (rapply_any ⟨xk, xe, xa, xd⟩ ya yc w4.drew (Sep.unitAt H4.drew.tail) (fun k hk => hk.1) hcl hyb4)
  have d1 := HX.out.cell 3 rfl 1 rfl
  have x0 := HX.out.cell 0 rfl 0 rfl
  have x1 := HX.out.cell 0 rfl 1 rfl
  have x2 := HX.out.cell 0 rfl 2 rfl
  have x3 := HX.out.cell 0 rfl 3 rfl
  have lq4 := HX.out.lt 3 rfl
  have lB4 := HX.out.lt 0 rfl
  clear H4 hyb4
  obtain ⟨r, hr⟩ : ∃ r, apU u ⟨xk, xe, xa, xd⟩ = r := ⟨_, rfl⟩
  rw [hr] at HAP HF2
  obtain ⟨ae, an, au⟩ := r
  clear hr

  refine startD (S := (fun w' => w'.cell? ⟨q, 1, none⟩ = some (ptrV bu) ∧ w'.cell? ⟨B, 0, none⟩ = some (.int .i64 xk) ∧ w'.cell? ⟨B, 1, none⟩ = some (.int .i64 xe) ∧ w'.cell? ⟨B, 2, none⟩ = some (.int .i64 xa) ∧ w'.cell? ⟨B, 3, none⟩ = some (.slice ya xd.length yc) ∧ q < w'.heap.size ∧ B < w'.heap.size)) (by kernel_rfl) ⟨d1, x0, x1, x2, x3, lq4, lB4⟩ (fun hH0 => ?_)
  simp only [List.length_cons, List.length_nil, Nat.reduceAdd, List.replicate_succ, List.replicate_zero]
  refine takeD (i := 0) (d := 43) (v := .pointer (some ⟨q, 0, none⟩)) rfl rfl (by kernel_rfl) (by kernel_rfl) (by kernel_rfl) (fun _ _ _ h => h) (yldV [(0, .pointer (some ⟨q, 0, none⟩))] (by kernel_rfl) rfl (by kernel_rfl) ?_) hH0 ?_
  · intro w hSw; go_simp
  dsimp only [List.set_cons_zero, List.set_cons_succ]
  refine takeD (i := 1) (d := 44) (v := .pointer (some ⟨q, 0, none⟩)) rfl rfl (by kernel_rfl) (by kernel_rfl) (by kernel_rfl) (fun _ _ _ h => h) (yldV [(43, .pointer (some ⟨q, 0, none⟩))] (by kernel_rfl) rfl (by kernel_rfl) ?_) hH0 ?_
  · intro w hSw; go_simp
  dsimp only [List.set_cons_zero, List.set_cons_succ]
  refine takeD (i := 2) (d := 45) (v := .pointer (some ⟨q, 1, none⟩)) rfl rfl (by kernel_rfl) (by kernel_rfl) (by kernel_rfl) (fun _ _ _ h => h) (yldV [(44, .pointer (some ⟨q, 0, none⟩))] (by kernel_rfl) rfl (by kernel_rfl) ?_) hH0 ?_
  · intro w hSw; go_simp
  dsimp only [List.set_cons_zero, List.set_cons_succ]
  refine takeD (i := 3) (d := 46) (v := ptrV bu) rfl rfl (by kernel_rfl) (by kernel_rfl) (by kernel_rfl) (fun _ _ _ h => h) (yldV [(45, .pointer (some ⟨q, 1, none⟩))] (by kernel_rfl) rfl (by kernel_rfl) ?_) hH0 ?_
  · intro w hSw; go_simp
  dsimp only [List.set_cons_zero, List.set_cons_succ]
  refine takeD (i := 4) (d := 47) (v := .agg #[.int .i64 xk, .int .i64 xe, .int .i64 xa, .slice ya xd.length yc]) rfl rfl (by kernel_rfl) (by kernel_rfl) (by kernel_rfl) (fun _ _ _ h => h) (yldV [(6, .pointer (some ⟨B, 0, none⟩))] (by kernel_rfl) rfl (by kernel_rfl) ?_) hH0 ?_
  · intro w hSw; go_simp
  dsimp only [List.set_cons_zero, List.set_cons_succ]
  refine wpAnyH_ready (rs := [5]) (by kernel_rfl) (by simp) (AllReadyH.cons (o := _) rfl (fun K hK => ?_) AllReadyH.nil)
  go_simp
  refine HAP.out.mono ?_
  rintro en w5 ⟨rfl, hU5, hf5⟩
  have hnq : ¬ (q = bu ∨ q = bm) := fun hh => HX.out.off 3 1 rfl rfl (by decide) q rfl hh
  have hnB : ¬ (B = bu ∨ B = bm) := fun hh => HX.out.off 0 1 rfl rfl (by decide) B rfl hh
  have hz5 := hf5.size
  refine hK.out _ _ ?_ (fun hH1 => ?_)
  · exact ⟨hf5.cell d1 hnq, hf5.cell x0 hnB, hf5.cell x1 hnB, hf5.cell x2 hnB, hf5.cell x3 hnB, by omega, by omega⟩
  clear hK K
  try simp only [Act.put, List.getElem_toArray, List.getElem_cons_zero, List.getElem_cons_succ, List.setIfInBounds_toArray, List.set_cons_zero, List.set_cons_succ]
  refine takeD (i := 6) (d := 42) (v := .tuple #[.int .i64 an, errV ae]) rfl rfl (by kernel_rfl) (by kernel_rfl) (by kernel_rfl) (fun _ _ _ h => h) (yldV [(48, .tuple #[.int .i64 an, errV ae])] (by kernel_rfl) rfl (by kernel_rfl) ?_) hH1 ?_
  · intro w hSw; go_simp
  dsimp only [List.set_cons_zero, List.set_cons_succ]
  refine takeD (i := 7) (d := 49) (v := .int .i64 an) rfl rfl (by kernel_rfl) (by kernel_rfl) (by kernel_rfl) (fun _ _ _ h => h) (yldV [(42, .tuple #[.int .i64 an, errV ae])] (by kernel_rfl) rfl (by kernel_rfl) ?_) hH1 ?_
  · intro w hSw; go_simp
  dsimp only [List.set_cons_zero, List.set_cons_succ]
  refine takeD (i := 8) (d := 50) (v := errV ae) rfl rfl (by kernel_rfl) (by kernel_rfl) (by kernel_rfl) (fun _ _ _ h => h) (yldV [(42, .tuple #[.int .i64 an, errV ae])] (by kernel_rfl) rfl (by kernel_rfl) ?_) hH1 ?_
  · intro w hSw; go_simp
  dsimp only [List.set_cons_zero, List.set_cons_succ]
  refine takeD (i := 9) (d := 7) (v := .int .i64 an) rfl rfl (by kernel_rfl) (by kernel_rfl) (by kernel_rfl) (fun _ _ _ h => h) (yldV [(49, .int .i64 an)] (by kernel_rfl) rfl (by kernel_rfl) ?_) hH1 ?_
  · intro w hSw; go_simp
  dsimp only [List.set_cons_zero, List.set_cons_succ]
  refine takeD (i := 10) (d := 8) (v := errV ae) rfl rfl (by kernel_rfl) (by kernel_rfl) (by kernel_rfl) (fun _ _ _ h => h) (yldV [(50, errV ae)] (by kernel_rfl) rfl (by kernel_rfl) ?_) hH1 ?_
  · intro w hSw; go_simp
  dsimp only [List.set_cons_zero, List.set_cons_succ]
  refine wpAnyH_done (by kernel_rfl) ?_ _
  obtain ⟨Z5, us, s5, H5⟩ := HX.out.tail.unitCall hU5 hf5
  clear hH0 hH1 d1 x0 x1 x2 x3 lq4 lB4 HAP HX hU5 hf5 hnq hnB hz5
  have H5 : Sep w F (shL q p bu bm N ⟨au, n, false⟩ D us Z5 G1 []) w5 := H5
  by_cases ha : ae = 0
  · subst ha
    have HF := Lib.hid' (show againD D u n = (0, true, au, n + 1) by rw [HF2.out, if_neg (by simp)])
    have c2 := H5.cell 2 rfl 2 rfl
    have f2 := H5.free 2 rfl 2
    have lq5 := H5.lt 2 rfl
    have HX5 := Lib.hid' H5
    clear H5 HF2
    rw [errV_0]
    go_wp2_with fail
    go_ret2
    have H6 : Sep w F (shL q p bu bm N ⟨au, n + 1, false⟩ D us Z5 G1 []) _ := (HX5.out.set 2 rfl 2 (.int .i64 ((n + 1 : Nat) : Int))).pick [1, 2, 0, 3, 4] (by decide) rfl
    first | exact AgR.of (e := 0) HF.out s5 (sh_close H6) | (go_num; exact AgR.of (e := 0) HF.out s5 (sh_close H6))
  · have HF := Lib.hid' (show againD D u n = (13, false, au, n) by rw [HF2.out, if_pos ha])
    have HX5 := Lib.hid' H5
    clear H5 HF2
    rw [errV_pos ha]
    go_wp2_with fail
    go_ret2
    exact AgR.of (e := 13) HF.out s5 (sh_close HX5.out)

/-- a shelf is opened -/
def ShOpenR (N : Nat) (D : Dk) (G : Nat → Prop) (w : World) (e : Ending) (w' : World) : Prop :=
  ((openS D).1 ≠ 0 ∧ e = .returned (.tuple #[.pointer none, errV (openS D).1]) ∧ ∃ G', Sep w G [Asn.disk N (openS D).2.2 G'] w') ∨
  ((openS D).1 = 0 ∧ ∃ q us, e = .returned (.tuple #[ptrV q, .nilIface]) ∧ ShAt q N (openS D).2.1 (openS D).2.2 us [] G w w')
theorem loop_stop {D : Dk} {k : Nat} {u : U} {n : Nat} (h0 : (againD D u n).1 = 0) (h1 : (againD D u n).2.1 = false) : loopD D k u n = (0, u, n) := by
  cases k with
  | zero => rfl
  | succ k => unfold loopD; rw [if_neg (by omega), if_neg (by rw [h1]; decide)]
theorem again_shape (D : Dk) (u : U) (n : Nat) : (∃ e, againD D u n = (e, false, u, n) ∧ (e ≠ 0 → n ≤ 99999999)) ∨ (n ≤ 99999999 ∧ ∃ v, againD D u n = (13, false, v, n)) ∨ (n ≤ 99999999 ∧ ∃ v, againD D u n = (0, true, v, n + 1)) := by
  unfold againD
  by_cases h99 : 99999999 < n
  · rw [if_pos h99]; exact .inl ⟨0, rfl, fun h => absurd rfl h⟩
  rw [if_neg h99]
  have h9 : n ≤ 99999999 := by omega
  generalize getD D (nameN 114 n) = g
  by_cases h4 : g.1 = 4
  · rw [if_pos h4]; exact .inl ⟨0, rfl, fun _ => h9⟩
  rw [if_neg h4]
  by_cases h0 : g.1 ≠ 0
  · rw [if_pos h0]; exact .inl ⟨_, rfl, fun _ => h9⟩
  rw [if_neg h0]
  generalize Ac.take g.2 = t
  by_cases ht : t.1 ≠ 0
  · rw [if_pos ht]; exact .inl ⟨_, rfl, fun _ => h9⟩
  rw [if_neg ht]
  generalize apU u t.2 = a
  by_cases ha : a.1 ≠ 0
  · rw [if_pos ha]; exact .inr (.inl ⟨h9, _, rfl⟩)
  · rw [if_neg ha]; exact .inr (.inr ⟨h9, _, rfl⟩)
theorem loop_bad {D : Dk} {u v : U} {n e : Nat} (h9 : n ≤ 99999999) (h : againD D u n = (e, false, v, n)) (he : e ≠ 0) : loopD D (100000000 - n) u n = (e, v, n) := by
  obtain ⟨k, hk⟩ : ∃ k, 100000000 - n = k + 1 := ⟨99999999 - n, by omega⟩
  rw [hk]; unfold loopD; rw [h]; simp only; rw [if_pos he]
theorem loop_more {D : Dk} {u v : U} {n : Nat} (h9 : n ≤ 99999999) (h : againD D u n = (0, true, v, n + 1)) : loopD D (100000000 - n) u n = loopD D (100000000 - (n + 1)) v (n + 1) := by
  obtain ⟨k, hk⟩ : ∃ k, 100000000 - n = k + 1 := ⟨99999999 - n, by omega⟩
  rw [hk, show 100000000 - (n + 1) = k by omega]
  conv => lhs; unfold loopD
  rw [h]; simp
theorem up_works {D : Dk} (h : (worksD D).1 = 0) : (worksD D).2.down = false := by
  obtain ⟨h1, _, h3⟩ := works_ok h
  rw [h3]; exact h1
theorem up_remove {D : Dk} {n : Nm} (h : (removeD D n).1 = 0) : (removeD D n).2.down = false := by
  unfold removeD at h ⊢
  simp only at h ⊢
  by_cases h0 : (worksD D).1 ≠ 0
  · rw [if_pos h0] at h; exact absurd h h0
  rw [if_neg h0] at h ⊢
  have hu := up_works (D := D) (by omega)
  split
  · exact hu
  · split
    · exact hu
    · exact hu
theorem up_sync {D : Dk} (h : (syncD D).1 = 0) : (syncD D).2.down = false := by
  unfold syncD at h ⊢
  simp only at h ⊢
  by_cases h0 : (worksD D).1 ≠ 0
  · rw [if_pos h0] at h; exact absurd h h0
  rw [if_neg h0]
  exact up_works (D := D) (by omega)
theorem up_sweep : ∀ (l : List Nm) (s : Bool) (D : Dk), D.down = false → (sweepD l s D).1 = 0 → (sweepD l s D).2.2.down = false
  | [], s, D, h, _ => h
  | n :: l, s, D, h, h0 => by
    unfold sweepD at h0 ⊢
    by_cases hb : DK.begun n = false
    · rw [if_pos hb] at h0 ⊢; exact up_sweep l s D h h0
    · rw [if_neg hb] at h0 ⊢
      by_cases hr : (removeD D n).1 ≠ 0
      · rw [if_pos hr] at h0; exact absurd h0 hr
      · rw [if_neg hr] at h0 ⊢
        exact up_sweep l true _ (up_remove (by omega)) h0
theorem up_open {l : List Nm} {D : Dk} (h : (openD l D).1 = 0) : (openD l D).2.down = false := by
  unfold openD at h ⊢
  by_cases hd : D.down = true
  · rw [if_pos hd] at h; cases h
  rw [if_neg hd] at h ⊢
  by_cases hs : (sweepD l false D).1 ≠ 0
  · rw [if_pos hs] at h; exact absurd h hs
  rw [if_neg hs] at h ⊢
  have hu := up_sweep l false D (by simpa using hd) (by omega)
  by_cases h2 : (sweepD l false D).2.1 = true
  · rw [if_pos h2] at h ⊢; exact up_sync h
  · rw [if_neg h2]; exact hu
def mOf (q : Nat) (w : World) : Nat := match w.cell? ⟨q, 2, none⟩ with
  | some (.int _ z) => (100000000 - z).toNat
  | _ => 0
theorem mOf_eq {q : Nat} {w : World} {n : Nat} (h : w.cell? ⟨q, 2, none⟩ = some (.int .i64 (n : Nat))) : mOf q w = (100000000 - (n : Int)).toNat := by unfold mOf; rw [h]
theorem shAt_disk {q N : Nat} {S : Sf} {D : Dk} {vs : PoolL} {F : Nat → Prop} {w0 w : World} (h : ShAt q N S D vs [] F w0 w) : ∃ G', Sep w0 F [Asn.disk N D G'] w := by
  obtain ⟨G1, G2, Z, H⟩ := h
  exact ⟨G1, H.pick [0] (by decide) rfl⟩
set_option maxHeartbeats 16000000 in
theorem shopen_any {m N : Nat} {D : Dk} {G : Nat → Prop} (w : World) (h : (Asn.disk N D G).holds w) (hp : Pow w) (ho : Ok m D) (hm : m ≤ 536870912) (hpd : D.pend.length ≤ 536870912) (hG : ∀ wq, (∃ L, Sep w G L wq) → Pow wq) :
    Calls Tryz.prog 7 #[ptrV N] w (ShOpenR N D G w) := by
  have HSO := Lib.hid' (sopen_any w h ho hm hpd)
  have HPW := Lib.hid' hG
  have hoo := ho.open (namesOf D.shown)
  have HF0 := Lib.hid' (show openS D = _ from by unfold openS; rfl)
  have hdn : (openD (namesOf D.shown) D).1 = 0 → (openD (namesOf D.shown) D).2.down = false := up_open
  clear h hp ho hpd hG
  generalize openD (namesOf D.shown) D = r at *
  obtain ⟨oe, D1⟩ := r
  simp only at HF0 hoo
  by_cases h0 : oe = 0
  rotate_left
  · have HF := Lib.hid' (show openS D = (oe, ⟨U.zero, 0, false⟩, D1) by rw [HF0.out, if_pos h0])
    have HE := Lib.hid' h0
    clear h0 HF0
    go_enter Tryz.func7, Tryz.ntmps7
    go_wp2_with (go_at_call 24; refine HSO.out.mono ?_; rintro e w1 (⟨_, rfl, hk⟩ | ⟨hz, _⟩); rotate_left; (exact absurd hz HE.out); simp only [errV_pos HE.out])
    go_ret2
    unfold ShOpenR
    rw [HF.out]
    exact .inl ⟨HE.out, by simp only [errV_pos HE.out]; rfl, hk⟩
  subst h0
  have hd1 : D1.down = false := hdn rfl
  have hd : ¬ D1.down = true := by rw [hd1]; decide
  have HF1 := Lib.hid' (show openS D = (if (baseD (objs D1 bName) D1).1 ≠ 0 then ((baseD (objs D1 bName) D1).1, ⟨U.zero, 0, false⟩, D1) else ((loopD D1 (100000000 - (baseD (objs D1 bName) D1).2.2) (baseD (objs D1 bName) D1).2.1 (baseD (objs D1 bName) D1).2.2).1, ⟨(loopD D1 (100000000 - (baseD (objs D1 bName) D1).2.2) (baseD (objs D1 bName) D1).2.1 (baseD (objs D1 bName) D1).2.2).2.1, (loopD D1 (100000000 - (baseD (objs D1 bName) D1).2.2) (baseD (objs D1 bName) D1).2.1 (baseD (objs D1 bName) D1).2.2).2.2, false⟩, D1)) by rw [HF0.out, if_neg (by simp), if_neg hd])
  clear HF0 hd hdn
  go_enter Tryz.func7, Tryz.ntmps7
  go_upto_region 2 with (go_at_call 24; refine HSO.out.mono ?_; rintro e w1 (⟨hz, _⟩ | ⟨_, p, G1, rfl, hk1⟩); (exact absurd rfl hz))
  have HK1 := Lib.hid' hk1
  have HBA := Lib.hid' (base_any w1 (hk1.at 1 rfl) ⟨hk1.cell 0 rfl 0 rfl, hk1.lt 0 rfl, fun hg => hk1.off 0 1 rfl rfl (by decide) p rfl hg⟩ hoo (by omega) hd1)
  have HPW1 := Lib.hid' (HPW.out w1 ⟨_, hk1⟩)
  have hbn : (baseD (objs D1 bName) D1).2.2 ≤ 99999999 := by
    unfold baseD
    cases hb : baseOf (objs D1 bName) with
    | none => exact Nat.zero_le _
    | some y =>
      obtain ⟨x, n⟩ := y
      have hn : n ≤ 99999999 := by
        unfold baseOf at hb
        obtain ⟨z, _, hz⟩ := List.exists_of_findSome?_eq_some hb
        cases hnz : numberN 98 z with
        | none => rw [hnz] at hz; cases hz
        | some k => rw [hnz] at hz; simp only [Option.map_some, Option.some.injEq, Prod.mk.injEq] at hz; rw [← hz.2]; exact number_le hnz
      show (if _ then _ else _ : Nat × U × Nat).2.2 ≤ _
      split
      · exact Nat.zero_le _
      · exact hn
  clear hk1 HSO hd1
  generalize baseD (objs D1 bName) D1 = b at *
  obtain ⟨be, u0, n0⟩ := b
  simp only at hbn HF1
  by_cases hb0 : be = 0
  rotate_left
  · have HF := Lib.hid' (show openS D = (be, ⟨U.zero, 0, false⟩, D1) by rw [HF1.out, if_pos hb0])
    have HE := Lib.hid' hb0
    clear hb0 HF1
    go_wp2_with (go_at_call 25; refine HBA.out.mono ?_; rintro e w2 (⟨_, ⟨kk, rfl⟩, hb2⟩ | ⟨hz, _⟩); rotate_left; (exact absurd hz HE.out); simp only [errV_pos HE.out])
    go_ret2
    unfold ShOpenR
    rw [HF.out]
    exact .inl ⟨HE.out, by simp only [errV_pos HE.out]; rfl, G1, (HK1.out.drop 0).below hb2⟩
  subst hb0
  have HF2 := Lib.hid' (show openS D = ((loopD D1 (100000000 - n0) u0 n0).1, ⟨(loopD D1 (100000000 - n0) u0 n0).2.1, (loopD D1 (100000000 - n0) u0 n0).2.2, false⟩, D1) by rw [HF1.out, if_neg (by simp)])
  clear HF1
  go_upto_region 5 with (go_at_call 25; refine HBA.out.mono ?_; rintro e w2 (⟨hz, _⟩ | ⟨_, bu, bm, rfl, g1, g2, hu2, hb2⟩); (exact absurd rfl hz))
  obtain ⟨Z2, us, _, H2⟩ := Sep.unitNew (HK1.out.pool0) hb2 g1 g2 (hu2.weak' (fun k hk => by rcases hk with h | h | h; exact .inr (.inr h.1); exact .inl h; exact .inr (.inl h)) (.inr (.inl rfl)) (.inr (.inr rfl)))
  have H3 := H2.allocAt w2.heap.size [ptrV p, ptrV bu, .int .i64 (n0 : Nat), .bool false] 71 rfl
  have H4 : Sep w G (shL w2.heap.size p bu bm N ⟨u0, n0, false⟩ D1 us Z2 G1 []) (w2.alloc (.cells #[ptrV p, ptrV bu, .int .i64 (n0 : Nat), .bool false] 71)) := H3.pick [1, 2, 0, 3, 4] (by decide) rfl
  have HX := Lib.hid' (sh_close H4)
  clear H2 H3 H4 HK1 HBA hu2 hb2 g1 g2 HPW1 hbn
  go_wp2_with fail
  generalize w2.heap.size = q at *
  generalize w2.alloc (.cells #[ptrV p, ptrV bu, .int .i64 (n0 : Nat), .bool false] 71) = w3 at *
  go_loopw [] (fun wr => ∃ (u : U) (n : Nat) (vs : PoolL), Hid (ShAt q N ⟨u, n, false⟩ D1 vs [] G w wr) ∧ Hid (loopD D1 (100000000 - n) u n = loopD D1 (100000000 - n0) u0 n0)) (fun wr => mOf q wr)
  case atStart => exact ⟨u0, n0, us, HX, Lib.hid' rfl⟩
  case round =>
    clear HX
    obtain ⟨u, n, vs, HS, HL⟩ := hrel
    obtain ⟨F', hF, hk⟩ := HS.out.enter
    obtain ⟨p', bu', bm', Ga, Za, Ha⟩ := sh_open HS.out
    have hma : mOf q wr = (100000000 - (n : Int)).toNat := mOf_eq (sh_in Ha).c2
    have hpw : Pow wr := HPW.out wr ⟨_, Ha⟩
    have HAG := Lib.hid' (again_any wr hF hpw hoo)
    clear Ha hF hpw
    rcases again_shape D1 u n with ⟨e, hs, h9⟩ | ⟨h9, v, hs⟩ | ⟨h9, v, hs⟩
    · unfold AgR at HAG
      rw [hs] at HAG
      by_cases he : e = 0
      · subst he
        have HF := Lib.hid' (show openS D = (0, ⟨u, n, false⟩, D1) by rw [HF2.out, ← HL.out, loop_stop (by rw [hs]) (by rw [hs])])
        clear hs h9
        go_wp2_with (go_at_call 26; refine HAG.out.mono ?_; rintro e w5 ⟨rfl, us5, _, h5⟩; simp only [errV_0])
        go_ret2
        unfold ShOpenR
        rw [HF.out]
        exact .inr ⟨rfl, q, us5, rfl, hk _ _ _ [] _ h5⟩
      · have HF := Lib.hid' (show openS D = (e, ⟨u, n, false⟩, D1) by rw [HF2.out, ← HL.out, loop_bad (h9 he) hs he])
        have HE := Lib.hid' he
        clear hs h9
        go_wp2_with (go_at_call 26; refine HAG.out.mono ?_; rintro e w5 ⟨rfl, us5, _, h5⟩; simp only [errV_pos HE.out])
        go_ret2
        unfold ShOpenR
        rw [HF.out]
        exact .inl ⟨HE.out, by simp only [errV_pos HE.out]; rfl, shAt_disk (hk _ _ _ [] _ h5)⟩
    · unfold AgR at HAG
      rw [hs] at HAG
      have HF := Lib.hid' (show openS D = (13, ⟨v, n, false⟩, D1) by rw [HF2.out, ← HL.out, loop_bad h9 hs (by decide)])
      clear hs h9
      go_wp2_with (go_at_call 26; refine HAG.out.mono ?_; rintro e w5 ⟨rfl, us5, _, h5⟩; simp only [errV_pos (show (13 : Nat) ≠ 0 by decide)])
      go_ret2
      unfold ShOpenR
      rw [HF.out]
      exact .inl ⟨(show (13 : Nat) ≠ 0 by decide), by simp only [errV_pos (show (13 : Nat) ≠ 0 by decide)]; rfl, shAt_disk (hk _ _ _ [] _ h5)⟩
    · unfold AgR at HAG
      rw [hs] at HAG
      have HL2 := Lib.hid' (show loopD D1 (100000000 - (n + 1)) v (n + 1) = loopD D1 (100000000 - n0) u0 n0 by rw [← loop_more h9 hs]; exact HL.out)
      clear hs
      go_wp2_with (go_at_call 26; refine HAG.out.mono ?_; rintro e w5 ⟨rfl, us5, _, h5⟩; simp only [errV_0])
      have h6 := hk _ _ _ [] _ h5
      obtain ⟨p6, bu6, bm6, G6, Z6, H6⟩ := sh_open h6
      have hm6 : mOf q w5 = (100000000 - ((n + 1 : Nat) : Int)).toNat := mOf_eq (sh_in H6).c2
      go_roundw
      case rel => exact ⟨v, n + 1, us5, Lib.hid' h6, HL2⟩
      case measure => rw [hma, hm6]; omega
end SH
end Go.Proofs.YtkhnbdbcaebdaaaGreatDoor
