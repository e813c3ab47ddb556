/- Proved here: a part of the proof (23 of 34). -/
import Derived.Test.YtcpkeddgkpjioaaGreatDoorB11
import Derived.Test.YtcpkeddgkpjioaaGreatDoorB12
import Derived.Test.YtcpkeddgkpjioaaGreatDoorB7
set_option linter.unusedSimpArgs false
set_option linter.unusedVariables false
set_option maxRecDepth 100000
namespace Go.Proofs.YtcpkeddgkpjioaaGreatDoor
open Go.RowKit

def CTakeR (p : C × RD) (b : Nat) (w : World) (e : Ending) (w' : World) : Prop :=
 ∃ a c, e = .returned (.agg #[.int .i64 p.1.k, .slice a p.1.d.length c]) ∧ w'.ownsRow w.heap.size 5 1 (.slice a p.1.d.length c) p.1.d.length (byteVs p.1.d) ∧ RAt w' b p.2 ∧ Fr (fun k => k = b) w w'
theorem cell_eq {r s s2 : RD} {k : Nat} {d : List UInt8} (h1 : r.within 3 = (k, s)) (h2 : (if k = 1 then s.text 64 else ([], s)) = (d, s2)) : r.cell = if s2.bad ≠ 0 then (⟨0, []⟩, s2) else (⟨(k : Nat), d⟩, s2) := by
 unfold RD.cell
 rw [h1]
 simp only
 rw [h2]
set_option maxHeartbeats 4000000 in
theorem ctake_any (bR : Nat) (r : RD) (w : World) (h : RAt w bR r) : Calls Tryz.prog 215 #[.pointer (some ⟨bR, 0, none⟩)] w (CTakeR r.cell bR w) := by
 have HR := Lib.hid' h
 have hbl := h.lt
 clear h
 obtain ⟨p, hp⟩ : ∃ p, p = r.cell := ⟨_, rfl⟩
 have HP := Lib.hid' hp
 rw [← hp]
 clear hp
 go_enter Tryz.func215, Tryz.ntmps215
 go_wp2_with fail
 have H0 : Sep w (fun k => k = bR) [Asn.blk bR] w := Sep.blk0 hbl
 have hT : bR < w.heap.size := hbl
 have HRn := Zh (show RAt ((w.alloc (.cells #[.int .i64 0, .slice none 0 0] 36))) bR r from HR.out.hi ((Fr.refl (fun k => bR < k) _).allocH _))
 clear HR
 have H1 : Sep w (fun k => k = bR) [.box (w.heap.size) [.int .i64 0, .slice none 0 0] 36, Asn.blk bR] ((w.alloc (.cells #[.int .i64 0, .slice none 0 0] 36))) := (H0.allocAt (w.heap.size) [.int .i64 0, .slice none 0 0] 36 (by simp))
 clear H0
 generalize (w.alloc (.cells #[.int .i64 0, .slice none 0 0] 36)) = w1 at *
 have HR := HRn
 clear HRn
 obtain ⟨k, hk⟩ : ∃ k, k = (r.within 3).1 := ⟨_, rfl⟩
 obtain ⟨s, hs⟩ : ∃ s, s = (r.within 3).2 := ⟨_, rfl⟩
 have HK := Zh (show r.within 3 = (k, s) by rw [hk, hs])
 have hwi := within_r_any bR r 3 (by decide) w1 HR.out
 rw [← hk, ← hs] at hwi
 clear hk hs
 refine hwi.mono ?_
 clear hwi
 rintro en w2 ⟨rfl, hr2, hf2⟩
 have HR2 := Lib.hid' hr2
 have hz2 := hf2.size
 clear hr2 HR
 have H2 : Sep w (fun k => k = bR) [Asn.blk bR, .box (w.heap.size) [.int .i64 0, .slice none 0 0] 36] (w2) := (H1.rd 1 rfl hf2)
 clear H1 hf2
 by_cases hk1 : k = 1
 ·skip
  subst hk1
  have Tc0 := H2.cell 1 rfl 0 rfl
  have Tc1 := H2.cell 1 rfl 1 rfl
  have Tl := H2.lt 1 rfl
  have hT2 : w.heap.size < w2.heap.size := Tl
  go_wp2_with fail
  have hC : bR < w2.heap.size := by omega
  have HRn := Zh (show RAt ((w2.alloc (.cells #[.int .i64 1, .slice none 0 0] 36))) bR s from HR2.out.hi ((Fr.refl (fun k => bR < k) _).allocH _))
  clear HR2
  have H3 : Sep w (fun k => k = bR) [.box (w2.heap.size) [.int .i64 1, .slice none 0 0] 36, Asn.blk bR, .box (w.heap.size) [.int .i64 0, .slice none 0 0] 36] ((w2.alloc (.cells #[.int .i64 1, .slice none 0 0] 36))) := (H2.allocAt (w2.heap.size) [.int .i64 1, .slice none 0 0] 36 (by simp))
  clear Tc0 Tc1 Tl
  clear H2
  generalize (w2.alloc (.cells #[.int .i64 1, .slice none 0 0] 36)) = w3 at *
  have HR2 := HRn
  clear HRn
  obtain ⟨x, hx⟩ : ∃ x, x = s.text 64 := ⟨_, rfl⟩
  have htx := text_r_any bR s 64 (by decide) w3 HR2.out
  rw [← hx] at htx
  have HX := Zh (show (if 1 = 1 then s.text 64 else ([], s)) = x from by rw [if_pos rfl, hx])
  clear hx
  obtain ⟨d, s2⟩ := x
  have HTX := Lib.hid' htx
  clear htx
  refine HTX.out.mono ?_
  clear HTX
  rintro en w4 ⟨ta, tc, rfl, ho, hr4, hf4⟩
  simp only at ho hr4 ⊢
  have HR4 := Lib.hid' hr4
  clear hr4 HR2
  have H4 : Sep w (fun k => k = bR) [.row 5 1 (.slice ta d.length tc) (d.length) (byteVs d), Asn.blk bR, .box (w2.heap.size) [.int .i64 1, .slice none 0 0] 36, .box (w.heap.size) [.int .i64 0, .slice none 0 0] 36] (w4) := (H3.rdRow 1 rfl hf4 ho)
  clear H3 hf4 ho
  have Cc0 := H4.cell 2 rfl 0 rfl
  have Cc1 := H4.cell 2 rfl 1 rfl
  have Cf0 := H4.free 2 rfl 0
  have Cf1 := H4.free 2 rfl 1
  have Cl := H4.lt 2 rfl
  go_upto_region 4 with fail
  have HRn := Zh (show RAt ((w4.setCell ⟨w2.heap.size, 1, none⟩ (.slice ta d.length tc))) bR s2 from HR4.out.hi ((Fr.refl (fun k => bR < k) _).setH (by omega) _ _))
  clear HR4
  have H5 : Sep w (fun k => k = bR) [.box (w2.heap.size) [.int .i64 1, .slice ta d.length tc] 36, .row 5 1 (.slice ta d.length tc) (d.length) (byteVs d), Asn.blk bR, .box (w.heap.size) [.int .i64 0, .slice none 0 0] 36] ((w4.setCell ⟨w2.heap.size, 1, none⟩ (.slice ta d.length tc))) := (H4.set 2 rfl 1 (.slice ta d.length tc))
  clear Cc0 Cc1 Cf0 Cf1 Cl
  clear H4
  generalize (w4.setCell ⟨w2.heap.size, 1, none⟩ (.slice ta d.length tc)) = w5 at *
  have HR4 := HRn
  clear HRn
  have HPE := Zh (show p = if s2.bad ≠ 0 then (⟨0, []⟩, s2) else (⟨((1 : Nat) : Int), d⟩, s2) from by rw [HP.out]; exact cell_eq HK.out HX.out)
  have HER := Zh (fun hh => err_any bR s2 w5 hh)
  obtain ⟨bd, hbd⟩ : ∃ n, n = s2.bad := ⟨_, rfl⟩
  rw [← hbd] at HPE HER
  clear hbd
  have Cc0 := H5.cell 0 rfl 0 rfl
  have Cc1 := H5.cell 0 rfl 1 rfl
  have Cl := H5.lt 0 rfl
  have Tc0 := H5.cell 3 rfl 0 rfl
  have Tc1 := H5.cell 3 rfl 1 rfl
  have Tf0 := H5.free 3 rfl 0
  have Tf1 := H5.free 3 rfl 1
  have Tl := H5.lt 3 rfl
  have CnT := H5.ne 0 3 rfl rfl (by decide)
  have TnC := H5.ne 3 0 rfl rfl (by decide)
  go_wp2_with fail
  refine (HER.out HR4.out).mono ?_
  rintro en wz ⟨rfl, rfl⟩
  by_cases hb0 : bd = 0
  ·skip
   have HPE2 := Zh (show p = (⟨((1 : Nat) : Int), d⟩, s2) from HPE.out.trans (if_neg (by simpa using hb0)))
   rw [hb0, errV_0]
   clear hb0
   have HFF : Sep w (fun k => k = bR) [.box (w.heap.size) [.int .i64 1, .slice ta d.length tc] 36, .box (w2.heap.size) [.int .i64 1, .slice ta d.length tc] 36, .row 5 1 (.slice ta d.length tc) (d.length) (byteVs d), Asn.blk bR] (((w5.setCell ⟨w.heap.size, 0, none⟩ (.int .i64 1)).setCell ⟨w.heap.size, 1, none⟩ (.slice ta d.length tc))) := ((H5.set 3 rfl 0 (.int .i64 1)).set 0 rfl 1 (.slice ta d.length tc))
   have HRET := Zh (show CTakeR p bR w (.returned (.agg #[.int .i64 1, .slice ta d.length tc])) (((w5.setCell ⟨w.heap.size, 0, none⟩ (.int .i64 1)).setCell ⟨w.heap.size, 1, none⟩ (.slice ta d.length tc))) from by
    rw [HPE2.out]
    exact ⟨ta, tc, rfl, HFF.own1 2 3 (by decide) rfl rfl, HR4.out.hi (((Fr.refl (fun k => bR < k) _).setH (by omega) _ _).setH (by omega) _ _), HFF.fr⟩)
   clear HFF
   go_wp2
   refine bodyPost_ret (v := .agg #[.int .i64 1, .slice ta d.length tc]) (by simp [results, Tryz.results215, go_sem, Cc0, Cc1, Tc0, Tc1]) rfl HRET.out
  ·skip
   have HPE2 := Zh (show p = (⟨0, []⟩, s2) from HPE.out.trans (if_pos hb0))
   rw [errV_pos hb0]
   clear hb0
   have HFF : Sep w (fun k => k = bR) [.box (w.heap.size) [.int .i64 0, .slice none 0 0] 36, .box (w2.heap.size) [.int .i64 1, .slice ta d.length tc] 36, .row 5 1 (.slice ta d.length tc) (d.length) (byteVs d), Asn.blk bR] (((w5.setCell ⟨w.heap.size, 0, none⟩ (.int .i64 0)).setCell ⟨w.heap.size, 1, none⟩ (.slice none 0 0))) := ((H5.set 3 rfl 0 (.int .i64 0)).set 0 rfl 1 (.slice none 0 0))
   have HRET := Zh (show CTakeR p bR w (.returned (.agg #[.int .i64 0, .slice none 0 0])) (((w5.setCell ⟨w.heap.size, 0, none⟩ (.int .i64 0)).setCell ⟨w.heap.size, 1, none⟩ (.slice none 0 0))) from by
    rw [HPE2.out]
    exact ⟨none, 0, rfl, own_nil _ _ _ _, HR4.out.hi (((Fr.refl (fun k => bR < k) _).setH (by omega) _ _).setH (by omega) _ _), HFF.fr⟩)
   clear HFF
   go_wp2
   refine bodyPost_ret (v := .agg #[.int .i64 0, .slice none 0 0]) (by simp [results, Tryz.results215, go_sem, Cc0, Cc1, Tc0, Tc1]) rfl HRET.out
 have hkb : ((k : Int) == 1) = false := by rw [beq_eq_false_iff_ne]; omega
 have HX := Zh (show (if k = 1 then s.text 64 else ([], s)) = ([], s) from if_neg hk1)
 clear hk1
 have Tc0 := H2.cell 1 rfl 0 rfl
 have Tc1 := H2.cell 1 rfl 1 rfl
 have Tl := H2.lt 1 rfl
 have hT2 : w.heap.size < w2.heap.size := Tl
 go_wp2_with fail
 have hC : bR < w2.heap.size := by omega
 have HRn := Zh (show RAt ((w2.alloc (.cells #[.int .i64 (k : Int), .slice none 0 0] 36))) bR s from HR2.out.hi ((Fr.refl (fun k => bR < k) _).allocH _))
 clear HR2
 have H3 : Sep w (fun k => k = bR) [.box (w2.heap.size) [.int .i64 (k : Int), .slice none 0 0] 36, Asn.blk bR, .box (w.heap.size) [.int .i64 0, .slice none 0 0] 36] ((w2.alloc (.cells #[.int .i64 (k : Int), .slice none 0 0] 36))) := (H2.allocAt (w2.heap.size) [.int .i64 (k : Int), .slice none 0 0] 36 (by simp))
 clear Tc0 Tc1 Tl
 clear H2
 generalize (w2.alloc (.cells #[.int .i64 (k : Int), .slice none 0 0] 36)) = w3 at *
 have HR2 := HRn
 clear HRn
 have HPE := Zh (show p = if s.bad ≠ 0 then (⟨0, []⟩, s) else (⟨((k : Nat) : Int), []⟩, s) from by rw [HP.out]; exact cell_eq HK.out HX.out)
 have HER := Zh (fun hh => err_any bR s w3 hh)
 obtain ⟨bd, hbd⟩ : ∃ n, n = s.bad := ⟨_, rfl⟩
 rw [← hbd] at HPE HER
 clear hbd
 have Cc0 := H3.cell 0 rfl 0 rfl
 have Cc1 := H3.cell 0 rfl 1 rfl
 have Cl := H3.lt 0 rfl
 have Tc0 := H3.cell 2 rfl 0 rfl
 have Tc1 := H3.cell 2 rfl 1 rfl
 have Tf0 := H3.free 2 rfl 0
 have Tf1 := H3.free 2 rfl 1
 have Tl := H3.lt 2 rfl
 have CnT := H3.ne 0 2 rfl rfl (by decide)
 have TnC := H3.ne 2 0 rfl rfl (by decide)
 refine (HER.out HR2.out).mono ?_
 rintro en wz ⟨rfl, rfl⟩
 by_cases hb0 : bd = 0
 ·skip
  have HPE2 := Zh (show p = (⟨((k : Nat) : Int), []⟩, s) from HPE.out.trans (if_neg (by simpa using hb0)))
  rw [hb0, errV_0]
  clear hb0
  have HFF : Sep w (fun k => k = bR) [.box (w.heap.size) [.int .i64 (k : Int), .slice none 0 0] 36, .box (w2.heap.size) [.int .i64 (k : Int), .slice none 0 0] 36, Asn.blk bR] (((w3.setCell ⟨w.heap.size, 0, none⟩ (.int .i64 (k : Int))).setCell ⟨w.heap.size, 1, none⟩ (.slice none 0 0))) := ((H3.set 2 rfl 0 (.int .i64 (k : Int))).set 0 rfl 1 (.slice none 0 0))
  have HRET := Zh (show CTakeR p bR w (.returned (.agg #[.int .i64 (k : Int), .slice none 0 0])) (((w3.setCell ⟨w.heap.size, 0, none⟩ (.int .i64 (k : Int))).setCell ⟨w.heap.size, 1, none⟩ (.slice none 0 0))) from by
   rw [HPE2.out]
   exact ⟨none, 0, rfl, own_nil _ _ _ _, HR2.out.hi (((Fr.refl (fun k => bR < k) _).setH (by omega) _ _).setH (by omega) _ _), HFF.fr⟩)
  clear HFF
  go_wp2
  refine bodyPost_ret (v := .agg #[.int .i64 (k : Int), .slice none 0 0]) (by simp [results, Tryz.results215, go_sem, Cc0, Cc1, Tc0, Tc1]) rfl HRET.out
 ·skip
  have HPE2 := Zh (show p = (⟨0, []⟩, s) from HPE.out.trans (if_pos hb0))
  rw [errV_pos hb0]
  clear hb0
  have HFF : Sep w (fun k => k = bR) [.box (w.heap.size) [.int .i64 0, .slice none 0 0] 36, .box (w2.heap.size) [.int .i64 (k : Int), .slice none 0 0] 36, Asn.blk bR] (((w3.setCell ⟨w.heap.size, 0, none⟩ (.int .i64 0)).setCell ⟨w.heap.size, 1, none⟩ (.slice none 0 0))) := ((H3.set 2 rfl 0 (.int .i64 0)).set 0 rfl 1 (.slice none 0 0))
  have HRET := Zh (show CTakeR p bR w (.returned (.agg #[.int .i64 0, .slice none 0 0])) (((w3.setCell ⟨w.heap.size, 0, none⟩ (.int .i64 0)).setCell ⟨w.heap.size, 1, none⟩ (.slice none 0 0))) from by
   rw [HPE2.out]
   exact ⟨none, 0, rfl, own_nil _ _ _ _, HR2.out.hi (((Fr.refl (fun k => bR < k) _).setH (by omega) _ _).setH (by omega) _ _), HFF.fr⟩)
  clear HFF
  go_wp2
  refine bodyPost_ret (v := .agg #[.int .i64 0, .slice none 0 0]) (by simp [results, Tryz.results215, go_sem, Cc0, Cc1, Tc0, Tc1]) rfl HRET.out
end Go.Proofs.YtcpkeddgkpjioaaGreatDoor

namespace Go.Proofs.YtcpkeddgkpjioaaGreatDoor
open Go.RowKit

def datA (x : Ent) : Asn := .row 5 1 (.slice x.2.2.1 x.2.1.d.length x.2.2.2) x.2.1.d.length (byteVs x.2.1.d)
def EntsTR (p : List (Int × C) × RD) (b : Nat) (w : World) (en : Ending) (w' : World) : Prop :=
 ∃ (E : List Ent) (a : Option Addr) (c : Nat), en = .returned (.slice a E.length c) ∧ docE E = p.1 ∧ w'.ownsRow w.heap.size 238 3 (.slice a E.length c) E.length (ents E) ∧
  (∀ x ∈ E, w'.ownsRow w.heap.size 5 1 (.slice x.2.2.1 x.2.1.d.length x.2.2.2) x.2.1.d.length (byteVs x.2.1.d)) ∧ RAt w' b p.2 ∧ Fr (fun k => k = b) w w'
theorem ents_next {n k : Nat} {f : Int} {s : RD} {acc : List (Int × C)} {P : List (Int × C) × RD} (hk : k < n) (h : RD.ents (n - k) f s acc = P) :
  (if (s.by1 f).cell.2.bad ≠ 0 then ([], (s.by1 f).cell.2) else RD.ents (n - (k + 1)) (f + (s.num.1 : Nat) + 1) (s.by1 f).cell.2 (acc ++ [(f + (s.num.1 : Nat), (s.by1 f).cell.1)])) = P := by
 rw [show n - k = (n - (k + 1)) + 1 by omega] at h
 exact h
set_option maxHeartbeats 8000000 in
theorem rents_any (bR : Nat) (r : RD) (f0 : Int) (h0 : 0 ≤ f0) (h1 : f0 ≤ 1048576) (w : World) (h : RAt w bR r) :
  Calls Tryz.prog 170 #[.pointer (some ⟨bR, 0, none⟩), .int .i64 f0] w (EntsTR (RD.ents (min r.num.1 65536) f0 (if 65536 < r.num.1 then r.num.2.fail 3 else r.num.2) []) bR w) := by
 have HR := Lib.hid' h
 have hbl := h.lt
 clear h
 obtain ⟨m, hm⟩ : ∃ m, m = r.num.1 := ⟨_, rfl⟩
 obtain ⟨s, hs⟩ : ∃ s, s = r.num.2 := ⟨_, rfl⟩
 have hmlt : m < 18446744073709551616 := by rw [hm]; exact RD.num_lt r
 have hnu := fun wq hq => number_any bR r wq hq
 rw [← hm, ← hs] at hnu ⊢
 have HNU := Lib.hid' hnu
 clear hnu hm hs
 obtain ⟨n, hn⟩ : ∃ n, n = min m 65536 := ⟨_, rfl⟩
 have hn6 : n ≤ 65536 := by omega
 have HMN := Zh (show min (m : Int) 65536 = (n : Int) by omega)
 obtain ⟨s0, hs0⟩ : ∃ s0, s0 = if 65536 < m then s.fail 3 else s := ⟨_, rfl⟩
 rw [← hn, ← hs0]
 obtain ⟨P, hP⟩ : ∃ P, P = RD.ents n f0 s0 [] := ⟨_, rfl⟩
 rw [← hP]
 have HC := Zh (show RD.ents (n - 0) f0 s0 [] = P from hP.symm)
 clear hP
 go_enter Tryz.func170, Tryz.ntmps170
 go_wp2_with fail
 have H0 : Sep w (fun k => k = bR) [Asn.blk bR] w := Sep.blk0 hbl
 refine (HNU.out w HR.out).mono ?_
 clear HNU
 rintro en w1 ⟨rfl, hr1, hf1⟩
 have HR1 := Lib.hid' hr1
 clear hr1
 have H1 : Sep w (fun k => k = bR) [Asn.blk bR] (w1) := (H0.rd 0 rfl hf1)
 clear H0 hf1
 by_cases h6 : 65536 < m
 ·skip
  rw [if_pos h6] at hs0
  subst hs0
  go_wp2_with fail
  refine (fail_any bR s 3 (by decide) w1 HR1.out).mono ?_
  rintro en w2 ⟨rfl, hr2, hf2⟩
  have HR2 := Lib.hid' hr2
  clear hr2 HR1
  have H2 : Sep w (fun k => k = bR) [Asn.blk bR] (w2) := (H1.rd 0 rfl hf2)
  clear H1 hf2
  obtain ⟨s0, hs0⟩ : ∃ s0, s0 = s.fail 3 := ⟨_, rfl⟩
  rw [← hs0] at HC HR2
  clear hs0
  clear hn
  go_wp2_with fail
  have H3 : Sep w (fun k => k = bR) [Asn.all (([] : List Ent).map datA), .row 238 3 (.slice none 0 0) (0) ([]), Asn.blk bR] (w2) := ((H2.nilRow 238 3).none datA)
  clear H2
  go_loopw [18, 1, 6] (fun v18 v1 v6 wr => ∃ (k : Nat) (s : RD) (f : Int) (E : List Ent) (la : Option Addr) (lc : Nat), v18 = .int .u64 k ∧ v1 = .int .i64 f ∧ v6 = .slice la E.length lc ∧ k ≤ n ∧ 0 ≤ f ∧ f ≤ 1048576 ∧ Hid (E.length = k) ∧ Hid (RD.ents (n - k) f s (docE E) = P) ∧ Hid (RAt wr bR s) ∧ Sep w (fun k => k = bR) [Asn.all (E.map datA), .row 238 3 (.slice la E.length lc) E.length (ents E), Asn.blk bR] wr) (fun v18 _ _ _ => n - (intOf v18).toNat)
  case atStart => exact ⟨0, s0, f0, [], none, 0, rfl, rfl, rfl, Nat.zero_le _, h0, h1, Lib.hid' rfl, HC, HR2, H3⟩
  case round =>
   clear HC HR2 H3 h0 h1
   obtain ⟨k, s, f, E, la, lc, rfl, rfl, rfl, hk, h0, h1, HL, HC, HR, H0⟩ := hrel
   by_cases hlt : k < n
   ·skip
    have hgo : decide ((k : Int) < min (m : Int) 65536) = true := decide_eq_true (by have := HMN.out; omega)
    have HNX := Zh (ents_next hlt HC.out)
    have hel : E.length ≤ 65536 := by have := HL.out; omega
    obtain ⟨by', hby⟩ : ∃ m, m = s.num.1 := ⟨_, rfl⟩
    obtain ⟨s1, hs1⟩ : ∃ s1, s1 = s.num.2 := ⟨_, rfl⟩
    have hblt : by' < 18446744073709551616 := by rw [hby]; exact RD.num_lt s
    have HBY1 := Zh (show s.by1 f = if (1048576 - f).toNat ≤ by' then s1.fail 1 else s1 by rw [hby, hs1]; rfl)
    have hnu := number_any bR s wr HR.out
    rw [← hby] at HNX
    rw [← hby, ← hs1] at hnu
    have HNU := Lib.hid' hnu
    clear hnu hby hs1 HC
    go_wp2_with fail
    refine HNU.out.mono ?_
    clear HNU
    rintro en w1 ⟨rfl, hr1, hf1⟩
    have HR1 := Lib.hid' hr1
    clear hr1 HR
    have H1 : Sep w (fun k => k = bR) [Asn.blk bR, Asn.all (E.map datA), .row 238 3 (.slice la E.length lc) (E.length) (ents E)] (w1) := (H0.rd 2 rfl hf1)
    clear H0 hf1
    by_cases hrg : (1048576 - f).toNat ≤ by'
    ·skip
     rw [if_pos hrg] at HBY1
     have hrg2 : (1048576 - f) ≤ (by' : Int) := by omega
     clear hrg
     go_wp2_with fail
     refine (fail_any bR s1 1 (by decide) w1 HR1.out).mono ?_
     rintro en w2 ⟨rfl, hr2, hf2⟩
     have HR2 := Lib.hid' hr2
     clear hr2 HR1
     have H2 : Sep w (fun k => k = bR) [Asn.blk bR, Asn.all (E.map datA), .row 238 3 (.slice la E.length lc) (E.length) (ents E)] (w2) := (H1.rd 0 rfl hf2)
     clear H1 hf2
     go_wp2_with fail
     obtain ⟨q, hq⟩ : ∃ q, q = (s1.fail 1).cell := ⟨_, rfl⟩
     have hct := ctake_any bR (s1.fail 1) w2 HR2.out
     rw [← hq] at hct
     rw [HBY1.out, ← hq] at HNX

     have HBD := Zh (show q.2.bad ≠ 0 by rw [hq, RD.cell_bad (RD.fail_bad _ (by decide))]; exact RD.fail_bad _ (by decide))
     obtain ⟨cc, s2⟩ := q
     simp only at HNX hct
     have HCT := Lib.hid' hct
     clear hct hq
     refine HCT.out.mono ?_
     clear HCT
     rintro en w3 ⟨da, dc, rfl, ho, hr3, hf3⟩
     simp only at ho hr3 ⊢
     have HR3 := Lib.hid' hr3
     clear hr3 HR2
     have H3 : Sep w (fun k => k = bR) [.row 5 1 (.slice da cc.d.length dc) (cc.d.length) (byteVs cc.d), Asn.blk bR, Asn.all (E.map datA), .row 238 3 (.slice la E.length lc) (E.length) (ents E)] (w3) := (H2.rdRow 0 rfl hf3 ho)
     clear H2 hf3 ho
     have hB3 : bR < w3.heap.size := HR3.out.lt
     go_wp2_with fail
     have HRn := Zh (show RAt ((w3.alloc (.cells #[.int .i64 0, .int .i64 cc.k, .slice da cc.d.length dc] 238))) bR s2 from HR3.out.hi ((Fr.refl (fun k => bR < k) _).allocH _))
     clear HR3
     have H4 : Sep w (fun k => k = bR) [.box (w3.heap.size) [.int .i64 0, .int .i64 cc.k, .slice da cc.d.length dc] 238, .row 5 1 (.slice da cc.d.length dc) (cc.d.length) (byteVs cc.d), Asn.blk bR, Asn.all (E.map datA), .row 238 3 (.slice la E.length lc) (E.length) (ents E)] ((w3.alloc (.cells #[.int .i64 0, .int .i64 cc.k, .slice da cc.d.length dc] 238))) := (H3.allocAt (w3.heap.size) [.int .i64 0, .int .i64 cc.k, .slice da cc.d.length dc] 238 (by simp))
     clear H3
     generalize (w3.alloc (.cells #[.int .i64 0, .int .i64 cc.k, .slice da cc.d.length dc] 238)) = w4 at *
     have HR3 := HRn
     clear HRn
     have HER := Zh (err_any bR s2 w4 HR3.out)
     obtain ⟨bd, hbd⟩ : ∃ n, n = s2.bad := ⟨_, rfl⟩
     rw [← hbd] at HER HNX
     have hb0 : bd ≠ 0 := by rw [hbd]; exact HBD.out
     clear HBD
     clear hbd
     refine HER.out.mono ?_
     clear HER
     rintro en wz ⟨rfl, rfl⟩
     have HPE := Zh (show ([], s2) = P by have := HNX.out; rwa [if_pos hb0] at this)
     rw [errV_pos hb0]
     clear hb0
     go_wp2
     go_ret
     rw [← HPE.out]
     exact ⟨[], none, 0, rfl, rfl, own_nil _ _ _ _, by simp, HR3.out, H4.fr⟩
    rw [if_neg hrg] at HBY1
    have hrg2 : ¬ (1048576 - f) ≤ (by' : Int) := by omega
    go_wp2_with fail
    obtain ⟨q, hq⟩ : ∃ q, q = (s1).cell := ⟨_, rfl⟩
    have hct := ctake_any bR (s1) w1 HR1.out
    rw [← hq] at hct
    rw [HBY1.out, ← hq] at HNX

    obtain ⟨cc, s2⟩ := q
    simp only at HNX hct
    have HCT := Lib.hid' hct
    clear hct hq
    refine HCT.out.mono ?_
    clear HCT
    rintro en w3 ⟨da, dc, rfl, ho, hr3, hf3⟩
    simp only at ho hr3 ⊢
    have HR3 := Lib.hid' hr3
    clear hr3 HR1
    have H2 : Sep w (fun k => k = bR) [.row 5 1 (.slice da cc.d.length dc) (cc.d.length) (byteVs cc.d), Asn.blk bR, Asn.all (E.map datA), .row 238 3 (.slice la E.length lc) (E.length) (ents E)] (w3) := (H1.rdRow 0 rfl hf3 ho)
    clear H1 hf3 ho
    have hB3 : bR < w3.heap.size := HR3.out.lt
    go_wp2_with fail
    have HRn := Zh (show RAt ((w3.alloc (.cells #[.int .i64 0, .int .i64 cc.k, .slice da cc.d.length dc] 238))) bR s2 from HR3.out.hi ((Fr.refl (fun k => bR < k) _).allocH _))
    clear HR3
    have H3 : Sep w (fun k => k = bR) [.box (w3.heap.size) [.int .i64 0, .int .i64 cc.k, .slice da cc.d.length dc] 238, .row 5 1 (.slice da cc.d.length dc) (cc.d.length) (byteVs cc.d), Asn.blk bR, Asn.all (E.map datA), .row 238 3 (.slice la E.length lc) (E.length) (ents E)] ((w3.alloc (.cells #[.int .i64 0, .int .i64 cc.k, .slice da cc.d.length dc] 238))) := (H2.allocAt (w3.heap.size) [.int .i64 0, .int .i64 cc.k, .slice da cc.d.length dc] 238 (by simp))
    clear H2
    generalize (w3.alloc (.cells #[.int .i64 0, .int .i64 cc.k, .slice da cc.d.length dc] 238)) = w4 at *
    have HR3 := HRn
    clear HRn
    have HER := Zh (err_any bR s2 w4 HR3.out)
    obtain ⟨bd, hbd⟩ : ∃ n, n = s2.bad := ⟨_, rfl⟩
    rw [← hbd] at HER HNX
    clear hbd
    refine HER.out.mono ?_
    clear HER
    rintro en wz ⟨rfl, rfl⟩
    by_cases hb0 : bd ≠ 0
    ·skip
     have HPE := Zh (show ([], s2) = P by have := HNX.out; rwa [if_pos hb0] at this)
     rw [errV_pos hb0]
     clear hb0
     go_wp2
     go_ret
     rw [← HPE.out]
     exact ⟨[], none, 0, rfl, rfl, own_nil _ _ _ _, by simp, HR3.out, H3.fr⟩
    have hb1 : bd = 0 := by simpa using hb0
    have HNN := Zh (show RD.ents (n - (k + 1)) (f + (by' : Nat) + 1) s2 (docE E ++ [(f + (by' : Nat), cc)]) = P by have := HNX.out; rwa [if_neg hb0] at this)
    rw [hb1, errV_0]
    clear hb0 hb1 HNX
    have g0 : 0 ≤ f + (by' : Int) := by omega
    have g1 : f + (by' : Int) < 1048576 := by omega
    have Ec0 := H3.cell 0 rfl 0 rfl
    have Ec1 := H3.cell 0 rfl 1 rfl
    have Ec2 := H3.cell 0 rfl 2 rfl
    have Ef0 := H3.free 0 rfl 0
    have Ef1 := H3.free 0 rfl 1
    have Ef2 := H3.free 0 rfl 2
    have El := H3.lt 0 rfl
    go_upto_region 15 with fail
    have HRn := Zh (show RAt ((w4.setCell ⟨w3.heap.size, 0, none⟩ (.int .i64 (f + (by' : Int))))) bR s2 from HR3.out.hi ((Fr.refl (fun k => bR < k) _).setH (by omega) _ _))
    clear HR3
    have H4 : Sep w (fun k => k = bR) [.box (w3.heap.size) [.int .i64 (f + (by' : Int)), .int .i64 cc.k, .slice da cc.d.length dc] 238, .row 5 1 (.slice da cc.d.length dc) (cc.d.length) (byteVs cc.d), Asn.blk bR, Asn.all (E.map datA), .row 238 3 (.slice la E.length lc) (E.length) (ents E)] ((w4.setCell ⟨w3.heap.size, 0, none⟩ (.int .i64 (f + (by' : Int))))) := (H3.set 0 rfl 0 (.int .i64 (f + (by' : Int))))
    clear Ec0 Ec1 Ec2 Ef0 Ef1 Ef2 El
    clear H3
    generalize (w4.setCell ⟨w3.heap.size, 0, none⟩ (.int .i64 (f + (by' : Int)))) = w5 at *
    have HR3 := HRn
    clear HRn
    have Ec0 := H4.cell 0 rfl 0 rfl
    have Ec1 := H4.cell 0 rfl 1 rfl
    have Ec2 := H4.cell 0 rfl 2 rfl
    have El := H4.lt 0 rfl
    have HRH := Zh (H4.rowHi hbl 4 2 (by decide) rfl rfl)
    go_wp2_with (at_builtin; refine Sep.appendF etEnt rfl (.tmp 44) (.tmp 46) rfl [.int .i64 (f + (by' : Int)), .int .i64 cc.k, .slice da cc.d.length dc] rfl H4 4 rfl rfl rfl (by simp [Value.oneCell']) (by omega) ?_)
    intro la2 lc2 w6 HA hfa
    have H5 : Sep w (fun k => k = bR) [.row 238 3 (.slice la2 (E.length + 1) lc2) (E.length + 1) (ents E ++ [.int .i64 (f + (by' : Int)), .int .i64 cc.k, .slice da cc.d.length dc]), .box (w3.heap.size) [.int .i64 (f + (by' : Int)), .int .i64 cc.k, .slice da cc.d.length dc] 238, .row 5 1 (.slice da cc.d.length dc) (cc.d.length) (byteVs cc.d), Asn.blk bR, Asn.all (E.map datA)] (w6) := HA
    clear Ec0 Ec1 Ec2 El
    clear HA H4
    have HR6 := Zh (HR3.out.high hfa HRH.out)
    clear hfa HRH HR3
    go_wp2_with fail
    have H6 : Sep w (fun k => k = bR) [.row 5 1 (.slice da cc.d.length dc) (cc.d.length) (byteVs cc.d), Asn.all (E.map datA), .row 238 3 (.slice la2 (E.length + 1) lc2) (E.length + 1) (ents E ++ [.int .i64 (f + (by' : Int)), .int .i64 cc.k, .slice da cc.d.length dc]), Asn.blk bR] (w6) := (((((H5.drop 1).focus 2 rfl).focus 1 rfl).focus 3 rfl).focus 3 rfl)
    clear H5
    have HL9 := Zh (show (E ++ [((f + (by' : Int)), cc, da, dc)]).length = E.length + 1 by simp)
    have HF9 : Sep w (fun k => k = bR) [Asn.all ((E ++ [((f + (by' : Int)), cc, da, dc)]).map datA), .row 238 3 (.slice la2 (E ++ [((f + (by' : Int)), cc, da, dc)]).length lc2) (E ++ [((f + (by' : Int)), cc, da, dc)]).length (ents (E ++ [((f + (by' : Int)), cc, da, dc)])), Asn.blk bR] w6 := by
     have h9 := Sep.push datA (y := ((f + (by' : Int)), cc, da, dc)) (Ks := E) H6
     rw [HL9.out, ents_append]
     exact h9
    clear H6
    go_roundw
    case rel => exact ⟨k + 1, s2, f + (by' : Int) + 1, E ++ [((f + (by' : Int)), cc, da, dc)], la2, lc2, by go_num, rfl, by rw [HL9.out], by omega, by omega, by omega, Zh (by rw [HL9.out, HL.out]), Zh (by unfold docE at *; rw [List.map_append]; exact HNN.out), HR6, HF9⟩
    case measure => simp [intOf]; omega
   obtain rfl : k = n := by omega
   have hgo : decide ((k : Int) < min (m : Int) 65536) = false := decide_eq_false (by have := HMN.out; omega)
   have HPE := Zh (show (docE E, s) = P by have := HC.out; rwa [Nat.sub_self] at this)
   go_wp2
   go_ret
   rw [← HPE.out]
   exact ⟨E, la, lc, rfl, rfl, H0.own1 1 2 (by decide) rfl rfl, fun x hx => H0.oneAt datA 0 2 (by decide) rfl rfl hx rfl, HR.out, H0.fr⟩
 ·skip
  rw [if_neg h6] at hs0
  subst hs0
  clear hn
  go_wp2_with fail
  have H2 : Sep w (fun k => k = bR) [Asn.all (([] : List Ent).map datA), .row 238 3 (.slice none 0 0) (0) ([]), Asn.blk bR] (w1) := ((H1.nilRow 238 3).none datA)
  clear H1
  go_loopw [18, 1, 6] (fun v18 v1 v6 wr => ∃ (k : Nat) (s : RD) (f : Int) (E : List Ent) (la : Option Addr) (lc : Nat), v18 = .int .u64 k ∧ v1 = .int .i64 f ∧ v6 = .slice la E.length lc ∧ k ≤ n ∧ 0 ≤ f ∧ f ≤ 1048576 ∧ Hid (E.length = k) ∧ Hid (RD.ents (n - k) f s (docE E) = P) ∧ Hid (RAt wr bR s) ∧ Sep w (fun k => k = bR) [Asn.all (E.map datA), .row 238 3 (.slice la E.length lc) E.length (ents E), Asn.blk bR] wr) (fun v18 _ _ _ => n - (intOf v18).toNat)
  case atStart => exact ⟨0, s0, f0, [], none, 0, rfl, rfl, rfl, Nat.zero_le _, h0, h1, Lib.hid' rfl, HC, HR1, H2⟩
  case round =>
   clear HC HR1 H2 h0 h1
   obtain ⟨k, s, f, E, la, lc, rfl, rfl, rfl, hk, h0, h1, HL, HC, HR, H0⟩ := hrel
   by_cases hlt : k < n
   ·skip
    have hgo : decide ((k : Int) < min (m : Int) 65536) = true := decide_eq_true (by have := HMN.out; omega)
    have HNX := Zh (ents_next hlt HC.out)
    have hel : E.length ≤ 65536 := by have := HL.out; omega
    obtain ⟨by', hby⟩ : ∃ m, m = s.num.1 := ⟨_, rfl⟩
    obtain ⟨s1, hs1⟩ : ∃ s1, s1 = s.num.2 := ⟨_, rfl⟩
    have hblt : by' < 18446744073709551616 := by rw [hby]; exact RD.num_lt s
    have HBY1 := Zh (show s.by1 f = if (1048576 - f).toNat ≤ by' then s1.fail 1 else s1 by rw [hby, hs1]; rfl)
    have hnu := number_any bR s wr HR.out
    rw [← hby] at HNX
    rw [← hby, ← hs1] at hnu
    have HNU := Lib.hid' hnu
    clear hnu hby hs1 HC
    go_wp2_with fail
    refine HNU.out.mono ?_
    clear HNU
    rintro en w1 ⟨rfl, hr1, hf1⟩
    have HR1 := Lib.hid' hr1
    clear hr1 HR
    have H1 : Sep w (fun k => k = bR) [Asn.blk bR, Asn.all (E.map datA), .row 238 3 (.slice la E.length lc) (E.length) (ents E)] (w1) := (H0.rd 2 rfl hf1)
    clear H0 hf1
    by_cases hrg : (1048576 - f).toNat ≤ by'
    ·skip
     rw [if_pos hrg] at HBY1
     have hrg2 : (1048576 - f) ≤ (by' : Int) := by omega
     clear hrg
     go_wp2_with fail
     refine (fail_any bR s1 1 (by decide) w1 HR1.out).mono ?_
     rintro en w2 ⟨rfl, hr2, hf2⟩
     have HR2 := Lib.hid' hr2
     clear hr2 HR1
     have H2 : Sep w (fun k => k = bR) [Asn.blk bR, Asn.all (E.map datA), .row 238 3 (.slice la E.length lc) (E.length) (ents E)] (w2) := (H1.rd 0 rfl hf2)
     clear H1 hf2
     go_wp2_with fail
     obtain ⟨q, hq⟩ : ∃ q, q = (s1.fail 1).cell := ⟨_, rfl⟩
     have hct := ctake_any bR (s1.fail 1) w2 HR2.out
     rw [← hq] at hct
     rw [HBY1.out, ← hq] at HNX

     have HBD := Zh (show q.2.bad ≠ 0 by rw [hq, RD.cell_bad (RD.fail_bad _ (by decide))]; exact RD.fail_bad _ (by decide))
     obtain ⟨cc, s2⟩ := q
     simp only at HNX hct
     have HCT := Lib.hid' hct
     clear hct hq
     refine HCT.out.mono ?_
     clear HCT
     rintro en w3 ⟨da, dc, rfl, ho, hr3, hf3⟩
     simp only at ho hr3 ⊢
     have HR3 := Lib.hid' hr3
     clear hr3 HR2
     have H3 : Sep w (fun k => k = bR) [.row 5 1 (.slice da cc.d.length dc) (cc.d.length) (byteVs cc.d), Asn.blk bR, Asn.all (E.map datA), .row 238 3 (.slice la E.length lc) (E.length) (ents E)] (w3) := (H2.rdRow 0 rfl hf3 ho)
     clear H2 hf3 ho
     have hB3 : bR < w3.heap.size := HR3.out.lt
     go_wp2_with fail
     have HRn := Zh (show RAt ((w3.alloc (.cells #[.int .i64 0, .int .i64 cc.k, .slice da cc.d.length dc] 238))) bR s2 from HR3.out.hi ((Fr.refl (fun k => bR < k) _).allocH _))
     clear HR3
     have H4 : Sep w (fun k => k = bR) [.box (w3.heap.size) [.int .i64 0, .int .i64 cc.k, .slice da cc.d.length dc] 238, .row 5 1 (.slice da cc.d.length dc) (cc.d.length) (byteVs cc.d), Asn.blk bR, Asn.all (E.map datA), .row 238 3 (.slice la E.length lc) (E.length) (ents E)] ((w3.alloc (.cells #[.int .i64 0, .int .i64 cc.k, .slice da cc.d.length dc] 238))) := (H3.allocAt (w3.heap.size) [.int .i64 0, .int .i64 cc.k, .slice da cc.d.length dc] 238 (by simp))
     clear H3
     generalize (w3.alloc (.cells #[.int .i64 0, .int .i64 cc.k, .slice da cc.d.length dc] 238)) = w4 at *
     have HR3 := HRn
     clear HRn
     have HER := Zh (err_any bR s2 w4 HR3.out)
     obtain ⟨bd, hbd⟩ : ∃ n, n = s2.bad := ⟨_, rfl⟩
     rw [← hbd] at HER HNX
     have hb0 : bd ≠ 0 := by rw [hbd]; exact HBD.out
     clear HBD
     clear hbd
     refine HER.out.mono ?_
     clear HER
     rintro en wz ⟨rfl, rfl⟩
     have HPE := Zh (show ([], s2) = P by have := HNX.out; rwa [if_pos hb0] at this)
     rw [errV_pos hb0]
     clear hb0
     go_wp2
     go_ret
     rw [← HPE.out]
     exact ⟨[], none, 0, rfl, rfl, own_nil _ _ _ _, by simp, HR3.out, H4.fr⟩
    rw [if_neg hrg] at HBY1
    have hrg2 : ¬ (1048576 - f) ≤ (by' : Int) := by omega
    go_wp2_with fail
    obtain ⟨q, hq⟩ : ∃ q, q = (s1).cell := ⟨_, rfl⟩
    have hct := ctake_any bR (s1) w1 HR1.out
    rw [← hq] at hct
    rw [HBY1.out, ← hq] at HNX

    obtain ⟨cc, s2⟩ := q
    simp only at HNX hct
    have HCT := Lib.hid' hct
    clear hct hq
    refine HCT.out.mono ?_
    clear HCT
    rintro en w3 ⟨da, dc, rfl, ho, hr3, hf3⟩
    simp only at ho hr3 ⊢
    have HR3 := Lib.hid' hr3
    clear hr3 HR1
    have H2 : Sep w (fun k => k = bR) [.row 5 1 (.slice da cc.d.length dc) (cc.d.length) (byteVs cc.d), Asn.blk bR, Asn.all (E.map datA), .row 238 3 (.slice la E.length lc) (E.length) (ents E)] (w3) := (H1.rdRow 0 rfl hf3 ho)
    clear H1 hf3 ho
    have hB3 : bR < w3.heap.size := HR3.out.lt
    go_wp2_with fail
    have HRn := Zh (show RAt ((w3.alloc (.cells #[.int .i64 0, .int .i64 cc.k, .slice da cc.d.length dc] 238))) bR s2 from HR3.out.hi ((Fr.refl (fun k => bR < k) _).allocH _))
    clear HR3
    have H3 : Sep w (fun k => k = bR) [.box (w3.heap.size) [.int .i64 0, .int .i64 cc.k, .slice da cc.d.length dc] 238, .row 5 1 (.slice da cc.d.length dc) (cc.d.length) (byteVs cc.d), Asn.blk bR, Asn.all (E.map datA), .row 238 3 (.slice la E.length lc) (E.length) (ents E)] ((w3.alloc (.cells #[.int .i64 0, .int .i64 cc.k, .slice da cc.d.length dc] 238))) := (H2.allocAt (w3.heap.size) [.int .i64 0, .int .i64 cc.k, .slice da cc.d.length dc] 238 (by simp))
    clear H2
    generalize (w3.alloc (.cells #[.int .i64 0, .int .i64 cc.k, .slice da cc.d.length dc] 238)) = w4 at *
    have HR3 := HRn
    clear HRn
    have HER := Zh (err_any bR s2 w4 HR3.out)
    obtain ⟨bd, hbd⟩ : ∃ n, n = s2.bad := ⟨_, rfl⟩
    rw [← hbd] at HER HNX
    clear hbd
    refine HER.out.mono ?_
    clear HER
    rintro en wz ⟨rfl, rfl⟩
    by_cases hb0 : bd ≠ 0
    ·skip
     have HPE := Zh (show ([], s2) = P by have := HNX.out; rwa [if_pos hb0] at this)
     rw [errV_pos hb0]
     clear hb0
     go_wp2
     go_ret
     rw [← HPE.out]
     exact ⟨[], none, 0, rfl, rfl, own_nil _ _ _ _, by simp, HR3.out, H3.fr⟩
    have hb1 : bd = 0 := by simpa using hb0
    have HNN := Zh (show RD.ents (n - (k + 1)) (f + (by' : Nat) + 1) s2 (docE E ++ [(f + (by' : Nat), cc)]) = P by have := HNX.out; rwa [if_neg hb0] at this)
    rw [hb1, errV_0]
    clear hb0 hb1 HNX
    have g0 : 0 ≤ f + (by' : Int) := by omega
    have g1 : f + (by' : Int) < 1048576 := by omega
    have Ec0 := H3.cell 0 rfl 0 rfl
    have Ec1 := H3.cell 0 rfl 1 rfl
    have Ec2 := H3.cell 0 rfl 2 rfl
    have Ef0 := H3.free 0 rfl 0
    have Ef1 := H3.free 0 rfl 1
    have Ef2 := H3.free 0 rfl 2
    have El := H3.lt 0 rfl
    go_upto_region 15 with fail
    have HRn := Zh (show RAt ((w4.setCell ⟨w3.heap.size, 0, none⟩ (.int .i64 (f + (by' : Int))))) bR s2 from HR3.out.hi ((Fr.refl (fun k => bR < k) _).setH (by omega) _ _))
    clear HR3
    have H4 : Sep w (fun k => k = bR) [.box (w3.heap.size) [.int .i64 (f + (by' : Int)), .int .i64 cc.k, .slice da cc.d.length dc] 238, .row 5 1 (.slice da cc.d.length dc) (cc.d.length) (byteVs cc.d), Asn.blk bR, Asn.all (E.map datA), .row 238 3 (.slice la E.length lc) (E.length) (ents E)] ((w4.setCell ⟨w3.heap.size, 0, none⟩ (.int .i64 (f + (by' : Int))))) := (H3.set 0 rfl 0 (.int .i64 (f + (by' : Int))))
    clear Ec0 Ec1 Ec2 Ef0 Ef1 Ef2 El
    clear H3
    generalize (w4.setCell ⟨w3.heap.size, 0, none⟩ (.int .i64 (f + (by' : Int)))) = w5 at *
    have HR3 := HRn
    clear HRn
    have Ec0 := H4.cell 0 rfl 0 rfl
    have Ec1 := H4.cell 0 rfl 1 rfl
    have Ec2 := H4.cell 0 rfl 2 rfl
    have El := H4.lt 0 rfl
    have HRH := Zh (H4.rowHi hbl 4 2 (by decide) rfl rfl)
    go_wp2_with (at_builtin; refine Sep.appendF etEnt rfl (.tmp 44) (.tmp 46) rfl [.int .i64 (f + (by' : Int)), .int .i64 cc.k, .slice da cc.d.length dc] rfl H4 4 rfl rfl rfl (by simp [Value.oneCell']) (by omega) ?_)
    intro la2 lc2 w6 HA hfa
    have H5 : Sep w (fun k => k = bR) [.row 238 3 (.slice la2 (E.length + 1) lc2) (E.length + 1) (ents E ++ [.int .i64 (f + (by' : Int)), .int .i64 cc.k, .slice da cc.d.length dc]), .box (w3.heap.size) [.int .i64 (f + (by' : Int)), .int .i64 cc.k, .slice da cc.d.length dc] 238, .row 5 1 (.slice da cc.d.length dc) (cc.d.length) (byteVs cc.d), Asn.blk bR, Asn.all (E.map datA)] (w6) := HA
    clear Ec0 Ec1 Ec2 El
    clear HA H4
    have HR6 := Zh (HR3.out.high hfa HRH.out)
    clear hfa HRH HR3
    go_wp2_with fail
    have H6 : Sep w (fun k => k = bR) [.row 5 1 (.slice da cc.d.length dc) (cc.d.length) (byteVs cc.d), Asn.all (E.map datA), .row 238 3 (.slice la2 (E.length + 1) lc2) (E.length + 1) (ents E ++ [.int .i64 (f + (by' : Int)), .int .i64 cc.k, .slice da cc.d.length dc]), Asn.blk bR] (w6) := (((((H5.drop 1).focus 2 rfl).focus 1 rfl).focus 3 rfl).focus 3 rfl)
    clear H5
    have HL9 := Zh (show (E ++ [((f + (by' : Int)), cc, da, dc)]).length = E.length + 1 by simp)
    have HF9 : Sep w (fun k => k = bR) [Asn.all ((E ++ [((f + (by' : Int)), cc, da, dc)]).map datA), .row 238 3 (.slice la2 (E ++ [((f + (by' : Int)), cc, da, dc)]).length lc2) (E ++ [((f + (by' : Int)), cc, da, dc)]).length (ents (E ++ [((f + (by' : Int)), cc, da, dc)])), Asn.blk bR] w6 := by
     have h9 := Sep.push datA (y := ((f + (by' : Int)), cc, da, dc)) (Ks := E) H6
     rw [HL9.out, ents_append]
     exact h9
    clear H6
    go_roundw
    case rel => exact ⟨k + 1, s2, f + (by' : Int) + 1, E ++ [((f + (by' : Int)), cc, da, dc)], la2, lc2, by go_num, rfl, by rw [HL9.out], by omega, by omega, by omega, Zh (by rw [HL9.out, HL.out]), Zh (by unfold docE at *; rw [List.map_append]; exact HNN.out), HR6, HF9⟩
    case measure => simp [intOf]; omega
   obtain rfl : k = n := by omega
   have hgo : decide ((k : Int) < min (m : Int) 65536) = false := decide_eq_false (by have := HMN.out; omega)
   have HPE := Zh (show (docE E, s) = P by have := HC.out; rwa [Nat.sub_self] at this)
   go_wp2
   go_ret
   rw [← HPE.out]
   exact ⟨E, la, lc, rfl, rfl, H0.own1 1 2 (by decide) rfl rfl, fun x hx => H0.oneAt datA 0 2 (by decide) rfl rfl hx rfl, HR.out, H0.fr⟩
end Go.Proofs.YtcpkeddgkpjioaaGreatDoor
