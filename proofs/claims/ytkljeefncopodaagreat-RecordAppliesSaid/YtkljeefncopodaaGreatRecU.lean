/- Layers 5, 9: cells and units of bytes. -/
import Derived.Test.YtkljeefncopodaaGreatRecN
import Derived.Test.YtkljeefncopodaaGreatSepR
import Derived.Test.YtkljeefncopodaaGreatUMakC
import Derived.Test.YtkljeefncopodaaGreatRefV
namespace Go.Proofs.YtkljeefncopodaaGreat
open Go.RowKit
set_option linter.unusedSimpArgs false
set_option linter.unusedVariables false
set_option maxRecDepth 100000

def CTakeR (p : C × RD) (b : Nat) (w : World) (e : Ending) (w' : World) : Prop :=
  ∃ a c, e = .returned (.agg #[.int .i64 p.1.k, .slice a p.1.d.length c]) ∧ w'.ownsRow w.heap.size 5 1 (.slice a p.1.d.length c) p.1.d.length (byteVs p.1.d) ∧ RAt w' b p.2 ∧ Fr (fun k => k = b) w w'
theorem cell_eq {r s s2 : RD} {k : Nat} {d : List UInt8} (h1 : r.within 3 = (k, s)) (h2 : (if k = 1 then s.text 64 else ([], s)) = (d, s2)) : r.cell = if s2.bad ≠ 0 then (⟨0, []⟩, s2) else (⟨(k : Nat), d⟩, s2) := by
  unfold RD.cell
  rw [h1]
  simp only
  rw [h2]
set_option maxHeartbeats 4000000 in
theorem ctake_any (bR : Nat) (r : RD) (w : World) (h : RAt w bR r) : Calls Tryz.prog 117 #[.pointer (some ⟨bR, 0, none⟩)] w (CTakeR r.cell bR w) := by
  have HR := Lib.hid' h
  have hbl := h.lt
  clear h
  obtain ⟨p, hp⟩ : ∃ p, p = r.cell := ⟨_, rfl⟩
  have HP := Lib.hid' hp
  rw [← hp]
  clear hp
  go_enter Tryz.func117, Tryz.ntmps117
  go_wp2_with fail
  have H0 : Sep w (fun k => k = bR) [Asn.blk bR] w := Sep.blk0 hbl
  have hT : bR < w.heap.size := hbl
  have HRn := Lib.hid' (show RAt ((w.alloc (.cells #[.int .i64 0, .slice none 0 0] 116))) bR r from HR.out.hi ((Fr.refl (fun k => bR < k) _).allocH _))
  clear HR
  have H1 : Sep w (fun k => k = bR) [.box (w.heap.size) [.int .i64 0, .slice none 0 0] 116, Asn.blk bR] ((w.alloc (.cells #[.int .i64 0, .slice none 0 0] 116))) := (H0.allocAt (w.heap.size) [.int .i64 0, .slice none 0 0] 116 (by simp))
  clear H0
  generalize (w.alloc (.cells #[.int .i64 0, .slice none 0 0] 116)) = w1 at *
  have HR := HRn
  clear HRn
  obtain ⟨k, hk⟩ : ∃ k, k = (r.within 3).1 := ⟨_, rfl⟩
  obtain ⟨s, hs⟩ : ∃ s, s = (r.within 3).2 := ⟨_, rfl⟩
  have HK := Lib.hid' (show r.within 3 = (k, s) by rw [hk, hs])
  have hwi := within_r_any bR r 3 (by decide) w1 HR.out
  rw [← hk, ← hs] at hwi
  clear hk hs
  refine hwi.mono ?_
  clear hwi
  rintro en w2 ⟨rfl, hr2, hf2⟩
  have HR2 := Lib.hid' hr2
  have hz2 := hf2.size
  clear hr2 HR
  have H2 : Sep w (fun k => k = bR) [Asn.blk bR, .box (w.heap.size) [.int .i64 0, .slice none 0 0] 116] (w2) := (H1.rd 1 rfl hf2)
  clear H1 hf2
  by_cases hk1 : k = 1
  · skip
    subst hk1
    have Tc0 := H2.cell 1 rfl 0 rfl
    have Tc1 := H2.cell 1 rfl 1 rfl
    have Tl := H2.lt 1 rfl
    have hT2 : w.heap.size < w2.heap.size := Tl
    go_wp2_with fail
    have hC : bR < w2.heap.size := by omega
    have HRn := Lib.hid' (show RAt ((w2.alloc (.cells #[.int .i64 1, .slice none 0 0] 116))) bR s from HR2.out.hi ((Fr.refl (fun k => bR < k) _).allocH _))
    clear HR2
    have H3 : Sep w (fun k => k = bR) [.box (w2.heap.size) [.int .i64 1, .slice none 0 0] 116, Asn.blk bR, .box (w.heap.size) [.int .i64 0, .slice none 0 0] 116] ((w2.alloc (.cells #[.int .i64 1, .slice none 0 0] 116))) := (H2.allocAt (w2.heap.size) [.int .i64 1, .slice none 0 0] 116 (by simp))
    clear Tc0 Tc1 Tl
    clear H2
    generalize (w2.alloc (.cells #[.int .i64 1, .slice none 0 0] 116)) = w3 at *
    have HR2 := HRn
    clear HRn
    obtain ⟨x, hx⟩ : ∃ x, x = s.text 64 := ⟨_, rfl⟩
    have htx := text_r_any bR s 64 (by decide) w3 HR2.out
    rw [← hx] at htx
    have HX := Lib.hid' (show (if 1 = 1 then s.text 64 else ([], s)) = x from by rw [if_pos rfl, hx])
    clear hx
    obtain ⟨d, s2⟩ := x
    have HTX := Lib.hid' htx
    clear htx
    refine HTX.out.mono ?_
    clear HTX
    rintro en w4 ⟨ta, tc, rfl, ho, hr4, hf4⟩
    simp only at ho hr4 ⊢
    have HR4 := Lib.hid' hr4
    clear hr4 HR2
    have H4 : Sep w (fun k => k = bR) [.row 5 1 (.slice ta d.length tc) (d.length) (byteVs d), Asn.blk bR, .box (w2.heap.size) [.int .i64 1, .slice none 0 0] 116, .box (w.heap.size) [.int .i64 0, .slice none 0 0] 116] (w4) := (H3.rdRow 1 rfl hf4 ho)
    clear H3 hf4 ho
    have Cc0 := H4.cell 2 rfl 0 rfl
    have Cc1 := H4.cell 2 rfl 1 rfl
    have Cf0 := H4.free 2 rfl 0
    have Cf1 := H4.free 2 rfl 1
    have Cl := H4.lt 2 rfl
    go_upto_region 4 with fail
    have HRn := Lib.hid' (show RAt ((w4.setCell ⟨w2.heap.size, 1, none⟩ (.slice ta d.length tc))) bR s2 from HR4.out.hi ((Fr.refl (fun k => bR < k) _).setH (by omega) _ _))
    clear HR4
    have H5 : Sep w (fun k => k = bR) [.box (w2.heap.size) [.int .i64 1, .slice ta d.length tc] 116, .row 5 1 (.slice ta d.length tc) (d.length) (byteVs d), Asn.blk bR, .box (w.heap.size) [.int .i64 0, .slice none 0 0] 116] ((w4.setCell ⟨w2.heap.size, 1, none⟩ (.slice ta d.length tc))) := (H4.set 2 rfl 1 (.slice ta d.length tc))
    clear Cc0 Cc1 Cf0 Cf1 Cl
    clear H4
    generalize (w4.setCell ⟨w2.heap.size, 1, none⟩ (.slice ta d.length tc)) = w5 at *
    have HR4 := HRn
    clear HRn
    have HPE := Lib.hid' (show p = if s2.bad ≠ 0 then (⟨0, []⟩, s2) else (⟨((1 : Nat) : Int), d⟩, s2) from by rw [HP.out]; exact cell_eq HK.out HX.out)
    have HER := Lib.hid' (fun hh => err_any bR s2 w5 hh)
    obtain ⟨bd, hbd⟩ : ∃ n, n = s2.bad := ⟨_, rfl⟩
    rw [← hbd] at HPE HER
    clear hbd
    have Cc0 := H5.cell 0 rfl 0 rfl
    have Cc1 := H5.cell 0 rfl 1 rfl
    have Cl := H5.lt 0 rfl
    have Tc0 := H5.cell 3 rfl 0 rfl
    have Tc1 := H5.cell 3 rfl 1 rfl
    have Tf0 := H5.free 3 rfl 0
    have Tf1 := H5.free 3 rfl 1
    have Tl := H5.lt 3 rfl
    have CnT := H5.ne 0 3 rfl rfl (by decide)
    have TnC := H5.ne 3 0 rfl rfl (by decide)
    go_wp2_with fail
    refine (HER.out HR4.out).mono ?_
    rintro en wz ⟨rfl, rfl⟩
    by_cases hb0 : bd = 0
    · skip
      have HPE2 := Lib.hid' (show p = (⟨((1 : Nat) : Int), d⟩, s2) from HPE.out.trans (if_neg (by simpa using hb0)))
      rw [hb0, errV_0]
      clear hb0
      have HFF : Sep w (fun k => k = bR) [.box (w.heap.size) [.int .i64 1, .slice ta d.length tc] 116, .box (w2.heap.size) [.int .i64 1, .slice ta d.length tc] 116, .row 5 1 (.slice ta d.length tc) (d.length) (byteVs d), Asn.blk bR] (((w5.setCell ⟨w.heap.size, 0, none⟩ (.int .i64 1)).setCell ⟨w.heap.size, 1, none⟩ (.slice ta d.length tc))) := ((H5.set 3 rfl 0 (.int .i64 1)).set 0 rfl 1 (.slice ta d.length tc))
      have HRET := Lib.hid' (show CTakeR p bR w (.returned (.agg #[.int .i64 1, .slice ta d.length tc])) (((w5.setCell ⟨w.heap.size, 0, none⟩ (.int .i64 1)).setCell ⟨w.heap.size, 1, none⟩ (.slice ta d.length tc))) from by
        rw [HPE2.out]
        exact ⟨ta, tc, rfl, HFF.own1 2 3 (by decide) rfl rfl, HR4.out.hi (((Fr.refl (fun k => bR < k) _).setH (by omega) _ _).setH (by omega) _ _), HFF.fr⟩)
      clear HFF
      go_wp2
      refine bodyPost_ret (v := .agg #[.int .i64 1, .slice ta d.length tc]) (by simp [results, Tryz.results117, go_sem, Cc0, Cc1, Tc0, Tc1]) rfl HRET.out
    · skip
      have HPE2 := Lib.hid' (show p = (⟨0, []⟩, s2) from HPE.out.trans (if_pos hb0))
      rw [errV_pos hb0]
      clear hb0
      have HFF : Sep w (fun k => k = bR) [.box (w.heap.size) [.int .i64 0, .slice none 0 0] 116, .box (w2.heap.size) [.int .i64 1, .slice ta d.length tc] 116, .row 5 1 (.slice ta d.length tc) (d.length) (byteVs d), Asn.blk bR] (((w5.setCell ⟨w.heap.size, 0, none⟩ (.int .i64 0)).setCell ⟨w.heap.size, 1, none⟩ (.slice none 0 0))) := ((H5.set 3 rfl 0 (.int .i64 0)).set 0 rfl 1 (.slice none 0 0))
      have HRET := Lib.hid' (show CTakeR p bR w (.returned (.agg #[.int .i64 0, .slice none 0 0])) (((w5.setCell ⟨w.heap.size, 0, none⟩ (.int .i64 0)).setCell ⟨w.heap.size, 1, none⟩ (.slice none 0 0))) from by
        rw [HPE2.out]
        exact ⟨none, 0, rfl, own_nil _ _ _ _, HR4.out.hi (((Fr.refl (fun k => bR < k) _).setH (by omega) _ _).setH (by omega) _ _), HFF.fr⟩)
      clear HFF
      go_wp2
      refine bodyPost_ret (v := .agg #[.int .i64 0, .slice none 0 0]) (by simp [results, Tryz.results117, go_sem, Cc0, Cc1, Tc0, Tc1]) rfl HRET.out
  have hkb : ((k : Int) == 1) = false := by rw [beq_eq_false_iff_ne]; omega
  have HX := Lib.hid' (show (if k = 1 then s.text 64 else ([], s)) = ([], s) from if_neg hk1)
  clear hk1
  have Tc0 := H2.cell 1 rfl 0 rfl
  have Tc1 := H2.cell 1 rfl 1 rfl
  have Tl := H2.lt 1 rfl
  have hT2 : w.heap.size < w2.heap.size := Tl
  go_wp2_with fail
  have hC : bR < w2.heap.size := by omega
  have HRn := Lib.hid' (show RAt ((w2.alloc (.cells #[.int .i64 (k : Int), .slice none 0 0] 116))) bR s from HR2.out.hi ((Fr.refl (fun k => bR < k) _).allocH _))
  clear HR2
  have H3 : Sep w (fun k => k = bR) [.box (w2.heap.size) [.int .i64 (k : Int), .slice none 0 0] 116, Asn.blk bR, .box (w.heap.size) [.int .i64 0, .slice none 0 0] 116] ((w2.alloc (.cells #[.int .i64 (k : Int), .slice none 0 0] 116))) := (H2.allocAt (w2.heap.size) [.int .i64 (k : Int), .slice none 0 0] 116 (by simp))
  clear Tc0 Tc1 Tl
  clear H2
  generalize (w2.alloc (.cells #[.int .i64 (k : Int), .slice none 0 0] 116)) = w3 at *
  have HR2 := HRn
  clear HRn
  have HPE := Lib.hid' (show p = if s.bad ≠ 0 then (⟨0, []⟩, s) else (⟨((k : Nat) : Int), []⟩, s) from by rw [HP.out]; exact cell_eq HK.out HX.out)
  have HER := Lib.hid' (fun hh => err_any bR s w3 hh)
  obtain ⟨bd, hbd⟩ : ∃ n, n = s.bad := ⟨_, rfl⟩
  rw [← hbd] at HPE HER
  clear hbd
  have Cc0 := H3.cell 0 rfl 0 rfl
  have Cc1 := H3.cell 0 rfl 1 rfl
  have Cl := H3.lt 0 rfl
  have Tc0 := H3.cell 2 rfl 0 rfl
  have Tc1 := H3.cell 2 rfl 1 rfl
  have Tf0 := H3.free 2 rfl 0
  have Tf1 := H3.free 2 rfl 1
  have Tl := H3.lt 2 rfl
  have CnT := H3.ne 0 2 rfl rfl (by decide)
  have TnC := H3.ne 2 0 rfl rfl (by decide)
  refine (HER.out HR2.out).mono ?_
  rintro en wz ⟨rfl, rfl⟩
  by_cases hb0 : bd = 0
  · skip
    have HPE2 := Lib.hid' (show p = (⟨((k : Nat) : Int), []⟩, s) from HPE.out.trans (if_neg (by simpa using hb0)))
    rw [hb0, errV_0]
    clear hb0
    have HFF : Sep w (fun k => k = bR) [.box (w.heap.size) [.int .i64 (k : Int), .slice none 0 0] 116, .box (w2.heap.size) [.int .i64 (k : Int), .slice none 0 0] 116, Asn.blk bR] (((w3.setCell ⟨w.heap.size, 0, none⟩ (.int .i64 (k : Int))).setCell ⟨w.heap.size, 1, none⟩ (.slice none 0 0))) := ((H3.set 2 rfl 0 (.int .i64 (k : Int))).set 0 rfl 1 (.slice none 0 0))
    have HRET := Lib.hid' (show CTakeR p bR w (.returned (.agg #[.int .i64 (k : Int), .slice none 0 0])) (((w3.setCell ⟨w.heap.size, 0, none⟩ (.int .i64 (k : Int))).setCell ⟨w.heap.size, 1, none⟩ (.slice none 0 0))) from by
      rw [HPE2.out]
      exact ⟨none, 0, rfl, own_nil _ _ _ _, HR2.out.hi (((Fr.refl (fun k => bR < k) _).setH (by omega) _ _).setH (by omega) _ _), HFF.fr⟩)
    clear HFF
    go_wp2
    refine bodyPost_ret (v := .agg #[.int .i64 (k : Int), .slice none 0 0]) (by simp [results, Tryz.results117, go_sem, Cc0, Cc1, Tc0, Tc1]) rfl HRET.out
  · skip
    have HPE2 := Lib.hid' (show p = (⟨0, []⟩, s) from HPE.out.trans (if_pos hb0))
    rw [errV_pos hb0]
    clear hb0
    have HFF : Sep w (fun k => k = bR) [.box (w.heap.size) [.int .i64 0, .slice none 0 0] 116, .box (w2.heap.size) [.int .i64 (k : Int), .slice none 0 0] 116, Asn.blk bR] (((w3.setCell ⟨w.heap.size, 0, none⟩ (.int .i64 0)).setCell ⟨w.heap.size, 1, none⟩ (.slice none 0 0))) := ((H3.set 2 rfl 0 (.int .i64 0)).set 0 rfl 1 (.slice none 0 0))
    have HRET := Lib.hid' (show CTakeR p bR w (.returned (.agg #[.int .i64 0, .slice none 0 0])) (((w3.setCell ⟨w.heap.size, 0, none⟩ (.int .i64 0)).setCell ⟨w.heap.size, 1, none⟩ (.slice none 0 0))) from by
      rw [HPE2.out]
      exact ⟨none, 0, rfl, own_nil _ _ _ _, HR2.out.hi (((Fr.refl (fun k => bR < k) _).setH (by omega) _ _).setH (by omega) _ _), HFF.fr⟩)
    clear HFF
    go_wp2
    refine bodyPost_ret (v := .agg #[.int .i64 0, .slice none 0 0]) (by simp [results, Tryz.results117, go_sem, Cc0, Cc1, Tc0, Tc1]) rfl HRET.out
end Go.Proofs.YtkljeefncopodaaGreat
