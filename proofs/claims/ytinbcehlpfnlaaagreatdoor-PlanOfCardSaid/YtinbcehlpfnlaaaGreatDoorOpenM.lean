/- Manifests and their parts, read as data; the tables that the card lists. -/
import Derived.Test.YtinbcehlpfnlaaaGreatDoorOpen0
import Derived.Test.YtinbcehlpfnlaaaGreatDoorManL
import Derived.Test.YtinbcehlpfnlaaaGreatDoorShaC
import Derived.Lib.LaidTab
import Derived.LaidSub
import Derived.MakeChecks
import Derived.Stop.LaidErr
import Derived.LaidOnce
import Derived.SevenTiedAt
namespace Go.Proofs.YtinbcehlpfnlaaaGreatDoor
open Go.ChangeShapes Go.WideShapes Go.ChangeAt Go.RowKit
set_option linter.unusedSimpArgs false
set_option linter.unusedVariables false
set_option maxRecDepth 100000

theorem Tryz.cellsDigM : Tryz.prog.cellsOf 45 = 32 := by kernel_rfl
theorem Tryz.cellsPartM : Tryz.prog.cellsOf 53 = 35 := by kernel_rfl
theorem Tryz.cellsPartsM : Tryz.prog.cellsOf 46 = 1 := by kernel_rfl
theorem Tryz.cellsManM : Tryz.prog.cellsOf 48 = 37 := by kernel_rfl
theorem byte_list : ∀ {cs : List Value}, (∀ v ∈ cs, ∃ b : UInt8, v = byteV b) → ∃ d : List UInt8, cs = byteVs d
  | [], _ => ⟨[], rfl⟩
  | v :: cs, h => by
    obtain ⟨b, hb⟩ := h v List.mem_cons_self
    obtain ⟨d, hd⟩ := byte_list (cs := cs) (fun u hu => h u (List.mem_cons_of_mem _ hu))
    exact ⟨b :: d, by rw [hb, hd]; rfl⟩
theorem rd_dig {H : Type} {enc : TypeId × Value → H} {w : World} {cs : List Value} (h : Rd enc Tryz.prog w 45 cs) : ∃ d : List UInt8, cs = byteVs d ∧ d.length = 32 := by
  obtain ⟨hl, hf⟩ := Rd.array Tryz.underlying45 h
  rw [Tryz.cellsDigM] at hl
  obtain ⟨d, hd⟩ := byte_list (cs := cs) (fun v hv => by
    obtain ⟨i, hi, he⟩ := List.getElem_of_mem hv
    have h1 := hf i (by omega)
    rw [Tryz.cellsU8, Nat.mul_one, List.drop_eq_getElem_cons hi, he] at h1
    obtain ⟨n, hn, hw⟩ := Rd.int (k := .u8) Tryz.underlying5 h1
    simp only [List.take_succ_cons, List.take_zero, List.cons.injEq, and_true] at hn
    have hb := bounds_u8 hw
    refine ⟨UInt8.ofNat n.toNat, ?_⟩
    rw [hn]
    simp only [byteV, Value.int.injEq, true_and]
    rw [UInt8.toNat_ofNat']
    omega)
  exact ⟨d, hd, by rw [hd, byteVs_length] at hl; exact hl⟩
theorem ir_wf {n : Int} (h : (Lit.int .i64 n).wf = true) : IR n := by
  have := bounds_i64 h
  unfold IR; omega
theorem rd_pt {H : Type} {enc : TypeId × Value → H} {w : World} {cs : List Value} (hl : cs.length = 35) (h : Rd enc Tryz.prog w 53 cs) : ∃ x : Pt, cs = ptV x ∧ x.ok := by
  obtain ⟨vq0, vq1, vq2, vq3, vq4, vq5, vq6, vq7, vq8, vq9, vq10, vq11, vq12, vq13, vq14, vq15, vq16, vq17, vq18, vq19, vq20, vq21, vq22, vq23, vq24, vq25, vq26, vq27, vq28, vq29, vq30, vq31, vq32, vq33, vq34, rfl⟩ : ∃ vq0 vq1 vq2 vq3 vq4 vq5 vq6 vq7 vq8 vq9 vq10 vq11 vq12 vq13 vq14 vq15 vq16 vq17 vq18 vq19 vq20 vq21 vq22 vq23 vq24 vq25 vq26 vq27 vq28 vq29 vq30 vq31 vq32 vq33 vq34, cs = [vq0, vq1, vq2, vq3, vq4, vq5, vq6, vq7, vq8, vq9, vq10, vq11, vq12, vq13, vq14, vq15, vq16, vq17, vq18, vq19, vq20, vq21, vq22, vq23, vq24, vq25, vq26, vq27, vq28, vq29, vq30, vq31, vq32, vq33, vq34] := by
    match cs, hl with
    | vq0 :: vq1 :: vq2 :: vq3 :: vq4 :: vq5 :: vq6 :: vq7 :: vq8 :: vq9 :: vq10 :: vq11 :: vq12 :: vq13 :: vq14 :: vq15 :: vq16 :: vq17 :: vq18 :: vq19 :: vq20 :: vq21 :: vq22 :: vq23 :: vq24 :: vq25 :: vq26 :: vq27 :: vq28 :: vq29 :: vq30 :: vq31 :: vq32 :: vq33 :: vq34 :: [], _ => exact ⟨_, _, _, _, _, _, _, _, _, _, _, _, _, _, _, _, _, _, _, _, _, _, _, _, _, _, _, _, _, _, _, _, _, _, _, rfl⟩
  obtain ⟨_, hf⟩ := Rd.struct Tryz.underlying53 h
  obtain ⟨f, e0, w0⟩ := Rd.int (k := .i64) Tryz.underlying3 (by simpa [Tryz.cellsInt] using hf 0 _ rfl)
  obtain ⟨m, e1, w1⟩ := Rd.int (k := .i64) Tryz.underlying3 (by simpa [Tryz.cellsInt] using hf 1 _ rfl)
  obtain ⟨s, e2, w2⟩ := Rd.int (k := .i64) Tryz.underlying3 (by simpa [Tryz.cellsInt] using hf 2 _ rfl)
  obtain ⟨d, e3, hd⟩ := rd_dig (show Rd enc Tryz.prog w 45 [vq3, vq4, vq5, vq6, vq7, vq8, vq9, vq10, vq11, vq12, vq13, vq14, vq15, vq16, vq17, vq18, vq19, vq20, vq21, vq22, vq23, vq24, vq25, vq26, vq27, vq28, vq29, vq30, vq31, vq32, vq33, vq34] by simpa [Tryz.cellsInt, Tryz.cellsDigM] using hf 3 _ rfl)
  simp only [List.cons.injEq, and_true] at e0 e1 e2
  subst e0 e1 e2
  refine ⟨⟨f, m, s, d⟩, ?_, ir_wf w0, ir_wf w1, ir_wf w2, hd⟩
  unfold ptV
  rw [← e3]; rfl
theorem rd_pts {H : Type} {enc : TypeId × Value → H} {w : World} {cs : List Value} (h : Rd enc Tryz.prog w 46 cs) : ∃ (a : Option Addr) (c : Nat) (l : List Pt), cs = [.slice a l.length c] ∧ PtsAt w a c l ∧ ∀ y ∈ l, y.ok := by
  obtain ⟨a, c, X, e, hs, hp⟩ := Rd.rows (f := ptV) (p := fun x => x.ok) Tryz.underlying46 (by rw [Tryz.cellsPartM]; decide) h (fun r hl hr => rd_pt (by rw [hl]; exact Tryz.cellsPartM) hr)
  exact ⟨a, c, X, e, hs, hp⟩
theorem rd_mf {H : Type} {enc : TypeId × Value → H} {w : World} {cs : List Value} (hl : cs.length = 37) (h : Rd enc Tryz.prog w 48 cs) : ∃ x : MfP, cs = mV x ∧ PtsAt w x.2.1 x.2.2 x.1.ps ∧ x.1.ok := by
  obtain ⟨vq0, vq1, vq2, vq3, vq4, vq5, vq6, vq7, vq8, vq9, vq10, vq11, vq12, vq13, vq14, vq15, vq16, vq17, vq18, vq19, vq20, vq21, vq22, vq23, vq24, vq25, vq26, vq27, vq28, vq29, vq30, vq31, vq32, vq33, vq34, vq35, vq36, rfl⟩ : ∃ vq0 vq1 vq2 vq3 vq4 vq5 vq6 vq7 vq8 vq9 vq10 vq11 vq12 vq13 vq14 vq15 vq16 vq17 vq18 vq19 vq20 vq21 vq22 vq23 vq24 vq25 vq26 vq27 vq28 vq29 vq30 vq31 vq32 vq33 vq34 vq35 vq36, cs = [vq0, vq1, vq2, vq3, vq4, vq5, vq6, vq7, vq8, vq9, vq10, vq11, vq12, vq13, vq14, vq15, vq16, vq17, vq18, vq19, vq20, vq21, vq22, vq23, vq24, vq25, vq26, vq27, vq28, vq29, vq30, vq31, vq32, vq33, vq34, vq35, vq36] := by
    match cs, hl with
    | vq0 :: vq1 :: vq2 :: vq3 :: vq4 :: vq5 :: vq6 :: vq7 :: vq8 :: vq9 :: vq10 :: vq11 :: vq12 :: vq13 :: vq14 :: vq15 :: vq16 :: vq17 :: vq18 :: vq19 :: vq20 :: vq21 :: vq22 :: vq23 :: vq24 :: vq25 :: vq26 :: vq27 :: vq28 :: vq29 :: vq30 :: vq31 :: vq32 :: vq33 :: vq34 :: vq35 :: vq36 :: [], _ => exact ⟨_, _, _, _, _, _, _, _, _, _, _, _, _, _, _, _, _, _, _, _, _, _, _, _, _, _, _, _, _, _, _, _, _, _, _, _, _, rfl⟩
  obtain ⟨_, hf⟩ := Rd.struct Tryz.underlying48 h
  obtain ⟨n, e0, w0⟩ := Rd.int (k := .i64) Tryz.underlying3 (by simpa [Tryz.cellsInt] using hf 0 _ rfl)
  obtain ⟨f, e1, w1⟩ := Rd.int (k := .i64) Tryz.underlying3 (by simpa [Tryz.cellsInt] using hf 1 _ rfl)
  obtain ⟨t, e2, w2⟩ := Rd.int (k := .i64) Tryz.underlying3 (by simpa [Tryz.cellsInt] using hf 2 _ rfl)
  obtain ⟨r, e3, w3⟩ := Rd.int (k := .i64) Tryz.underlying3 (by simpa [Tryz.cellsInt] using hf 3 _ rfl)
  obtain ⟨d, e4, hd⟩ := rd_dig (show Rd enc Tryz.prog w 45 [vq4, vq5, vq6, vq7, vq8, vq9, vq10, vq11, vq12, vq13, vq14, vq15, vq16, vq17, vq18, vq19, vq20, vq21, vq22, vq23, vq24, vq25, vq26, vq27, vq28, vq29, vq30, vq31, vq32, vq33, vq34, vq35] by simpa [Tryz.cellsInt, Tryz.cellsDigM] using hf 4 _ rfl)
  obtain ⟨a, c, ps, e5, hp, ho⟩ := rd_pts (show Rd enc Tryz.prog w 46 [vq36] by simpa [Tryz.cellsPartsM] using hf 5 _ rfl)
  simp only [List.cons.injEq, and_true] at e0 e1 e2 e3 e5
  subst e0 e1 e2 e3 e5
  refine ⟨(⟨n, f, t, r, d, ps⟩, a, c), ?_, hp, ir_wf w0, ir_wf w1, ir_wf w2, ir_wf w3, hd, ho⟩
  unfold mV mfV
  rw [← e4]; rfl
theorem rd_mfs {H : Type} {enc : TypeId × Value → H} {w : World} {a : Option Addr} {n c : Nat} (h : Rd enc Tryz.prog w 22 [.slice a n c]) : ∃ X : List MfP, n = X.length ∧ MsAt w a c X := by
  obtain ⟨a', c', X, e, hs, hp⟩ := Rd.rows (f := mV) (p := fun x => PtsAt w x.2.1 x.2.2 x.1.ps ∧ x.1.ok) Tryz.underlying22 (by rw [Tryz.cellsManM]; decide) h (fun r hl hr => rd_mf (by rw [hl]; exact Tryz.cellsManM) hr)
  simp only [List.cons.injEq, and_true, Value.slice.injEq] at e
  obtain ⟨rfl, rfl, rfl⟩ := e
  exact ⟨X, rfl, hs, fun x hx => (hp x hx).1, fun x hx => (hp x hx).2⟩

-- the tables
theorem laid_k : (Rows.laid_holdfast_sha_constants : DataW Unit) = Lib.tabData .u32 (shaK.map (fun x => ((wN x : Nat) : Int))) := by kernel_rfl
theorem laid_f : (Rows.laid_holdfast_sha_firsts : DataW Unit) = Lib.tabData .u32 (shaH.list.map (fun x => ((wN x : Nat) : Int))) := by kernel_rfl
theorem Tryz.cellsU32 : Tryz.prog.cellsOf 111 = 1 := by kernel_rfl
theorem tab_range {w : World} {name : String} {X : List W32} {g : Nat} (h : Lib.TabIs Tryz.prog w name .u32 (X.map (fun x => ((wN x : Nat) : Int)))) (hg : Tryz.prog.globalNamed name = some g) : w.rangeAt g 0 (X.map wV) := by
  intro j v hv
  obtain ⟨hj, he⟩ := List.getElem?_eq_some_iff.1 hv
  rw [List.length_map] at hj
  have := h.cell hg j (by simpa using hj)
  rw [Nat.zero_add, this, ← he]
  simp [List.getD, hj, wV]
theorem laid_of {W : World} (h : laidMetH Tryz.prog [("holdfast/sha.constants", Rows.laid_holdfast_sha_constants), ("holdfast/sha.firsts", Rows.laid_holdfast_sha_firsts)] W) : Laid W := by
  rw [MakeChecks.laidMetH_plain _ _ _ (by kernel_rfl), laid_k, laid_f] at h
  have h1 := Lib.tabIs_of_head (g := 1) (by kernel_rfl) (by kernel_rfl) Tryz.underlying168 Tryz.underlying111 Tryz.cellsU32 (by kernel_rfl) h
  have h2 := Lib.tabIs_of_head (g := 0) (by kernel_rfl) (by kernel_rfl) Tryz.underlying143 Tryz.underlying111 Tryz.cellsU32 (by kernel_rfl) (laidMet.tail h)
  exact ⟨tab_range h1 (by kernel_rfl), tab_range h2 (by kernel_rfl)⟩
end Go.Proofs.YtinbcehlpfnlaaaGreatDoor
