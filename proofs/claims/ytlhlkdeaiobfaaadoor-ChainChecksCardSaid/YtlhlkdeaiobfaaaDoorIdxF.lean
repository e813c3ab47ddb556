/- Layers 15, 21: the first manifest, the first part of which something is true; manifest.Find, plan.mark. -/
import Derived.Test.YtlhlkdeaiobfaaaDoorPlnM
import Derived.Test.YtlhlkdeaiobfaaaDoorFld
namespace Go.Proofs.YtlhlkdeaiobfaaaDoor
open Go.RowKit
set_option linter.unusedSimpArgs false
set_option linter.unusedVariables false
set_option maxRecDepth 100000

set_option maxHeartbeats 1000000 in
theorem idxMf_any (f : Nat) (cap : Array Value) (p : MfP → Bool) (l : List MfP) (a : Option Addr) (c : Nat) (w : World) (h : MsAt w a c l) (hcf : ∀ args w, (callFunc f args).run Tryd.prog w = .ok (.enter f args) w)
    (hp : Hid (∀ w' y, y ∈ l → Below w.heap.size w w' → Calls Tryd.prog f (#[.agg (mV y).toArray] ++ cap) w' fun e w'' => e = .returned (.bool (p y)) ∧ Below w'.heap.size w' w'')) :
    Calls Tryd.prog 51 #[.slice a l.length c, .func (.func f) #[] cap] w fun e w' => e = .returned (.int .i64 (idxB p l)) ∧ Below w.heap.size w w' := by
  have HS := Lib.hid' h
  have hlen := h.len
  clear h
  go_enter Tryd.func51, Tryd.ntmps51
  go_wp2_with fail
  go_loopw [8] (fun v8 wr => ∃ k : Nat, v8 = .int .i64 k ∧ k ≤ l.length ∧ Hid (∀ y ∈ l.take k, p y = false) ∧ Hid (Below w.heap.size w wr)) (fun v8 _ => l.length - (intOf v8).toNat)
  case atStart => exact ⟨0, rfl, Nat.zero_le _, Lib.hid' (by simp), Lib.hid' (Below.refl _ _)⟩
  case round =>
    obtain ⟨k, rfl, hk, HNO, HB⟩ := hrel
    by_cases hlt : k < l.length
    · obtain ⟨b, off, rfl, hb, hrg⟩ := MsAt.at (HS.out.below (Nat.le_refl _) HB.out) hlt
      have HG := Lib.hid' hrg
      have hz : (Tryd.prog.info? 27).map (·.size) = some (mV l[k]).length := by unfold mV; rw [mfV_len (HS.out.ok _ (List.getElem_mem hlt))]; exact mf_size
      have HH := Lib.hid' (fun h2 => idxB_hit (f := p) hlt HNO.out h2)
      have HT := Lib.hid' (fun h2 => take_no (f := p) hlt HNO.out h2)
      have HC := Lib.hid' (hp.out wr l[k] (List.getElem_mem hlt) HB.out)
      clear hrg
      generalize l[k] = y at *
      go_wp2_with (refine wpList_load_at HG.out rfl 27 (.tmp 14) rfl rfl _ Tryd.underlying27 rfl hz ?_)
      refine HC.out.mono ?_
      rintro e w2 ⟨rfl, hb2⟩
      have HB2 := Lib.hid' (HB.out.trans (hb2.mono HB.out.size))
      clear hb2 HC
      cases hq : p y with
      | true =>
        have HF := Lib.hid' (HH.out hq)
        go_wp2_with fail
        go_ret
        exact ⟨ret_eq (by rw [HF.out]; rfl), HB2.out⟩
      | false =>
        have HF := Lib.hid' (HT.out hq)
        go_wp2_with fail
        go_roundw
        case rel => exact ⟨k + 1, by go_num, by omega, HF, HB2⟩
        case measure => simp [intOf]; omega
    · have HF := Lib.hid' (idxB_none (f := p) (by have := HNO.out; rwa [List.take_of_length_le (by omega)] at this))
      go_wp2_with fail
      go_ret
      exact ⟨ret_eq (by rw [HF.out]; rfl), HB.out⟩
set_option maxHeartbeats 1000000 in
theorem idxPt_any (f : Nat) (cap : Array Value) (p : Pt → Bool) (l : List Pt) (a : Option Addr) (c : Nat) (w : World) (h : PtsAt w a c l) (ho : ∀ y ∈ l, y.ok) (hcf : ∀ args w, (callFunc f args).run Tryd.prog w = .ok (.enter f args) w)
    (hp : Hid (∀ w' y, y ∈ l → Below w.heap.size w w' → Calls Tryd.prog f (#[.agg (ptV y).toArray] ++ cap) w' fun e w'' => e = .returned (.bool (p y)) ∧ Below w'.heap.size w' w'')) :
    Calls Tryd.prog 38 #[.slice a l.length c, .func (.func f) #[] cap] w fun e w' => e = .returned (.int .i64 (idxB p l)) ∧ Below w.heap.size w w' := by
  have HS := Lib.hid' h
  have hlen := h.len
  clear h
  go_enter Tryd.func38, Tryd.ntmps38
  go_wp2_with fail
  go_loopw [8] (fun v8 wr => ∃ k : Nat, v8 = .int .i64 k ∧ k ≤ l.length ∧ Hid (∀ y ∈ l.take k, p y = false) ∧ Hid (Below w.heap.size w wr)) (fun v8 _ => l.length - (intOf v8).toNat)
  case atStart => exact ⟨0, rfl, Nat.zero_le _, Lib.hid' (by simp), Lib.hid' (Below.refl _ _)⟩
  case round =>
    obtain ⟨k, rfl, hk, HNO, HB⟩ := hrel
    by_cases hlt : k < l.length
    · obtain ⟨b, off, rfl, hb, hrg⟩ := PtsAt.at (HS.out.below (Nat.le_refl _) HB.out) ho hlt
      have HG := Lib.hid' hrg
      have hz : (Tryd.prog.info? 71).map (·.size) = some (ptV l[k]).length := by rw [ptV_len (ho _ (List.getElem_mem hlt))]; exact pt_size
      have HH := Lib.hid' (fun h2 => idxB_hit (f := p) hlt HNO.out h2)
      have HT := Lib.hid' (fun h2 => take_no (f := p) hlt HNO.out h2)
      have HC := Lib.hid' (hp.out wr l[k] (List.getElem_mem hlt) HB.out)
      clear hrg
      generalize l[k] = y at *
      go_wp2_with (refine wpList_load_at HG.out rfl 71 (.tmp 14) rfl rfl _ Tryd.underlying71 rfl hz ?_)
      refine HC.out.mono ?_
      rintro e w2 ⟨rfl, hb2⟩
      have HB2 := Lib.hid' (HB.out.trans (hb2.mono HB.out.size))
      clear hb2 HC
      cases hq : p y with
      | true =>
        have HF := Lib.hid' (HH.out hq)
        go_wp2_with fail
        go_ret
        exact ⟨ret_eq (by rw [HF.out]; rfl), HB2.out⟩
      | false =>
        have HF := Lib.hid' (HT.out hq)
        go_wp2_with fail
        go_roundw
        case rel => exact ⟨k + 1, by go_num, by omega, HF, HB2⟩
        case measure => simp [intOf]; omega
    · have HF := Lib.hid' (idxB_none (f := p) (by have := HNO.out; rwa [List.take_of_length_le (by omega)] at this))
      go_wp2_with fail
      go_ret
      exact ⟨ret_eq (by rw [HF.out]; rfl), HB.out⟩
theorem mkfunc (fn : Fn) (first cap : Array Value) (w : World) : (Instr.makeFunc fn first cap).run Tryd.prog w = .ok (.func fn first cap) w := rfl
set_option maxHeartbeats 1000000 in
theorem markC_any (y : MfP) (pb : Nat) (n : Int) (w : World) (hp : w.cell? ⟨pb, 0, none⟩ = some (.int .i64 n)) :
    Calls Tryd.prog 52 #[.agg (mV y).toArray, .pointer (some ⟨pb, 0, none⟩)] w fun e w' => e = .returned (.bool (decide (n ≤ y.1.t))) ∧ Below w.heap.size w w' := by
  have hpl := cell_lt hp
  go_enter Tryd.func52, Tryd.ntmps52
  go_upto_region 1 with fail
  have H0 : Sep w NoF [.box w.heap.size (mV y) 27] (w.alloc (.cells (mV y).toArray 27)) := (Sep.start w).allocAt (w.heap.size) (mV y) 27 rfl
  have c2 := H0.cell 0 rfl 2 (v := .int .i64 y.1.t) rfl
  have hp2 := (H0.toBelow.cell (p := ⟨pb, 0, none⟩) hpl).trans hp
  have HB := Lib.hid' H0.toBelow
  generalize w.alloc (.cells (mV y).toArray 27) = w1 at *
  clear hp hpl H0
  go_wp2
  go_ret
  exact ⟨rfl, HB.out⟩
set_option maxHeartbeats 2000000 in
theorem findC_any (x : Pt) (pb : Nat) (n : Int) (w : World) (hp : w.cell? ⟨pb, 0, none⟩ = some (.int .i64 n)) :
    Calls Tryd.prog 39 #[.agg (ptV x).toArray, .pointer (some ⟨pb, 0, none⟩)] w fun e w' => e = .returned (.bool (inPt n x)) ∧ Below w.heap.size w w' := by
  have hpl := cell_lt hp
  go_enter Tryd.func39, Tryd.ntmps39
  go_upto_region 1 with fail
  have H0 : Sep w NoF [.box w.heap.size (ptV x) 71] (w.alloc (.cells (ptV x).toArray 71)) := (Sep.start w).allocAt (w.heap.size) (ptV x) 71 rfl
  have c0 := H0.cell 0 rfl 0 (v := .int .i64 x.f) rfl
  have c1 := H0.cell 0 rfl 1 (v := .int .i64 x.m) rfl
  have hp2 := (H0.toBelow.cell (p := ⟨pb, 0, none⟩) hpl).trans hp
  have HB := Lib.hid' H0.toBelow
  generalize w.alloc (.cells (ptV x).toArray 71) = w1 at *
  clear hp hpl H0
  have HI := Lib.hid' (show inPt n x = (decide (x.f ≤ n) && (decide (wrap64 (n - x.f) < x.m) && decide (0 ≤ wrap64 (n - x.f)))) from rfl)
  by_cases h1 : x.f ≤ n
  · by_cases h2 : wrap64 (n - x.f) < x.m
    · by_cases h3 : 0 ≤ wrap64 (n - x.f)
      · have HR := Lib.hid' (HI.out.trans (by simp [h1, h2, h3] : _ = true))
        go_wp2
        go_ret
        exact ⟨ret_eq (by rw [HR.out]; rfl), HB.out⟩
      · have HR := Lib.hid' (HI.out.trans (by simp [h1, h2, h3] : _ = false))
        go_wp2
        go_ret
        exact ⟨ret_eq (by rw [HR.out]; rfl), HB.out⟩
    · have HR := Lib.hid' (HI.out.trans (by simp [h1, h2] : _ = false))
      go_wp2
      go_ret
      exact ⟨ret_eq (by rw [HR.out]; rfl), HB.out⟩
  · have HR := Lib.hid' (HI.out.trans (by simp [h1] : _ = false))
    go_wp2
    go_ret
    exact ⟨ret_eq (by rw [HR.out]; rfl), HB.out⟩
theorem cf_mark (args : Array Value) (w : World) : (callFunc 52 args).run Tryd.prog w = .ok (.enter 52 args) w := by kernel_rfl
theorem cf_find (args : Array Value) (w : World) : (callFunc 39 args).run Tryd.prog w = .ok (.enter 39 args) w := by kernel_rfl
set_option maxHeartbeats 2000000 in
theorem mfind_any (x : Mf) (a : Option Addr) (c : Nat) (ad : Int) (w : World) (ho : x.ok) (hp : PtsAt w a c x.ps) :
    Calls Tryd.prog 24 #[.agg (mfV x a c).toArray, .int .i64 ad] w fun e w' => e = .returned (.tuple #[.int .i64 (max (mfind x ad) 0), .bool (decide (0 ≤ mfind x ad))]) ∧ Below w.heap.size w w' := by
  have hmf := mkfunc
  have H36 := mfV_36 ho a c
  have HQ := Lib.hid' (fun wq pb (hb : Below w.heap.size w wq) (hc : wq.cell? ⟨pb, 0, none⟩ = some (.int .i64 ad)) => idxPt_any 39 #[.pointer (some ⟨pb, 0, none⟩)] (inPt ad) x.ps a c wq (hp.below (Nat.le_refl _) hb) ho.ps cf_find
    (Lib.hid' (fun w' y hy hb2 => findC_any y pb ad w' ((hb2.cell (p := ⟨pb, 0, none⟩) (cell_lt hc)).trans hc))))
  have HI := Lib.hid' (show idxB (inPt ad) x.ps = mfind x ad from rfl)
  rw [HI.out] at HQ
  generalize mfind x ad = i at *
  clear hp ho HI
  go_enter Tryd.func24, Tryd.ntmps24
  go_upto_region 1 with fail
  have H0 : Sep w NoF [.box (w.heap.size + 1) [.int .i64 ad] 3, .box w.heap.size (mfV x a c) 27] ((w.alloc (.cells (mfV x a c).toArray 27)).alloc (.cells #[.int .i64 ad] 3)) := ((Sep.start w).allocAt (w.heap.size) (mfV x a c) 27 rfl).allocAt (w.heap.size + 1) [.int .i64 ad] 3 (by simp)
  generalize (w.alloc (.cells (mfV x a c).toArray 27)).alloc (.cells #[.int .i64 ad] 3) = w1 at *
  have c36 := H0.cell 1 rfl 36 H36
  have HQ1 := Lib.hid' (HQ.out w1 (w.heap.size + 1) H0.toBelow (H0.cell 0 rfl 0 rfl))
  clear HQ H36
  generalize x.ps.length = pl at *
  go_wp2_with (go_at_call 38; refine HQ1.out.mono ?_; rintro e w2 ⟨rfl, hb2⟩; have H2 := H0.below hb2)
  go_ret2
  exact ⟨rfl, H2.toBelow⟩
set_option maxHeartbeats 2000000 in
theorem pmark_any (X : List MfP) (a : Option Addr) (c : Nat) (n : Int) (w : World) (h : MsAt w a c X) (hex : ∃ y ∈ X, n ≤ y.1.t) :
    Calls Tryd.prog 40 #[.slice a X.length c, .int .i64 n] w fun e w' => e = .returned (.int .i64 (markAt X n)) ∧ Below w.heap.size w w' := by
  have hmf := mkfunc
  obtain ⟨k, hk, h1, h2⟩ := first_hit (f := fun m : MfP => decide (n ≤ m.1.t)) (l := X) (by obtain ⟨y, hy, h⟩ := hex; exact ⟨y, hy, by simpa using h⟩)
  have HI := Lib.hid' (idxB_hit hk h2 h1)
  have HM := Lib.hid' (show markAt X n = min X[k].1.r n by unfold markAt; rw [find_hit hk h2 h1]; rfl)
  obtain ⟨b, off, rfl, hb, hrg⟩ := h.at hk
  have hlen := h.len
  have HQ := Lib.hid' (fun wq pb (hb : Below w.heap.size w wq) (hc : wq.cell? ⟨pb, 0, none⟩ = some (.int .i64 n)) => idxMf_any 52 #[.pointer (some ⟨pb, 0, none⟩)] (fun m : MfP => decide (n ≤ m.1.t)) X (some ⟨b, off, none⟩) c wq (h.below (Nat.le_refl _) hb) cf_mark
    (Lib.hid' (fun w' y hy hb2 => markC_any y pb n w' ((hb2.cell (p := ⟨pb, 0, none⟩) (cell_lt hc)).trans hc))))
  rw [HI.out] at HQ
  have HG := Lib.hid' hrg
  have c3 := hrg 3 (.int .i64 X[k].1.r) rfl
  clear h h1 h2 hex hrg HI HG
  generalize X[k].1.r = r at *
  go_enter Tryd.func40, Tryd.ntmps40
  go_upto_region 1 with fail
  have H0 : Sep w NoF [.box w.heap.size [.int .i64 n] 3] (w.alloc (.cells #[.int .i64 n] 3)) := (Sep.start w).allocAt (w.heap.size) [.int .i64 n] 3 rfl
  generalize w.alloc (.cells #[.int .i64 n] 3) = w1 at *
  have HQ1 := Lib.hid' (HQ.out w1 w.heap.size H0.toBelow (H0.cell 0 rfl 0 rfl))
  go_upto_region 2 with (go_at_call 51; refine HQ1.out.mono ?_; rintro e w2 ⟨rfl, hb2⟩; have H2 := H0.below hb2)
  have e3 := (H2.toBelow.cell (p := ⟨b, off + k * 37 + 3, none⟩) hb).trans c3
  have e0 := H2.cell 0 rfl 0 (v := .int .i64 n) rfl
  have HB := Lib.hid' H2.toBelow
  clear H2 H0 HQ1 HQ c3
  go_region
  go_wp2
  go_ret
  exact ⟨ret_eq (by rw [HM.out]; rfl), HB.out.drew⟩
end Go.Proofs.YtlhlkdeaiobfaaaDoor
