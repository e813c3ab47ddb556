/- Layers 15, 21: the first manifest, the first part of which something is true; manifest.Find, plan.mark. -/
import Derived.Test.YtinbcehlpfnlaaaGreatDoorPlnM
import Derived.Test.YtinbcehlpfnlaaaGreatDoorFld
namespace Go.Proofs.YtinbcehlpfnlaaaGreatDoor
open Go.RowKit
set_option linter.unusedSimpArgs false
set_option linter.unusedVariables false
set_option maxRecDepth 100000

set_option maxHeartbeats 1000000 in
theorem idxMf_any (f : Nat) (cap : Array Value) (p : MfP → Bool) (l : List MfP) (a : Option Addr) (c : Nat) (w : World) (h : MsAt w a c l) (hcf : ∀ args w, (callFunc f args).run Tryz.prog w = .ok (.enter f args) w)
    (hp : Hid (∀ w' y, y ∈ l → Below w.heap.size w w' → Calls Tryz.prog f (#[.agg (mV y).toArray] ++ cap) w' fun e w'' => e = .returned (.bool (p y)) ∧ Below w'.heap.size w' w'')) :
    Calls Tryz.prog 29 #[.slice a l.length c, .func (.func f) #[] cap] w fun e w' => e = .returned (.int .i64 (idxB p l)) ∧ Below w.heap.size w w' := by
  have HS := Lib.hid' h
  have hlen := h.len
  clear h
  go_enter Tryz.func29, Tryz.ntmps29
  go_wp2_with fail
  go_loopw [8] (fun v8 wr => ∃ k : Nat, v8 = .int .i64 k ∧ k ≤ l.length ∧ Hid (∀ y ∈ l.take k, p y = false) ∧ Hid (Below w.heap.size w wr)) (fun v8 _ => l.length - (intOf v8).toNat)
  case atStart => exact ⟨0, rfl, Nat.zero_le _, Lib.hid' (by simp), Lib.hid' (Below.refl _ _)⟩
  case round =>
    obtain ⟨k, rfl, hk, HNO, HB⟩ := hrel
    by_cases hlt : k < l.length
    · obtain ⟨b, off, rfl, hb, hrg⟩ := MsAt.at (HS.out.below (Nat.le_refl _) HB.out) hlt
      have HG := Lib.hid' hrg
      have hz : (Tryz.prog.info? 48).map (·.size) = some (mV l[k]).length := by unfold mV; rw [mfV_len (HS.out.ok _ (List.getElem_mem hlt))]; exact mf_size
      have HH := Lib.hid' (fun h2 => idxB_hit (f := p) hlt HNO.out h2)
      have HT := Lib.hid' (fun h2 => take_no (f := p) hlt HNO.out h2)
      have HC := Lib.hid' (hp.out wr l[k] (List.getElem_mem hlt) HB.out)
      clear hrg
      generalize l[k] = y at *
      go_wp2_with (refine wpList_load_at HG.out rfl 48 (.tmp 14) rfl rfl _ Tryz.underlying48 rfl hz ?_)
      refine HC.out.mono ?_
      rintro e w2 ⟨rfl, hb2⟩
      have HB2 := Lib.hid' (HB.out.trans (hb2.mono HB.out.size))
      clear hb2 HC
      cases hq : p y with
      | true =>
        have HF := Lib.hid' (HH.out hq)
        go_wp2_with fail
        go_ret
        exact ⟨ret_eq (by rw [HF.out]; rfl), HB2.out⟩
      | false =>
        have HF := Lib.hid' (HT.out hq)
        go_wp2_with fail
        go_roundw
        case rel => exact ⟨k + 1, by go_num, by omega, HF, HB2⟩
        case measure => simp [intOf]; omega
    · have HF := Lib.hid' (idxB_none (f := p) (by have := HNO.out; rwa [List.take_of_length_le (by omega)] at this))
      go_wp2_with fail
      go_ret
      exact ⟨ret_eq (by rw [HF.out]; rfl), HB.out⟩
theorem mkfunc (fn : Fn) (first cap : Array Value) (w : World) : (Instr.makeFunc fn first cap).run Tryz.prog w = .ok (.func fn first cap) w := rfl
set_option maxHeartbeats 1000000 in
theorem markC_any (y : MfP) (pb : Nat) (n : Int) (w : World) (hp : w.cell? ⟨pb, 0, none⟩ = some (.int .i64 n)) :
    Calls Tryz.prog 30 #[.agg (mV y).toArray, .pointer (some ⟨pb, 0, none⟩)] w fun e w' => e = .returned (.bool (decide (n ≤ y.1.t))) ∧ Below w.heap.size w w' := by
  have hpl := cell_lt hp
  go_enter Tryz.func30, Tryz.ntmps30
  go_upto_region 1 with fail
  have H0 : Sep w NoF [.box w.heap.size (mV y) 48] (w.alloc (.cells (mV y).toArray 48)) := (Sep.start w).allocAt (w.heap.size) (mV y) 48 rfl
  have c2 := H0.cell 0 rfl 2 (v := .int .i64 y.1.t) rfl
  have hp2 := (H0.toBelow.cell (p := ⟨pb, 0, none⟩) hpl).trans hp
  have HB := Lib.hid' H0.toBelow
  generalize w.alloc (.cells (mV y).toArray 48) = w1 at *
  clear hp hpl H0
  go_wp2
  go_ret
  exact ⟨rfl, HB.out⟩
theorem cf_mark (args : Array Value) (w : World) : (callFunc 30 args).run Tryz.prog w = .ok (.enter 30 args) w := by kernel_rfl
set_option maxHeartbeats 2000000 in
theorem pmark_any (X : List MfP) (a : Option Addr) (c : Nat) (n : Int) (w : World) (h : MsAt w a c X) (hex : ∃ y ∈ X, n ≤ y.1.t) :
    Calls Tryz.prog 18 #[.slice a X.length c, .int .i64 n] w fun e w' => e = .returned (.int .i64 (markAt X n)) ∧ Below w.heap.size w w' := by
  have hmf := mkfunc
  obtain ⟨k, hk, h1, h2⟩ := first_hit (f := fun m : MfP => decide (n ≤ m.1.t)) (l := X) (by obtain ⟨y, hy, h⟩ := hex; exact ⟨y, hy, by simpa using h⟩)
  have HI := Lib.hid' (idxB_hit hk h2 h1)
  have HM := Lib.hid' (show markAt X n = min X[k].1.r n by unfold markAt; rw [find_hit hk h2 h1]; rfl)
  obtain ⟨b, off, rfl, hb, hrg⟩ := h.at hk
  have hlen := h.len
  have HQ := Lib.hid' (fun wq pb (hb : Below w.heap.size w wq) (hc : wq.cell? ⟨pb, 0, none⟩ = some (.int .i64 n)) => idxMf_any 30 #[.pointer (some ⟨pb, 0, none⟩)] (fun m : MfP => decide (n ≤ m.1.t)) X (some ⟨b, off, none⟩) c wq (h.below (Nat.le_refl _) hb) cf_mark
    (Lib.hid' (fun w' y hy hb2 => markC_any y pb n w' ((hb2.cell (p := ⟨pb, 0, none⟩) (cell_lt hc)).trans hc))))
  rw [HI.out] at HQ
  have HG := Lib.hid' hrg
  have c3 := hrg 3 (.int .i64 X[k].1.r) rfl
  clear h h1 h2 hex hrg HI HG
  generalize X[k].1.r = r at *
  go_enter Tryz.func18, Tryz.ntmps18
  go_upto_region 1 with fail
  have H0 : Sep w NoF [.box w.heap.size [.int .i64 n] 3] (w.alloc (.cells #[.int .i64 n] 3)) := (Sep.start w).allocAt (w.heap.size) [.int .i64 n] 3 rfl
  generalize w.alloc (.cells #[.int .i64 n] 3) = w1 at *
  have HQ1 := Lib.hid' (HQ.out w1 w.heap.size H0.toBelow (H0.cell 0 rfl 0 rfl))
  go_upto_region 2 with (go_at_call 29; refine HQ1.out.mono ?_; rintro e w2 ⟨rfl, hb2⟩; have H2 := H0.below hb2)
  have e3 := (H2.toBelow.cell (p := ⟨b, off + k * 37 + 3, none⟩) hb).trans c3
  have e0 := H2.cell 0 rfl 0 (v := .int .i64 n) rfl
  have HB := Lib.hid' H2.toBelow
  clear H2 H0 HQ1 HQ c3
  go_region
  go_wp2
  go_ret
  exact ⟨ret_eq (by rw [HM.out]; rfl), HB.out.drew⟩
end Go.Proofs.YtinbcehlpfnlaaaGreatDoor
