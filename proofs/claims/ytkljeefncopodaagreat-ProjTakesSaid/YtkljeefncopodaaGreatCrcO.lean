/- sync.Once in one goroutine: a maker's table is made once. -/
import Derived.Test.YtkljeefncopodaaGreatCrcT
namespace Go.Proofs.YtkljeefncopodaaGreat
open Go.RowKit
set_option linter.unusedSimpArgs false
set_option linter.unusedVariables false
set_option maxRecDepth 100000

theorem race_disable (w : World) : (callFunc 198 #[]).run Tryz.prog w = .ok (.value (.tuple #[])) w := run_call_mark0 Tryz.func198 (by kernel_rfl) (by kernel_rfl) (by kernel_rfl) .disable (by kernel_rfl) w
theorem race_enable (w : World) : (callFunc 200 #[]).run Tryz.prog w = .ok (.value (.tuple #[])) w := run_call_mark0 Tryz.func200 (by kernel_rfl) (by kernel_rfl) (by kernel_rfl) .enable (by kernel_rfl) w
theorem race_acquire (a : Addr) (w : World) : (callFunc 201 #[.pointer (some a)]).run Tryz.prog w = .ok (.value (.tuple #[])) w := run_call_marked Tryz.func201 (by kernel_rfl) (by kernel_rfl) (by kernel_rfl) .acquire (by kernel_rfl) a w
theorem race_release (a : Addr) (w : World) : (callFunc 203 #[.pointer (some a)]).run Tryz.prog w = .ok (.value (.tuple #[])) w := run_call_marked Tryz.func203 (by kernel_rfl) (by kernel_rfl) (by kernel_rfl) .releaseMerge (by kernel_rfl) a w
theorem once_store (a : Addr) (x : Value) (u : FrameMode) (w : World) (hc : w.cell? a = some x) (hz : w.frozen? a = false) :
    CallsD Tryz.prog 193 #[.pointer (some a), .bool true] u w fun e u' w' => u' = u ∧ (e = .returned (.tuple #[]) ∧ w' = w.drew.setCell a (.int .u32 1)) := by
  have hc' : w.drew.cell? a = some x := by go_simp
  have hz' : w.drew.frozen? a = false := by go_simp
  have hst := run_call_store (P := Tryz.prog) Tryz.func196 (by kernel_rfl) (by kernel_rfl) (by kernel_rfl) (by kernel_rfl) (k := .u32) (y := 1) hc' hz'
  go_enter_d Tryz.func193, Tryz.ntmps193
  go_wp2
  go_region_calls
  all_goals (go_end0; exact ⟨rfl, rfl⟩)
theorem once_unlock (a : Addr) (u : FrameMode) (w : World) (hc : w.cell? a = some (.int .i32 1)) (hz : w.frozen? a = false) :
    CallsD Tryz.prog 192 #[.pointer (some a)] u w fun e u' w' => u' = u ∧ (e = .returned (.tuple #[]) ∧ w' = w.setCell a (.int .i32 0)) := by
  have hd := race_disable
  have he := race_enable
  have hr := race_release
  have hadd := run_call_add (P := Tryz.prog) Tryz.func204 (by kernel_rfl) (by kernel_rfl) (by kernel_rfl) .i32 (by kernel_rfl) (y := -1) (s := 0) hc hz (by simp [go_sem]; rfl)
  have hcv := run_convert_to_unsafe (P := Tryz.prog) (src := 265) (dst := 269) Tryz.underlying265 Tryz.underlying269 (by kernel_rfl) hc
  go_enter_d Tryz.func192, Tryz.ntmps192
  go_wp2
  go_end0
  go_wp2
theorem once_lock (a : Addr) (w : World) (hc : w.cell? a = some (.int .i32 0)) (hz : w.frozen? a = false) :
    Calls Tryz.prog 191 #[.pointer (some a)] w fun e w' => e = .returned (.tuple #[]) ∧ w' = w.setCell a (.int .i32 1) := by
  have hd := race_disable
  have he := race_enable
  have ha := race_acquire
  have hcas := run_call_cas_hit (P := Tryz.prog) Tryz.func199 (by kernel_rfl) (by kernel_rfl) (by kernel_rfl) .i32 (by kernel_rfl) (y := 1) hc hz
  have hc' : (w.setCell a (.int .i32 1)).cell? a = some (.int .i32 1) := World.cell?_setCell_same w a _ hc
  have hcv := run_convert_to_unsafe (P := Tryz.prog) (src := 265) (dst := 269) Tryz.underlying265 Tryz.underlying269 (by kernel_rfl) hc'
  go_enter Tryz.func191, Tryz.ntmps191
  go_wp2
  first | go_end0 | (simp only [Exit.inBlock, Exit.then]; refine bodyPost_ret (results_none rfl _ _ _) rfl ?_) | refine bodyPost_ret (results_none rfl _ _ _) rfl ?_
  go_wp2
theorem once_load (a : Addr) (d : Int) (w : World) (h0 : w.cell? a = some (.int .u32 d)) :
    Calls Tryz.prog 187 #[.pointer (some a)] w fun e w' => e = .returned (.bool (d != 0)) ∧ w = w' := by
  have hl := run_call_load (P := Tryz.prog) Tryz.func190 (by kernel_rfl) (by kernel_rfl) (by kernel_rfl) .u32 (by kernel_rfl) h0
  go_enter Tryz.func187, Tryz.ntmps187
  go_wp2
  go_ret
  exact ⟨rfl, rfl⟩

theorem mkR_0 (d d' s m q : Value) (k : Nat) : (mkR d s m k q).set 0 d' = mkR d' s m k q := rfl
theorem mkR_1 (d s s' m q : Value) (k : Nat) : (mkR d s m k q).set 1 s' = mkR d s' m k q := rfl
set_option maxHeartbeats 1600000 in
theorem once_slow (M : Nat) (m q : Value) (w : World) (h : BoxW M (mkR (.int .u32 0) (.int .i32 0) m 0 q) 230 w) :
    Calls Tryz.prog 188 #[.pointer (some ⟨M, 0, none⟩), .func (.func 185) #[.pointer (some ⟨M, 0, none⟩)] #[]] w
      fun e w' => e = .returned (.tuple #[]) ∧ BoxW M (mkR (.int .u32 1) (.int .i32 0) m 256 q) 230 w' ∧ Fr (fun k => k = M) w w' := by
  have HX := Lib.hid' h
  have c1 := h.box.1 1 _ rfl
  have f1 := h.box.2.1 1
  clear h
  have hcf : ∀ args w, (callFunc 185 args).run Tryz.prog w = .ok (.enter 185 args) w := fun _ _ => by kernel_rfl
  go_enter_defers Tryz.func188, Tryz.ntmps188
  go_wp2_with fail
  refine (once_lock ⟨M, 1, none⟩ w c1 f1).mono ?_
  rintro e w1 ⟨rfl, hw1⟩
  have HX1 := Lib.hid' (show BoxW M (mkR (.int .u32 0) (.int .i32 1) m 0 q) 230 w1 by rw [hw1, ← mkR_1 (.int .u32 0) (.int .i32 0)]; exact HX.out.set 1 _)
  have HF1 := Lib.hid' (show Fr (fun k => k = M) w w1 by rw [hw1]; exact fr_set _ _ _ _)
  clear hw1 c1 f1
  have c0 := HX1.out.box.1 0 _ rfl
  go_wp2_with fail
  refine (once_load ⟨M, 0, none⟩ 0 w1 c0).mono ?_
  rintro e w2 ⟨rfl, rfl⟩
  go_wp2_with fail
  refine (fill_any M _ _ m q w1 HX1.out).mono ?_
  rintro e w2 ⟨rfl, hx2, hf2⟩
  have HX2 := Lib.hid' hx2
  have HF2 := Lib.hid' (HF1.out.trans hf2 (fun i hi => .inl hi))
  clear hx2 hf2 c0
  go_wp2_with fail
  have c0 := HX2.out.box.1 0 _ rfl
  have f0 := HX2.out.box.2.1 0
  refine leaves_cons (f := 193) (args := #[.pointer (some ⟨M, 0, none⟩), .bool true]) (by simp) (by simp [go_sem]) ?_
  refine (once_store ⟨M, 0, none⟩ (.int .u32 0) .returning _ c0 f0).mono ?_
  rintro e u' w3 ⟨rfl, rfl, hw3⟩
  have HX3 := Lib.hid' (show BoxW M (mkR (.int .u32 1) (.int .i32 1) m 256 q) 230 w3 by rw [hw3, ← mkR_0 (.int .u32 0) (.int .u32 1)]; exact HX2.out.drew.set 0 _)
  have HF3 := Lib.hid' (show Fr (fun k => k = M) w w3 by rw [hw3]; exact (HF2.out.trans_below (Below.drew (Below.refl _ _))).trans (fr_set _ _ _ _) (fun i hi => .inl hi))
  clear hw3 c0 f0
  have c1 := HX3.out.box.1 1 _ rfl
  have f1 := HX3.out.box.2.1 1
  refine leaves_cons (f := 192) (args := #[.pointer (some ⟨M, 1, none⟩)]) (by simp [settle]) (by simp [go_sem]) ?_
  refine (once_unlock ⟨M, 1, none⟩ _ _ c1 f1).mono ?_
  rintro e u' w4 ⟨rfl, rfl, hw4⟩
  have HX4 := Lib.hid' (show BoxW M (mkR (.int .u32 1) (.int .i32 0) m 256 q) 230 w4 by rw [hw4, ← mkR_1 (.int .u32 1) (.int .i32 1)]; exact HX3.out.set 1 _)
  have HF4 := Lib.hid' (show Fr (fun k => k = M) w w4 by rw [hw4]; exact HF3.out.trans (fr_set _ _ _ _) (fun i hi => .inl hi))
  clear hw4 c1 f1
  simp [Leaves, settle, results, Tryz.results188]
  exact ⟨HX4.out, HF4.out⟩
set_option maxHeartbeats 1600000 in
theorem once_do (M : Nat) (m q : Value) (w : World) (h : BoxW M (mkR (.int .u32 0) (.int .i32 0) m 0 q) 230 w) :
    Calls Tryz.prog 184 #[.pointer (some ⟨M, 0, none⟩), .func (.func 185) #[.pointer (some ⟨M, 0, none⟩)] #[]] w
      fun e w' => e = .returned (.tuple #[]) ∧ BoxW M (mkR (.int .u32 1) (.int .i32 0) m 256 q) 230 w' ∧ Fr (fun k => k = M) w w' := by
  have HX := Lib.hid' h
  have c0 := h.box.1 0 _ rfl
  clear h
  go_enter Tryz.func184, Tryz.ntmps184
  go_wp2_with fail
  refine (once_load ⟨M, 0, none⟩ 0 w c0).mono ?_
  rintro e w2 ⟨rfl, rfl⟩
  go_wp2_with fail
  refine (once_slow M m q w HX.out).mono ?_
  rintro e w2 ⟨rfl, hx2, hf2⟩
  have HX2 := Lib.hid' hx2
  have HF2 := Lib.hid' hf2
  clear hx2 hf2 c0
  go_wp2_with fail
  go_end0
  exact ⟨rfl, HX2.out, HF2.out⟩
end Go.Proofs.YtkljeefncopodaaGreat
