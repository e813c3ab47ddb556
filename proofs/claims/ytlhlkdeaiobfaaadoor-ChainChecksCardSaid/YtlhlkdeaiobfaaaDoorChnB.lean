/- Layer 16 (chain): the last manifest, beginning, end, mark, head. -/
import Derived.Test.YtlhlkdeaiobfaaaDoorChnA
namespace Go.Proofs.YtlhlkdeaiobfaaaDoor
open Go.RowKit
set_option linter.unusedSimpArgs false
set_option linter.unusedVariables false
set_option maxRecDepth 100000

def zeroM : Mf := ⟨0, 0, 0, 0, zero32B, []⟩
def zeroMP : MfP := (zeroM, none, 0)
def zeroMV : List Value := mV zeroMP
theorem zmf_lit : (#[.int .i64 0, .int .i64 0, .int .i64 0, .int .i64 0, .int .u8 0, .int .u8 0, .int .u8 0, .int .u8 0, .int .u8 0, .int .u8 0, .int .u8 0, .int .u8 0, .int .u8 0, .int .u8 0, .int .u8 0, .int .u8 0, .int .u8 0, .int .u8 0, .int .u8 0, .int .u8 0, .int .u8 0, .int .u8 0, .int .u8 0, .int .u8 0, .int .u8 0, .int .u8 0, .int .u8 0, .int .u8 0, .int .u8 0, .int .u8 0, .int .u8 0, .int .u8 0, .int .u8 0, .int .u8 0, .int .u8 0, .int .u8 0, .slice none 0 0] : Array Value) = zeroMV.toArray := rfl
theorem ir_0 : IR 0 := ⟨by decide, by decide⟩
theorem zeroM_ok : zeroM.ok := ⟨ir_0, ir_0, ir_0, ir_0, rfl, fun y hy => by cases hy⟩
def lastM (X : List MfP) : MfP := X.getLast?.getD zeroMP
theorem lastM_in {X : List MfP} {n : Nat} (hn : X.length = n + 1) : lastM X = X[n] := by
  unfold lastM
  rw [List.getLast?_eq_getElem?, show X.length - 1 = n by omega, List.getElem?_eq_getElem (by omega)]; rfl
theorem lastM_nil {X : List MfP} (hn : X.length = 0) : lastM X = zeroMP := by
  rw [List.eq_nil_of_length_eq_zero hn]; rfl
theorem MsAt.last {w : World} {a : Option Addr} {c : Nat} {X : List MfP} (h : MsAt w a c X) : PtsAt w (lastM X).2.1 (lastM X).2.2 (lastM X).1.ps ∧ (lastM X).1.ok := by
  rcases Nat.eq_zero_or_pos X.length with h0 | h0
  · rw [lastM_nil h0]; exact ⟨SlV.empty _ _ _ (Nat.zero_le _) (fun _ => rfl), zeroM_ok⟩
  · obtain ⟨n, hn⟩ : ∃ n, X.length = n + 1 := ⟨X.length - 1, by omega⟩
    rw [lastM_in hn]
    exact ⟨h.each _ (List.getElem_mem _), h.ok _ (List.getElem_mem _)⟩
theorem MsAt.take {w : World} {a : Option Addr} {c : Nat} {X : List MfP} (h : MsAt w a c X) {k : Nat} (hk : k ≤ X.length) : MsAt w a c (X.take k) := by
  refine ⟨?_, fun x hx => h.each x (List.mem_of_mem_take hx), fun x hx => h.ok x (List.mem_of_mem_take hx)⟩
  obtain ⟨a', c', he, h1, h2, h0, h3⟩ := h.row
  cases he
  refine ⟨a, c, rfl, ?_, h2, h0, fun j u hu => h3 j u ?_⟩
  · rw [List.length_take]; omega
  · have e : X.flatMap mV = (X.take k).flatMap mV ++ (X.drop k).flatMap mV := by rw [← List.flatMap_append, List.take_append_drop]
    rw [e, List.getElem?_append_left (List.getElem?_eq_some_iff.1 hu).1]; exact hu
set_option maxHeartbeats 4000000 in
theorem last_any (X : List MfP) (a : Option Addr) (c : Nat) (w : World) (h : MsAt w a c X) :
    Calls Tryd.prog 36 #[.slice a X.length c] w fun e w' => e = .returned (.agg (mV (lastM X)).toArray) ∧ Below w.heap.size w w' := by
  have hxl := h.len
  have hz0 : (Tryd.prog.info? 27).map (·.size) = some zeroMV.length := by rw [show zeroMV.length = 37 from rfl]; exact mf_size
  rcases Nat.eq_zero_or_pos X.length with h0 | h0
  · have HE := Lib.hid' (lastM_nil h0)
    rw [h0]
    clear h0 h
    have HZ : Sep w NoF [.box (w.heap.size + 1) zeroMV 27, .box w.heap.size zeroMV 27] ((w.alloc (.cells #[.int .i64 0, .int .i64 0, .int .i64 0, .int .i64 0, .int .u8 0, .int .u8 0, .int .u8 0, .int .u8 0, .int .u8 0, .int .u8 0, .int .u8 0, .int .u8 0, .int .u8 0, .int .u8 0, .int .u8 0, .int .u8 0, .int .u8 0, .int .u8 0, .int .u8 0, .int .u8 0, .int .u8 0, .int .u8 0, .int .u8 0, .int .u8 0, .int .u8 0, .int .u8 0, .int .u8 0, .int .u8 0, .int .u8 0, .int .u8 0, .int .u8 0, .int .u8 0, .int .u8 0, .int .u8 0, .int .u8 0, .int .u8 0, .slice none 0 0] 27)).alloc (.cells #[.int .i64 0, .int .i64 0, .int .i64 0, .int .i64 0, .int .u8 0, .int .u8 0, .int .u8 0, .int .u8 0, .int .u8 0, .int .u8 0, .int .u8 0, .int .u8 0, .int .u8 0, .int .u8 0, .int .u8 0, .int .u8 0, .int .u8 0, .int .u8 0, .int .u8 0, .int .u8 0, .int .u8 0, .int .u8 0, .int .u8 0, .int .u8 0, .int .u8 0, .int .u8 0, .int .u8 0, .int .u8 0, .int .u8 0, .int .u8 0, .int .u8 0, .int .u8 0, .int .u8 0, .int .u8 0, .int .u8 0, .int .u8 0, .slice none 0 0] 27)) := ((Sep.start w).allocAt (w.heap.size) zeroMV 27 rfl).allocAt (w.heap.size + 1) zeroMV 27 (by simp)
    have h1 : zeroMV.all (·.oneCell') = true := rfl
    go_enter Tryd.func36, Tryd.ntmps36
    go_upto_region 2 with fail
    generalize (w.alloc (.cells #[.int .i64 0, .int .i64 0, .int .i64 0, .int .i64 0, .int .u8 0, .int .u8 0, .int .u8 0, .int .u8 0, .int .u8 0, .int .u8 0, .int .u8 0, .int .u8 0, .int .u8 0, .int .u8 0, .int .u8 0, .int .u8 0, .int .u8 0, .int .u8 0, .int .u8 0, .int .u8 0, .int .u8 0, .int .u8 0, .int .u8 0, .int .u8 0, .int .u8 0, .int .u8 0, .int .u8 0, .int .u8 0, .int .u8 0, .int .u8 0, .int .u8 0, .int .u8 0, .int .u8 0, .int .u8 0, .int .u8 0, .int .u8 0, .slice none 0 0] 27)).alloc (.cells #[.int .i64 0, .int .i64 0, .int .i64 0, .int .i64 0, .int .u8 0, .int .u8 0, .int .u8 0, .int .u8 0, .int .u8 0, .int .u8 0, .int .u8 0, .int .u8 0, .int .u8 0, .int .u8 0, .int .u8 0, .int .u8 0, .int .u8 0, .int .u8 0, .int .u8 0, .int .u8 0, .int .u8 0, .int .u8 0, .int .u8 0, .int .u8 0, .int .u8 0, .int .u8 0, .int .u8 0, .int .u8 0, .int .u8 0, .int .u8 0, .int .u8 0, .int .u8 0, .int .u8 0, .int .u8 0, .int .u8 0, .int .u8 0, .slice none 0 0] 27) = w1 at *
    go_wp2_with (first | (refine Sep.loadB HZ 0 rfl rfl 27 (.tmp 3) rfl rfl _ Tryd.underlying27 rfl hz0 ?_) | (refine Sep.storeB HZ 1 rfl rfl 27 (.tmp 2) (.tmp 7) rfl zeroMV rfl rfl hz0 rfl h1 ?_))
    have H4 := HZ.setRow 1 rfl zeroMV
    refine bodyPost_ret (box_result Tryd.results36 (H4.box 0 rfl) _ rfl _ Tryd.underlying27 rfl hz0) rfl ?_
    exact ⟨by rw [HE.out]; rfl, H4.toBelow⟩
  · obtain ⟨n, hn⟩ : ∃ n, X.length = n + 1 := ⟨X.length - 1, by omega⟩
    have HE := Lib.hid' (lastM_in hn)
    have hlt : n < X.length := by omega
    obtain ⟨b, off, rfl, hb, hrg⟩ := h.at hlt
    have hl37 := mfV_len (h.ok _ (List.getElem_mem hlt)) X[n].2.1 X[n].2.2
    have h1 : (mV X[n]).all (·.oneCell') = true := List.all_eq_true.2 mfV_one
    rw [hn]
    have hn63 : n + 1 ≤ 9223372036854775807 := by omega
    generalize X[n] = y at *
    clear h0 h hlt
    have hz : (Tryd.prog.info? 27).map (·.size) = some (mV y).length := by unfold mV; rw [hl37]; exact mf_size
    have hz2 : zeroMV.length = (mV y).length := by unfold mV; rw [hl37]; rfl
    have HZ : Sep w NoF [.box (w.heap.size + 1) zeroMV 27, .box w.heap.size zeroMV 27] ((w.alloc (.cells #[.int .i64 0, .int .i64 0, .int .i64 0, .int .i64 0, .int .u8 0, .int .u8 0, .int .u8 0, .int .u8 0, .int .u8 0, .int .u8 0, .int .u8 0, .int .u8 0, .int .u8 0, .int .u8 0, .int .u8 0, .int .u8 0, .int .u8 0, .int .u8 0, .int .u8 0, .int .u8 0, .int .u8 0, .int .u8 0, .int .u8 0, .int .u8 0, .int .u8 0, .int .u8 0, .int .u8 0, .int .u8 0, .int .u8 0, .int .u8 0, .int .u8 0, .int .u8 0, .int .u8 0, .int .u8 0, .int .u8 0, .int .u8 0, .slice none 0 0] 27)).alloc (.cells #[.int .i64 0, .int .i64 0, .int .i64 0, .int .i64 0, .int .u8 0, .int .u8 0, .int .u8 0, .int .u8 0, .int .u8 0, .int .u8 0, .int .u8 0, .int .u8 0, .int .u8 0, .int .u8 0, .int .u8 0, .int .u8 0, .int .u8 0, .int .u8 0, .int .u8 0, .int .u8 0, .int .u8 0, .int .u8 0, .int .u8 0, .int .u8 0, .int .u8 0, .int .u8 0, .int .u8 0, .int .u8 0, .int .u8 0, .int .u8 0, .int .u8 0, .int .u8 0, .int .u8 0, .int .u8 0, .int .u8 0, .int .u8 0, .slice none 0 0] 27)) := ((Sep.start w).allocAt (w.heap.size) zeroMV 27 rfl).allocAt (w.heap.size + 1) zeroMV 27 (by simp)
    clear hl37 hn hxl
    have hn0 : ((n : Int) + 1 == 0) = false := by rw [beq_eq_false_iff_ne]; omega
    have hw : IntKind.i64.wrap (n : Int) = n := IntWalk.i64_in _ (by omega)
    go_enter Tryd.func36, Tryd.ntmps36
    go_upto_region 2 with fail
    have HG := Lib.hid' (World.rangeAt.below hrg HZ.toBelow)
    generalize (w.alloc (.cells #[.int .i64 0, .int .i64 0, .int .i64 0, .int .i64 0, .int .u8 0, .int .u8 0, .int .u8 0, .int .u8 0, .int .u8 0, .int .u8 0, .int .u8 0, .int .u8 0, .int .u8 0, .int .u8 0, .int .u8 0, .int .u8 0, .int .u8 0, .int .u8 0, .int .u8 0, .int .u8 0, .int .u8 0, .int .u8 0, .int .u8 0, .int .u8 0, .int .u8 0, .int .u8 0, .int .u8 0, .int .u8 0, .int .u8 0, .int .u8 0, .int .u8 0, .int .u8 0, .int .u8 0, .int .u8 0, .int .u8 0, .int .u8 0, .slice none 0 0] 27)).alloc (.cells #[.int .i64 0, .int .i64 0, .int .i64 0, .int .i64 0, .int .u8 0, .int .u8 0, .int .u8 0, .int .u8 0, .int .u8 0, .int .u8 0, .int .u8 0, .int .u8 0, .int .u8 0, .int .u8 0, .int .u8 0, .int .u8 0, .int .u8 0, .int .u8 0, .int .u8 0, .int .u8 0, .int .u8 0, .int .u8 0, .int .u8 0, .int .u8 0, .int .u8 0, .int .u8 0, .int .u8 0, .int .u8 0, .int .u8 0, .int .u8 0, .int .u8 0, .int .u8 0, .int .u8 0, .int .u8 0, .int .u8 0, .int .u8 0, .slice none 0 0] 27) = w1 at *
    clear hrg
    go_wp2_with (first | (refine wpList_load_at HG.out rfl 27 (.tmp 12) rfl rfl _ Tryd.underlying27 rfl hz ?_) | (refine Sep.storeB HZ 1 rfl rfl 27 (.tmp 2) (.tmp 13) rfl (mV y) rfl rfl hz hz2 h1 ?_))
    have H4 := HZ.setRow 1 rfl (mV y)
    refine bodyPost_ret (box_result Tryd.results36 (H4.box 0 rfl) _ rfl _ Tryd.underlying27 rfl hz) rfl ?_
    exact ⟨by rw [HE.out], H4.toBelow⟩
end Go.Proofs.YtlhlkdeaiobfaaaDoor
