/- Layer 16 (chain): plain facts and small functions. -/
import Derived.Test.YtinbcehlpfnlaaaGreatDoorManD
namespace Go.Proofs.YtinbcehlpfnlaaaGreatDoor
open Go.RowKit
set_option linter.unusedSimpArgs false
set_option linter.unusedVariables false
set_option maxRecDepth 100000

/-- two results, the first in a box -/
theorem box_result2 {P : Program} {fn : Func} {p q : Tmp} {ty : TypeId} (hr : fn.results = #[.cell p ty, .tmp q]) {N t : Nat} {R : List Value} {w : World} (h : BoxW N R t w) (tmps : Array Value) (hp : tmps.getD p undef = .pointer (some ⟨N, 0, none⟩)) (v : Value) (hq : tmps.getD q undef = v) (d : TypeDesc) (hu : P.underlying ty = some d) (hd : d.isRow = true) (hi : (P.info? ty).map (·.size) = some R.length) :
    (results fn tmps).run P w = .ok (.tuple #[.agg R.toArray, v]) w := by
  have hl := h.load (P := P) ty d hu hd hi
  have hp' : tmps[p]?.getD undef = .pointer (some ⟨N, 0, none⟩) := by simpa using hp
  have hq' : tmps[q]?.getD undef = v := by simpa using hq
  simp only [results, hr]
  simp [Sem.run_bind, Result.andThen, hp', hq', asAddr, hl]
def mdigB (x : Mf) : List UInt8 := if x.check = 0 then x.digest else zero32B
theorem mdigB_len (x : Mf) : (mdigB x).length = 32 := by unfold mdigB; split; exact shaB_len _; rfl
theorem mputB_len (x : Mf) (ho : x.ok) : (mputB x).length ≤ 70000 := by
  unfold mputB
  split
  · rename_i h
    have h1 := text_len h ho
    have h2 := vb_len10 (n := x.text.length) (by omega)
    unfold Mf.put
    rw [frameB_len]; omega
  · simp
set_option maxHeartbeats 4000000 in
theorem mdigest_any (x : Mf) (a : Option Addr) (c : Nat) (w : World) (ho : x.ok) (hp : PtsAt w a c x.ps) (hL : Laid w) :
    Calls Tryz.prog 37 #[.agg (mfV x a c).toArray] w fun e w' => e = .returned (.tuple #[.agg (byteVs (mdigB x)).toArray, errV x.check]) ∧ Below w.heap.size w w' := by
  have HP := Lib.hid' hp
  have HL := Lib.hid' hL
  have HL37 := mfV_len ho a c
  have HPB := Lib.hid' (mputB_len x ho)
  have hz : (Tryz.prog.info? 48).map (·.size) = some (mfV x a c).length := by rw [HL37]; exact mf_size
  clear hp hL HL37
  go_enter Tryz.func37, Tryz.ntmps37
  go_upto_region 1 with fail
  rw [zero32]
  have H0 : Sep w NoF [.box (w.heap.size + 1) zeroD 45, .box w.heap.size (mfV x a c) 48] ((w.alloc (.cells (mfV x a c).toArray 48)).alloc (.cells zeroD.toArray 45)) := ((Sep.start w).allocAt (w.heap.size) (mfV x a c) 48 rfl).allocAt (w.heap.size + 1) zeroD 45 (by simp)
  generalize (w.alloc (.cells (mfV x a c).toArray 48)).alloc (.cells zeroD.toArray 45) = w1 at *
  have HPU := Lib.hid' (mput_any x a c w1 ho (HP.out.below (Nat.le_refl _) H0.toBelow))
  clear ho HP
  go_upto_region 2 with (first | (refine Sep.loadB H0 1 rfl rfl 48 (.tmp 1) rfl rfl _ Tryz.underlying48 rfl hz ?_) | (go_at_call 56; refine HPU.out.mono ?_; rintro e w2 ⟨pa, pc, rfl, hb, hb2⟩))
  have H2 := H0.below hb2
  have HB := Lib.hid' hb
  have HL2 := Lib.hid' (HL.out.below (Nat.le_refl _) H2.toBelow)
  clear H0 hb hb2 HPU hz HL
  by_cases hck : x.check = 0
  · have HD := Lib.hid' (show shaB (mputB x) = mdigB x by unfold mdigB mputB; rw [if_pos hck, if_pos hck]; rfl)
    have HSS := Lib.hid' (shasum_any (mputB x) pa pc w2 HB.out (by have := HPB.out; omega) HL2.out)
    have HE := Lib.hid' hck
    rw [hck, errV_0]
    rw [HD.out] at HSS
    clear hck HB HPB
    have hz : (Tryz.prog.info? 45).map (·.size) = some (byteVs (mdigB x)).length := by rw [byteVs_length, mdigB_len]; exact dig_size
    have hz2 : zeroD.length = (byteVs (mdigB x)).length := by rw [byteVs_length, mdigB_len]; rfl
    have h1 : (byteVs (mdigB x)).all (·.oneCell') = true := List.all_eq_true.2 (byteVs_one _)
    obtain ⟨X, hX⟩ : ∃ X, X = byteVs (mdigB x) := ⟨_, rfl⟩
    have HXX := Lib.hid' hX
    rw [← hX] at HSS hz hz2 h1
    clear hX
    generalize (mputB x).length = pl at *
    go_upto_region 4 with fail
    go_wp2_with (first | (go_at_call 57; refine HSS.out.mono ?_; rintro e w3 ⟨rfl, hb3⟩; have H3 := H2.below hb3) | (refine Sep.storeB H3 0 rfl rfl 45 (.tmp 2) (.tmp 16) rfl X rfl rfl hz hz2 h1 ?_))
    have H4 := H3.setRow 0 rfl X
    refine bodyPost_ret (box_result2 Tryz.results37 (H4.box 0 rfl) _ rfl .nilIface rfl _ Tryz.underlying45 rfl hz) rfl ?_
    exact ⟨by rw [HXX.out, HE.out]; rfl, H4.toBelow⟩
  · have HD := Lib.hid' (show mdigB x = zero32B by unfold mdigB; rw [if_neg hck])
    rw [errV_pos hck]
    have HE := Lib.hid' (errV_pos hck)
    clear hck HB HPB HL2
    have hz : (Tryz.prog.info? 45).map (·.size) = some zeroD.length := by rw [show zeroD.length = 32 from rfl]; exact dig_size
    have h1 : zeroD.all (·.oneCell') = true := rfl
    generalize (mputB x).length = pl at *
    go_wp2_with (refine Sep.storeB H2 0 rfl rfl 45 (.tmp 2) (.tmp 13) rfl zeroD rfl rfl hz rfl h1 ?_)
    have H4 := H2.setRow 0 rfl zeroD
    refine bodyPost_ret (box_result2 Tryz.results37 (H4.box 0 rfl) _ rfl (.iface 59 (.int .i64 (x.check : Nat))) rfl _ Tryz.underlying45 rfl hz) rfl ?_
    exact ⟨by rw [HE.out, HD.out]; rfl, H4.toBelow⟩
end Go.Proofs.YtinbcehlpfnlaaaGreatDoor

namespace Go.Proofs.YtinbcehlpfnlaaaGreatDoor
open Go.RowKit
set_option linter.unusedSimpArgs false
set_option linter.unusedVariables false
set_option maxRecDepth 100000

def zeroM : Mf := ⟨0, 0, 0, 0, zero32B, []⟩
def zeroMP : MfP := (zeroM, none, 0)
def zeroMV : List Value := mV zeroMP
theorem zmf_lit : (#[.int .i64 0, .int .i64 0, .int .i64 0, .int .i64 0, .int .u8 0, .int .u8 0, .int .u8 0, .int .u8 0, .int .u8 0, .int .u8 0, .int .u8 0, .int .u8 0, .int .u8 0, .int .u8 0, .int .u8 0, .int .u8 0, .int .u8 0, .int .u8 0, .int .u8 0, .int .u8 0, .int .u8 0, .int .u8 0, .int .u8 0, .int .u8 0, .int .u8 0, .int .u8 0, .int .u8 0, .int .u8 0, .int .u8 0, .int .u8 0, .int .u8 0, .int .u8 0, .int .u8 0, .int .u8 0, .int .u8 0, .int .u8 0, .slice none 0 0] : Array Value) = zeroMV.toArray := rfl
theorem ir_0 : IR 0 := ⟨by decide, by decide⟩
theorem zeroM_ok : zeroM.ok := ⟨ir_0, ir_0, ir_0, ir_0, rfl, fun y hy => by cases hy⟩
def lastM (X : List MfP) : MfP := X.getLast?.getD zeroMP
theorem lastM_in {X : List MfP} {n : Nat} (hn : X.length = n + 1) : lastM X = X[n] := by
  unfold lastM
  rw [List.getLast?_eq_getElem?, show X.length - 1 = n by omega, List.getElem?_eq_getElem (by omega)]; rfl
theorem lastM_nil {X : List MfP} (hn : X.length = 0) : lastM X = zeroMP := by
  rw [List.eq_nil_of_length_eq_zero hn]; rfl
theorem MsAt.last {w : World} {a : Option Addr} {c : Nat} {X : List MfP} (h : MsAt w a c X) : PtsAt w (lastM X).2.1 (lastM X).2.2 (lastM X).1.ps ∧ (lastM X).1.ok := by
  rcases Nat.eq_zero_or_pos X.length with h0 | h0
  · rw [lastM_nil h0]; exact ⟨SlV.empty _ _ _ (Nat.zero_le _) (fun _ => rfl), zeroM_ok⟩
  · obtain ⟨n, hn⟩ : ∃ n, X.length = n + 1 := ⟨X.length - 1, by omega⟩
    rw [lastM_in hn]
    exact ⟨h.each _ (List.getElem_mem _), h.ok _ (List.getElem_mem _)⟩
theorem MsAt.take {w : World} {a : Option Addr} {c : Nat} {X : List MfP} (h : MsAt w a c X) {k : Nat} (hk : k ≤ X.length) : MsAt w a c (X.take k) := by
  refine ⟨?_, fun x hx => h.each x (List.mem_of_mem_take hx), fun x hx => h.ok x (List.mem_of_mem_take hx)⟩
  obtain ⟨a', c', he, h1, h2, h0, h3⟩ := h.row
  cases he
  refine ⟨a, c, rfl, ?_, h2, h0, fun j u hu => h3 j u ?_⟩
  · rw [List.length_take]; omega
  · have e : X.flatMap mV = (X.take k).flatMap mV ++ (X.drop k).flatMap mV := by rw [← List.flatMap_append, List.take_append_drop]
    rw [e, List.getElem?_append_left (List.getElem?_eq_some_iff.1 hu).1]; exact hu
set_option maxHeartbeats 4000000 in
theorem last_any (X : List MfP) (a : Option Addr) (c : Nat) (w : World) (h : MsAt w a c X) :
    Calls Tryz.prog 28 #[.slice a X.length c] w fun e w' => e = .returned (.agg (mV (lastM X)).toArray) ∧ Below w.heap.size w w' := by
  have hxl := h.len
  have hz0 : (Tryz.prog.info? 48).map (·.size) = some zeroMV.length := by rw [show zeroMV.length = 37 from rfl]; exact mf_size
  rcases Nat.eq_zero_or_pos X.length with h0 | h0
  · have HE := Lib.hid' (lastM_nil h0)
    rw [h0]
    clear h0 h
    have HZ : Sep w NoF [.box (w.heap.size + 1) zeroMV 48, .box w.heap.size zeroMV 48] ((w.alloc (.cells #[.int .i64 0, .int .i64 0, .int .i64 0, .int .i64 0, .int .u8 0, .int .u8 0, .int .u8 0, .int .u8 0, .int .u8 0, .int .u8 0, .int .u8 0, .int .u8 0, .int .u8 0, .int .u8 0, .int .u8 0, .int .u8 0, .int .u8 0, .int .u8 0, .int .u8 0, .int .u8 0, .int .u8 0, .int .u8 0, .int .u8 0, .int .u8 0, .int .u8 0, .int .u8 0, .int .u8 0, .int .u8 0, .int .u8 0, .int .u8 0, .int .u8 0, .int .u8 0, .int .u8 0, .int .u8 0, .int .u8 0, .int .u8 0, .slice none 0 0] 48)).alloc (.cells #[.int .i64 0, .int .i64 0, .int .i64 0, .int .i64 0, .int .u8 0, .int .u8 0, .int .u8 0, .int .u8 0, .int .u8 0, .int .u8 0, .int .u8 0, .int .u8 0, .int .u8 0, .int .u8 0, .int .u8 0, .int .u8 0, .int .u8 0, .int .u8 0, .int .u8 0, .int .u8 0, .int .u8 0, .int .u8 0, .int .u8 0, .int .u8 0, .int .u8 0, .int .u8 0, .int .u8 0, .int .u8 0, .int .u8 0, .int .u8 0, .int .u8 0, .int .u8 0, .int .u8 0, .int .u8 0, .int .u8 0, .int .u8 0, .slice none 0 0] 48)) := ((Sep.start w).allocAt (w.heap.size) zeroMV 48 rfl).allocAt (w.heap.size + 1) zeroMV 48 (by simp)
    have h1 : zeroMV.all (·.oneCell') = true := rfl
    go_enter Tryz.func28, Tryz.ntmps28
    go_upto_region 2 with fail
    generalize (w.alloc (.cells #[.int .i64 0, .int .i64 0, .int .i64 0, .int .i64 0, .int .u8 0, .int .u8 0, .int .u8 0, .int .u8 0, .int .u8 0, .int .u8 0, .int .u8 0, .int .u8 0, .int .u8 0, .int .u8 0, .int .u8 0, .int .u8 0, .int .u8 0, .int .u8 0, .int .u8 0, .int .u8 0, .int .u8 0, .int .u8 0, .int .u8 0, .int .u8 0, .int .u8 0, .int .u8 0, .int .u8 0, .int .u8 0, .int .u8 0, .int .u8 0, .int .u8 0, .int .u8 0, .int .u8 0, .int .u8 0, .int .u8 0, .int .u8 0, .slice none 0 0] 48)).alloc (.cells #[.int .i64 0, .int .i64 0, .int .i64 0, .int .i64 0, .int .u8 0, .int .u8 0, .int .u8 0, .int .u8 0, .int .u8 0, .int .u8 0, .int .u8 0, .int .u8 0, .int .u8 0, .int .u8 0, .int .u8 0, .int .u8 0, .int .u8 0, .int .u8 0, .int .u8 0, .int .u8 0, .int .u8 0, .int .u8 0, .int .u8 0, .int .u8 0, .int .u8 0, .int .u8 0, .int .u8 0, .int .u8 0, .int .u8 0, .int .u8 0, .int .u8 0, .int .u8 0, .int .u8 0, .int .u8 0, .int .u8 0, .int .u8 0, .slice none 0 0] 48) = w1 at *
    go_wp2_with (first | (refine Sep.loadB HZ 0 rfl rfl 48 (.tmp 3) rfl rfl _ Tryz.underlying48 rfl hz0 ?_) | (refine Sep.storeB HZ 1 rfl rfl 48 (.tmp 2) (.tmp 7) rfl zeroMV rfl rfl hz0 rfl h1 ?_))
    have H4 := HZ.setRow 1 rfl zeroMV
    refine bodyPost_ret (box_result Tryz.results28 (H4.box 0 rfl) _ rfl _ Tryz.underlying48 rfl hz0) rfl ?_
    exact ⟨by rw [HE.out]; rfl, H4.toBelow⟩
  · obtain ⟨n, hn⟩ : ∃ n, X.length = n + 1 := ⟨X.length - 1, by omega⟩
    have HE := Lib.hid' (lastM_in hn)
    have hlt : n < X.length := by omega
    obtain ⟨b, off, rfl, hb, hrg⟩ := h.at hlt
    have hl37 := mfV_len (h.ok _ (List.getElem_mem hlt)) X[n].2.1 X[n].2.2
    have h1 : (mV X[n]).all (·.oneCell') = true := List.all_eq_true.2 mfV_one
    rw [hn]
    have hn63 : n + 1 ≤ 9223372036854775807 := by omega
    generalize X[n] = y at *
    clear h0 h hlt
    have hz : (Tryz.prog.info? 48).map (·.size) = some (mV y).length := by unfold mV; rw [hl37]; exact mf_size
    have hz2 : zeroMV.length = (mV y).length := by unfold mV; rw [hl37]; rfl
    have HZ : Sep w NoF [.box (w.heap.size + 1) zeroMV 48, .box w.heap.size zeroMV 48] ((w.alloc (.cells #[.int .i64 0, .int .i64 0, .int .i64 0, .int .i64 0, .int .u8 0, .int .u8 0, .int .u8 0, .int .u8 0, .int .u8 0, .int .u8 0, .int .u8 0, .int .u8 0, .int .u8 0, .int .u8 0, .int .u8 0, .int .u8 0, .int .u8 0, .int .u8 0, .int .u8 0, .int .u8 0, .int .u8 0, .int .u8 0, .int .u8 0, .int .u8 0, .int .u8 0, .int .u8 0, .int .u8 0, .int .u8 0, .int .u8 0, .int .u8 0, .int .u8 0, .int .u8 0, .int .u8 0, .int .u8 0, .int .u8 0, .int .u8 0, .slice none 0 0] 48)).alloc (.cells #[.int .i64 0, .int .i64 0, .int .i64 0, .int .i64 0, .int .u8 0, .int .u8 0, .int .u8 0, .int .u8 0, .int .u8 0, .int .u8 0, .int .u8 0, .int .u8 0, .int .u8 0, .int .u8 0, .int .u8 0, .int .u8 0, .int .u8 0, .int .u8 0, .int .u8 0, .int .u8 0, .int .u8 0, .int .u8 0, .int .u8 0, .int .u8 0, .int .u8 0, .int .u8 0, .int .u8 0, .int .u8 0, .int .u8 0, .int .u8 0, .int .u8 0, .int .u8 0, .int .u8 0, .int .u8 0, .int .u8 0, .int .u8 0, .slice none 0 0] 48)) := ((Sep.start w).allocAt (w.heap.size) zeroMV 48 rfl).allocAt (w.heap.size + 1) zeroMV 48 (by simp)
    clear hl37 hn hxl
    have hn0 : ((n : Int) + 1 == 0) = false := by rw [beq_eq_false_iff_ne]; omega
    have hw : IntKind.i64.wrap (n : Int) = n := IntWalk.i64_in _ (by omega)
    go_enter Tryz.func28, Tryz.ntmps28
    go_upto_region 2 with fail
    have HG := Lib.hid' (World.rangeAt.below hrg HZ.toBelow)
    generalize (w.alloc (.cells #[.int .i64 0, .int .i64 0, .int .i64 0, .int .i64 0, .int .u8 0, .int .u8 0, .int .u8 0, .int .u8 0, .int .u8 0, .int .u8 0, .int .u8 0, .int .u8 0, .int .u8 0, .int .u8 0, .int .u8 0, .int .u8 0, .int .u8 0, .int .u8 0, .int .u8 0, .int .u8 0, .int .u8 0, .int .u8 0, .int .u8 0, .int .u8 0, .int .u8 0, .int .u8 0, .int .u8 0, .int .u8 0, .int .u8 0, .int .u8 0, .int .u8 0, .int .u8 0, .int .u8 0, .int .u8 0, .int .u8 0, .int .u8 0, .slice none 0 0] 48)).alloc (.cells #[.int .i64 0, .int .i64 0, .int .i64 0, .int .i64 0, .int .u8 0, .int .u8 0, .int .u8 0, .int .u8 0, .int .u8 0, .int .u8 0, .int .u8 0, .int .u8 0, .int .u8 0, .int .u8 0, .int .u8 0, .int .u8 0, .int .u8 0, .int .u8 0, .int .u8 0, .int .u8 0, .int .u8 0, .int .u8 0, .int .u8 0, .int .u8 0, .int .u8 0, .int .u8 0, .int .u8 0, .int .u8 0, .int .u8 0, .int .u8 0, .int .u8 0, .int .u8 0, .int .u8 0, .int .u8 0, .int .u8 0, .int .u8 0, .slice none 0 0] 48) = w1 at *
    clear hrg
    go_wp2_with (first | (refine wpList_load_at HG.out rfl 48 (.tmp 12) rfl rfl _ Tryz.underlying48 rfl hz ?_) | (refine Sep.storeB HZ 1 rfl rfl 48 (.tmp 2) (.tmp 13) rfl (mV y) rfl rfl hz hz2 h1 ?_))
    have H4 := HZ.setRow 1 rfl (mV y)
    refine bodyPost_ret (box_result Tryz.results28 (H4.box 0 rfl) _ rfl _ Tryz.underlying48 rfl hz) rfl ?_
    exact ⟨by rw [HE.out], H4.toBelow⟩
end Go.Proofs.YtinbcehlpfnlaaaGreatDoor
