/- Layers 15, 16: a manifest's digest; a chain's last manifest, beginning, end, mark, head. -/
import Derived.Test.YtlhlkdeaiobfaaaDoorManD
namespace Go.Proofs.YtlhlkdeaiobfaaaDoor
open Go.RowKit
set_option linter.unusedSimpArgs false
set_option linter.unusedVariables false
set_option maxRecDepth 100000

/-- two results, the first in a box -/
theorem box_result2 {P : Program} {fn : Func} {p q : Tmp} {ty : TypeId} (hr : fn.results = #[.cell p ty, .tmp q]) {N t : Nat} {R : List Value} {w : World} (h : BoxW N R t w) (tmps : Array Value) (hp : tmps.getD p undef = .pointer (some ⟨N, 0, none⟩)) (v : Value) (hq : tmps.getD q undef = v) (d : TypeDesc) (hu : P.underlying ty = some d) (hd : d.isRow = true) (hi : (P.info? ty).map (·.size) = some R.length) :
    (results fn tmps).run P w = .ok (.tuple #[.agg R.toArray, v]) w := by
  have hl := h.load (P := P) ty d hu hd hi
  have hp' : tmps[p]?.getD undef = .pointer (some ⟨N, 0, none⟩) := by simpa using hp
  have hq' : tmps[q]?.getD undef = v := by simpa using hq
  simp only [results, hr]
  simp [Sem.run_bind, Result.andThen, hp', hq', asAddr, hl]
def mdigB (x : Mf) : List UInt8 := if x.check = 0 then x.digest else zero32B
theorem mdigB_len (x : Mf) : (mdigB x).length = 32 := by unfold mdigB; split; exact shaB_len _; rfl
theorem mputB_len (x : Mf) (ho : x.ok) : (mputB x).length ≤ 70000 := by
  unfold mputB
  split
  · rename_i h
    have h1 := text_len h ho
    have h2 := vb_len10 (n := x.text.length) (by omega)
    unfold Mf.put
    rw [frameB_len]; omega
  · simp
set_option maxHeartbeats 4000000 in
theorem mdigest_any (x : Mf) (a : Option Addr) (c : Nat) (w : World) (ho : x.ok) (hp : PtsAt w a c x.ps) (hL : Laid w) :
    Calls Tryd.prog 35 #[.agg (mfV x a c).toArray] w fun e w' => e = .returned (.tuple #[.agg (byteVs (mdigB x)).toArray, errV x.check]) ∧ Below w.heap.size w w' := by
  have HP := Lib.hid' hp
  have HL := Lib.hid' hL
  have HL37 := mfV_len ho a c
  have HPB := Lib.hid' (mputB_len x ho)
  have hz : (Tryd.prog.info? 27).map (·.size) = some (mfV x a c).length := by rw [HL37]; exact mf_size
  clear hp hL HL37
  go_enter Tryd.func35, Tryd.ntmps35
  go_upto_region 1 with fail
  rw [zero32]
  have H0 : Sep w NoF [.box (w.heap.size + 1) zeroD 24, .box w.heap.size (mfV x a c) 27] ((w.alloc (.cells (mfV x a c).toArray 27)).alloc (.cells zeroD.toArray 24)) := ((Sep.start w).allocAt (w.heap.size) (mfV x a c) 27 rfl).allocAt (w.heap.size + 1) zeroD 24 (by simp)
  generalize (w.alloc (.cells (mfV x a c).toArray 27)).alloc (.cells zeroD.toArray 24) = w1 at *
  have HPU := Lib.hid' (mput_any x a c w1 ho (HP.out.below (Nat.le_refl _) H0.toBelow))
  clear ho HP
  go_upto_region 2 with (first | (refine Sep.loadB H0 1 rfl rfl 27 (.tmp 1) rfl rfl _ Tryd.underlying27 rfl hz ?_) | (go_at_call 49; refine HPU.out.mono ?_; rintro e w2 ⟨pa, pc, rfl, hb, hb2⟩))
  have H2 := H0.below hb2
  have HB := Lib.hid' hb
  have HL2 := Lib.hid' (HL.out.below (Nat.le_refl _) H2.toBelow)
  clear H0 hb hb2 HPU hz HL
  by_cases hck : x.check = 0
  · have HD := Lib.hid' (show shaB (mputB x) = mdigB x by unfold mdigB mputB; rw [if_pos hck, if_pos hck]; rfl)
    have HSS := Lib.hid' (shasum_any (mputB x) pa pc w2 HB.out (by have := HPB.out; omega) HL2.out)
    have HE := Lib.hid' hck
    rw [hck, errV_0]
    rw [HD.out] at HSS
    clear hck HB HPB
    have hz : (Tryd.prog.info? 24).map (·.size) = some (byteVs (mdigB x)).length := by rw [byteVs_length, mdigB_len]; exact dig_size
    have hz2 : zeroD.length = (byteVs (mdigB x)).length := by rw [byteVs_length, mdigB_len]; rfl
    have h1 : (byteVs (mdigB x)).all (·.oneCell') = true := List.all_eq_true.2 (byteVs_one _)
    obtain ⟨X, hX⟩ : ∃ X, X = byteVs (mdigB x) := ⟨_, rfl⟩
    have HXX := Lib.hid' hX
    rw [← hX] at HSS hz hz2 h1
    clear hX
    generalize (mputB x).length = pl at *
    go_upto_region 4 with fail
    go_wp2_with (first | (go_at_call 50; refine HSS.out.mono ?_; rintro e w3 ⟨rfl, hb3⟩; have H3 := H2.below hb3) | (refine Sep.storeB H3 0 rfl rfl 24 (.tmp 2) (.tmp 16) rfl X rfl rfl hz hz2 h1 ?_))
    have H4 := H3.setRow 0 rfl X
    refine bodyPost_ret (box_result2 Tryd.results35 (H4.box 0 rfl) _ rfl .nilIface rfl _ Tryd.underlying24 rfl hz) rfl ?_
    exact ⟨by rw [HXX.out, HE.out]; rfl, H4.toBelow⟩
  · have HD := Lib.hid' (show mdigB x = zero32B by unfold mdigB; rw [if_neg hck])
    rw [errV_pos hck]
    have HE := Lib.hid' (errV_pos hck)
    clear hck HB HPB HL2
    have hz : (Tryd.prog.info? 24).map (·.size) = some zeroD.length := by rw [show zeroD.length = 32 from rfl]; exact dig_size
    have h1 : zeroD.all (·.oneCell') = true := rfl
    generalize (mputB x).length = pl at *
    go_wp2_with (refine Sep.storeB H2 0 rfl rfl 24 (.tmp 2) (.tmp 13) rfl zeroD rfl rfl hz rfl h1 ?_)
    have H4 := H2.setRow 0 rfl zeroD
    refine bodyPost_ret (box_result2 Tryd.results35 (H4.box 0 rfl) _ rfl (.iface 68 (.int .i64 (x.check : Nat))) rfl _ Tryd.underlying24 rfl hz) rfl ?_
    exact ⟨by rw [HE.out, HD.out]; rfl, H4.toBelow⟩
end Go.Proofs.YtlhlkdeaiobfaaaDoor
