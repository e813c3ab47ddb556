/- manifest.Same, chain.Common. -/
import Derived.Test.YtlhlkdeaiobfaaaDoorFld
import Derived.Deep.DeepCutAuto
import Derived.Deep.CutBlock
namespace Go.Proofs.YtlhlkdeaiobfaaaDoor
open Go.RowKit
set_option linter.unusedSimpArgs false
set_option linter.unusedVariables false
set_option maxRecDepth 100000

deriving instance DecidableEq for Pt
deriving instance DecidableEq for Mf
theorem eqFields_cons {P : Program} {w : World} {d : Nat} {xs ys : Array Value} {f : Field} {fs : List Field} {a b : Value} {r s : Bool} (hn : f.name ≠ "_") (ha : (part f.type xs f.offset).run P w = .ok a w) (hb : (part f.type ys f.offset).run P w = .ok b w)
    (hr : (Op.equalIn d f.type a b).run P w = .ok r w) (hs : (Op.eqFields d xs ys fs).run P w = .ok s w) : (Op.eqFields d xs ys (f :: fs)).run P w = .ok (r && s) w := by
  rw [Op.eqFields, if_pos hn]
  simp only [Sem.run_bind, ha, hb, hr, Result.andThen_ok]
  cases r
  · rfl
  · exact hs
theorem pt_d' (x : Pt) (h : x.ok) (w : World) : (part 24 (ptV x).toArray 3).run Tryd.prog w = .ok (.agg (byteVs x.d).toArray) w := by
  refine (part_arr w Tryd.underlying24 dig_size _ _).trans ?_
  have := ext_in (A := [.int .i64 x.f, .int .i64 x.m, .int .i64 x.s]) (B := byteVs x.d) (C := []) (i := 3) (j := 32) rfl (by rw [byteVs_length, h.d])
  rw [List.append_nil] at this
  exact congrArg (fun q => Result.ok (Value.agg q) w) this
theorem eqPt (x y : Pt) (hx : x.ok) (hy : y.ok) (w : World) : (Op.equalIn 10000 71 (.agg (ptV x).toArray) (.agg (ptV y).toArray)).run Tryd.prog w = .ok (decide (x = y)) w := by
  rw [run_equalIn_agg w 9999 71 _ _ (by kernel_rfl) (by kernel_rfl)]
  have hF : Tryd.prog.fieldsOf 71 = (match Tryd.prog.underlying 71 with | some (.struct fs) => fs | _ => #[]) := rfl
  rw [hF, Tryd.underlying71]
  have h4 : (Op.equalIn 9999 24 (.agg (byteVs x.d).toArray) (.agg (byteVs y.d).toArray)).run Tryd.prog w = .ok (x.d == y.d) w :=
    run_equalIn_bytes w 9997 32 24 5 Tryd.underlying24 Tryd.underlying5 u8_size x.d y.d hx.d hy.d
  have hi : ∀ a b : Int, (Op.equalIn 9999 3 (.int .i64 a) (.int .i64 b)).run Tryd.prog w = .ok (a == b) w := fun a b => run_equalIn_int w 9998 3 .i64 .i64 a b Tryd.underlying3
  refine Eq.trans (eqFields_cons (by decide) (part_one w Tryd.underlying3 rfl (toArr_get rfl)) (part_one w Tryd.underlying3 rfl (toArr_get rfl)) (hi x.f y.f)
    (eqFields_cons (by decide) (part_one w Tryd.underlying3 rfl (toArr_get rfl)) (part_one w Tryd.underlying3 rfl (toArr_get rfl)) (hi x.m y.m)
      (eqFields_cons (by decide) (part_one w Tryd.underlying3 rfl (toArr_get rfl)) (part_one w Tryd.underlying3 rfl (toArr_get rfl)) (hi x.s y.s)
        (eqFields_cons (by decide) (pt_d' x hx w) (pt_d' y hy w) h4 (rfl : (Op.eqFields 9999 (ptV x).toArray (ptV y).toArray []).run Tryd.prog w = .ok true w))))) ?_
  refine congrArg (fun q => Result.ok q w) ?_
  obtain ⟨a1, a2, a3, a4⟩ := x
  obtain ⟨b1, b2, b3, b4⟩ := y
  rw [Bool.eq_iff_iff]
  simp
attribute [-go_sem] run_equalIn_agg
theorem ptV_row {x : Pt} (h : x.ok) : (Tryd.prog.info? 71).map (·.size) = some (ptV x).length := by rw [ptV_len h]; kernel_rfl
theorem take_same {α : Type} [DecidableEq α] {X Y : List α} {k : Nat} (h : X.take k = Y.take k) (hk : k < X.length) (hy : k < Y.length) (he : X[k] = Y[k]) : X.take (k + 1) = Y.take (k + 1) := by
  rw [List.take_add_one, List.take_add_one, h, List.getElem?_eq_getElem hk, List.getElem?_eq_getElem hy, he]
set_option maxHeartbeats 8000000 in
theorem sequal_any (X Y : List Pt) (a b : Option Addr) (c e : Nat) (w : World) (hX : PtsAt w a c X) (hY : PtsAt w b e Y) (oX : ∀ y ∈ X, y.ok) (oY : ∀ y ∈ Y, y.ok) :
    Calls Tryd.prog 30 #[.slice a X.length c, .slice b Y.length e] w fun en w' => en = .returned (.bool (decide (X = Y))) ∧ Below w.heap.size w w' := by
  have hlx := hX.len
  have hly := hY.len
  have HX := Lib.hid' hX
  have HY := Lib.hid' hY
  have OX := Lib.hid' oX
  have OY := Lib.hid' oY
  clear hX hY oX oY
  go_enter Tryd.func30, Tryd.ntmps30
  by_cases hl : X.length = Y.length
  rotate_left
  · have hl' : ((X.length : Int) != (Y.length : Int)) = true := by rw [bne_iff_ne]; omega
    have HR := Lib.hid' (show decide (X = Y) = false from decide_eq_false (fun h => hl (congrArg List.length h)))
    clear hl
    go_wp2_with fail
    go_ret
    exact ⟨ret_eq (by rw [HR.out]; rfl), Below.refl _ _⟩
  · have HLN := Lib.hid' hl
    have hl' : ((X.length : Int) != (Y.length : Int)) = false := by rw [bne_eq_false_iff_eq]; omega
    clear hl
    go_wp2_with fail
    clear hl'
    go_loopw [13] (fun v13 wr => ∃ k : Nat, v13 = .int .i64 k ∧ k ≤ X.length ∧ Hid (X.take k = Y.take k) ∧ Hid (Below w.heap.size w wr)) (fun v13 _ => X.length - (intOf v13).toNat)
    case atStart => exact ⟨0, rfl, Nat.zero_le _, Lib.hid' rfl, Lib.hid' (Below.refl _ _)⟩
    case round =>
      obtain ⟨k, rfl, hk, HC, HB⟩ := hrel
      by_cases hlt : k < X.length
      · have hltY : k < Y.length := by rw [← HLN.out]; exact hlt
        have HXr := Lib.hid' (HX.out.below (Nat.le_refl _) HB.out)
        have HYr := Lib.hid' (HY.out.below (Nat.le_refl _) HB.out)
        obtain ⟨ba, oa, rfl, hba, hra⟩ := PtsAt.at HXr.out OX.out hlt
        obtain ⟨bb, ob, rfl, hbb, hrb⟩ := PtsAt.at HYr.out OY.out hltY
        have hko := OX.out _ (List.getElem_mem hlt)
        have hkp := OY.out _ (List.getElem_mem hltY)
        have HEQ := Lib.hid' (fun wq => eqPt X[k] Y[k] hko hkp wq)
        have hzx := ptV_row hko
        have hzy := ptV_row hkp
        have HRA := Lib.hid' (fun wq (hb : Below wr.heap.size wr wq) => World.rangeAt.below hra hb)
        have HRB := Lib.hid' (fun wq (hb : Below wr.heap.size wr wq) => World.rangeAt.below hrb hb)
        have HT := Lib.hid' (fun he => take_same HC.out hlt hltY he)
        have HNE := Lib.hid' (fun (h : X[k] ≠ Y[k]) => show decide (X = Y) = false from decide_eq_false (fun hh => h (by simp only [hh])))
        by_cases hs : X[k] = Y[k]
        · rw [decide_eq_true hs] at HEQ
          have HT2 := Lib.hid' (HT.out hs)
          clear hs HT HNE hra hrb hko hkp HXr HYr
          have hly2 : (k : Int) < (Y.length : Int) := by omega
          have hlx2 : (k : Int) < (X.length : Int) := by omega
          generalize ptV X[k] = PX at *
          generalize ptV Y[k] = PY at *
          generalize Y.length = ny at *
          go_upto_region 6 with fail
          refine wp_region_held_drew (S := (fun w' => Below wr.heap.size wr w')) (by kernel_rfl) ((Below.refl _ _).drew) (fun hH0 => ?_)
          refine wpAnyH_take (i := 0) (oi := _) (v := .slice (some ⟨ba, oa, none⟩) X.length c) rfl (by kernel_rfl) (by kernel_rfl) (by kernel_rfl) (fun _ _ _ h => h) (Or.inl ⟨by rfl, ?_⟩) hH0 ?_
          · intro w hSw; go_simp
          simp only [Act.put, List.getElem_toArray, List.getElem_cons_zero, List.getElem_cons_succ, List.setIfInBounds_toArray, List.set_cons_zero, List.set_cons_succ]
          refine wpAnyH_take (i := 1) (oi := _) (v := .int .i64 (k : Int)) rfl (by kernel_rfl) (by kernel_rfl) (by kernel_rfl) (fun _ _ _ h => h) (Or.inl ⟨by rfl, ?_⟩) hH0 ?_
          · intro w hSw; go_simp
          simp only [Act.put, List.getElem_toArray, List.getElem_cons_zero, List.getElem_cons_succ, List.setIfInBounds_toArray, List.set_cons_zero, List.set_cons_succ]
          refine wpAnyH_take (i := 2) (oi := _) (v := .pointer (some ⟨ba, oa + k * 35, none⟩)) rfl (by kernel_rfl) (by kernel_rfl) (by kernel_rfl) (fun _ _ _ h => h) (Or.inl ⟨by rfl, ?_⟩) hH0 ?_
          · intro w hSw; go_simp
          simp only [Act.put, List.getElem_toArray, List.getElem_cons_zero, List.getElem_cons_succ, List.setIfInBounds_toArray, List.set_cons_zero, List.set_cons_succ]
          refine wpAnyH_take (i := 3) (oi := _) (v := .agg PX.toArray) rfl (by kernel_rfl) (by kernel_rfl) (by kernel_rfl) (fun _ _ _ h => h) (yieldsIf_load_mid (by kernel_rfl) 71 (.tmp 18) rfl ba (oa + k * 35) rfl PX _ (fun wq hb => HRA.out wq hb) Tryd.underlying71 rfl hzx) hH0 ?_
          simp only [Act.put, List.getElem_toArray, List.getElem_cons_zero, List.getElem_cons_succ, List.setIfInBounds_toArray, List.set_cons_zero, List.set_cons_succ]
          refine wpAnyH_take (i := 4) (oi := _) (v := .slice (some ⟨bb, ob, none⟩) ny e) rfl (by kernel_rfl) (by kernel_rfl) (by kernel_rfl) (fun _ _ _ h => h) (Or.inl ⟨by rfl, ?_⟩) hH0 ?_
          · intro w hSw; go_simp
          simp only [Act.put, List.getElem_toArray, List.getElem_cons_zero, List.getElem_cons_succ, List.setIfInBounds_toArray, List.set_cons_zero, List.set_cons_succ]
          refine wpAnyH_take (i := 5) (oi := _) (v := .int .i64 (k : Int)) rfl (by kernel_rfl) (by kernel_rfl) (by kernel_rfl) (fun _ _ _ h => h) (Or.inl ⟨by rfl, ?_⟩) hH0 ?_
          · intro w hSw; go_simp
          simp only [Act.put, List.getElem_toArray, List.getElem_cons_zero, List.getElem_cons_succ, List.setIfInBounds_toArray, List.set_cons_zero, List.set_cons_succ]
          refine wpAnyH_take (i := 6) (oi := _) (v := .pointer (some ⟨bb, ob + k * 35, none⟩)) rfl (by kernel_rfl) (by kernel_rfl) (by kernel_rfl) (fun _ _ _ h => h) (Or.inl ⟨by rfl, ?_⟩) hH0 ?_
          · intro w hSw; go_simp
          simp only [Act.put, List.getElem_toArray, List.getElem_cons_zero, List.getElem_cons_succ, List.setIfInBounds_toArray, List.set_cons_zero, List.set_cons_succ]
          refine wpAnyH_take (i := 7) (oi := _) (v := .agg PY.toArray) rfl (by kernel_rfl) (by kernel_rfl) (by kernel_rfl) (fun _ _ _ h => h) (yieldsIf_load_mid (by kernel_rfl) 71 (.tmp 22) rfl bb (ob + k * 35) rfl PY _ (fun wq hb => HRB.out wq hb) Tryd.underlying71 rfl hzy) hH0 ?_
          simp only [Act.put, List.getElem_toArray, List.getElem_cons_zero, List.getElem_cons_succ, List.setIfInBounds_toArray, List.set_cons_zero, List.set_cons_succ]
          refine wpAnyH_take (i := 8) (oi := _) (v := .bool false) rfl (by kernel_rfl) (by kernel_rfl) (by kernel_rfl) (fun _ _ _ h => h) (Or.inl ⟨by rfl, ?_⟩) hH0 ?_
          · intro w hSw; have e := HEQ.out w; go_simp
          simp only [Act.put, List.getElem_toArray, List.getElem_cons_zero, List.getElem_cons_succ, List.setIfInBounds_toArray, List.set_cons_zero, List.set_cons_succ]
          refine wpAnyH_done (by kernel_rfl) ?_ _
          have HB6 := Lib.hid' (HB.out.trans (Below.mono hH0 HB.out.size))
          go_wp2_with fail
          go_roundw
          case rel => exact ⟨k + 1, by go_num, by omega, HT2, HB6⟩
          case measure => simp [intOf]; omega
        · rw [decide_eq_false hs] at HEQ
          have HR := Lib.hid' (HNE.out hs)
          clear hs HT HNE hra hrb hko hkp HXr HYr
          have hly2 : (k : Int) < (Y.length : Int) := by omega
          have hlx2 : (k : Int) < (X.length : Int) := by omega
          generalize ptV X[k] = PX at *
          generalize ptV Y[k] = PY at *
          generalize Y.length = ny at *
          go_upto_region 6 with fail
          refine wp_region_held_drew (S := (fun w' => Below wr.heap.size wr w')) (by kernel_rfl) ((Below.refl _ _).drew) (fun hH0 => ?_)
          refine wpAnyH_take (i := 0) (oi := _) (v := .slice (some ⟨ba, oa, none⟩) X.length c) rfl (by kernel_rfl) (by kernel_rfl) (by kernel_rfl) (fun _ _ _ h => h) (Or.inl ⟨by rfl, ?_⟩) hH0 ?_
          · intro w hSw; go_simp
          simp only [Act.put, List.getElem_toArray, List.getElem_cons_zero, List.getElem_cons_succ, List.setIfInBounds_toArray, List.set_cons_zero, List.set_cons_succ]
          refine wpAnyH_take (i := 1) (oi := _) (v := .int .i64 (k : Int)) rfl (by kernel_rfl) (by kernel_rfl) (by kernel_rfl) (fun _ _ _ h => h) (Or.inl ⟨by rfl, ?_⟩) hH0 ?_
          · intro w hSw; go_simp
          simp only [Act.put, List.getElem_toArray, List.getElem_cons_zero, List.getElem_cons_succ, List.setIfInBounds_toArray, List.set_cons_zero, List.set_cons_succ]
          refine wpAnyH_take (i := 2) (oi := _) (v := .pointer (some ⟨ba, oa + k * 35, none⟩)) rfl (by kernel_rfl) (by kernel_rfl) (by kernel_rfl) (fun _ _ _ h => h) (Or.inl ⟨by rfl, ?_⟩) hH0 ?_
          · intro w hSw; go_simp
          simp only [Act.put, List.getElem_toArray, List.getElem_cons_zero, List.getElem_cons_succ, List.setIfInBounds_toArray, List.set_cons_zero, List.set_cons_succ]
          refine wpAnyH_take (i := 3) (oi := _) (v := .agg PX.toArray) rfl (by kernel_rfl) (by kernel_rfl) (by kernel_rfl) (fun _ _ _ h => h) (yieldsIf_load_mid (by kernel_rfl) 71 (.tmp 18) rfl ba (oa + k * 35) rfl PX _ (fun wq hb => HRA.out wq hb) Tryd.underlying71 rfl hzx) hH0 ?_
          simp only [Act.put, List.getElem_toArray, List.getElem_cons_zero, List.getElem_cons_succ, List.setIfInBounds_toArray, List.set_cons_zero, List.set_cons_succ]
          refine wpAnyH_take (i := 4) (oi := _) (v := .slice (some ⟨bb, ob, none⟩) ny e) rfl (by kernel_rfl) (by kernel_rfl) (by kernel_rfl) (fun _ _ _ h => h) (Or.inl ⟨by rfl, ?_⟩) hH0 ?_
          · intro w hSw; go_simp
          simp only [Act.put, List.getElem_toArray, List.getElem_cons_zero, List.getElem_cons_succ, List.setIfInBounds_toArray, List.set_cons_zero, List.set_cons_succ]
          refine wpAnyH_take (i := 5) (oi := _) (v := .int .i64 (k : Int)) rfl (by kernel_rfl) (by kernel_rfl) (by kernel_rfl) (fun _ _ _ h => h) (Or.inl ⟨by rfl, ?_⟩) hH0 ?_
          · intro w hSw; go_simp
          simp only [Act.put, List.getElem_toArray, List.getElem_cons_zero, List.getElem_cons_succ, List.setIfInBounds_toArray, List.set_cons_zero, List.set_cons_succ]
          refine wpAnyH_take (i := 6) (oi := _) (v := .pointer (some ⟨bb, ob + k * 35, none⟩)) rfl (by kernel_rfl) (by kernel_rfl) (by kernel_rfl) (fun _ _ _ h => h) (Or.inl ⟨by rfl, ?_⟩) hH0 ?_
          · intro w hSw; go_simp
          simp only [Act.put, List.getElem_toArray, List.getElem_cons_zero, List.getElem_cons_succ, List.setIfInBounds_toArray, List.set_cons_zero, List.set_cons_succ]
          refine wpAnyH_take (i := 7) (oi := _) (v := .agg PY.toArray) rfl (by kernel_rfl) (by kernel_rfl) (by kernel_rfl) (fun _ _ _ h => h) (yieldsIf_load_mid (by kernel_rfl) 71 (.tmp 22) rfl bb (ob + k * 35) rfl PY _ (fun wq hb => HRB.out wq hb) Tryd.underlying71 rfl hzy) hH0 ?_
          simp only [Act.put, List.getElem_toArray, List.getElem_cons_zero, List.getElem_cons_succ, List.setIfInBounds_toArray, List.set_cons_zero, List.set_cons_succ]
          refine wpAnyH_take (i := 8) (oi := _) (v := .bool true) rfl (by kernel_rfl) (by kernel_rfl) (by kernel_rfl) (fun _ _ _ h => h) (Or.inl ⟨by rfl, ?_⟩) hH0 ?_
          · intro w hSw; have e := HEQ.out w; go_simp
          simp only [Act.put, List.getElem_toArray, List.getElem_cons_zero, List.getElem_cons_succ, List.setIfInBounds_toArray, List.set_cons_zero, List.set_cons_succ]
          refine wpAnyH_done (by kernel_rfl) ?_ _
          have HB6 := Lib.hid' (HB.out.trans (Below.mono hH0 HB.out.size))
          go_wp2_with fail
          go_ret
          exact ⟨ret_eq (by rw [HR.out]; rfl), HB6.out⟩
      · obtain rfl : k = X.length := by omega
        have HR := Lib.hid' (show decide (X = Y) = true from decide_eq_true (by have := HC.out; rw [List.take_length, HLN.out, List.take_length] at this; exact this))
        go_wp2_with fail
        go_ret
        exact ⟨ret_eq (by rw [HR.out]; rfl), HB.out⟩
end Go.Proofs.YtlhlkdeaiobfaaaDoor

namespace Go.Proofs.YtlhlkdeaiobfaaaDoor
open Go.RowKit
set_option linter.unusedSimpArgs false
set_option linter.unusedVariables false
set_option maxRecDepth 100000

theorem mf_ne {x y : Mf} (h : x.n ≠ y.n ∨ x.f ≠ y.f ∨ x.t ≠ y.t ∨ x.r ≠ y.r ∨ x.p ≠ y.p ∨ x.ps ≠ y.ps) : decide (x = y) = false := decide_eq_false (fun e => by
  subst e
  rcases h with h | h | h | h | h | h <;> exact h rfl)
theorem mf_eq {x y : Mf} (h0 : x.n = y.n) (h1 : x.f = y.f) (h2 : x.t = y.t) (h3 : x.r = y.r) (h4 : x.p = y.p) : decide (x = y) = decide (x.ps = y.ps) := by
  obtain ⟨a0, a1, a2, a3, a4, a5⟩ := x
  obtain ⟨b0, b1, b2, b3, b4, b5⟩ := y
  cases h0; cases h1; cases h2; cases h3; cases h4
  rw [Bool.eq_iff_iff]; simp
set_option maxHeartbeats 8000000 in
theorem msame_any (x y : Mf) (a b : Option Addr) (c e : Nat) (w : World) (ox : x.ok) (oy : y.ok) (hx : PtsAt w a c x.ps) (hy : PtsAt w b e y.ps) :
    Calls Tryd.prog 11 #[.agg (mfV x a c).toArray, .agg (mfV y b e).toArray] w fun en w' => en = .returned (.bool (decide (x = y))) ∧ Below w.heap.size w w' := by
  have HNE := Lib.hid' (fun h => @mf_ne x y h)
  have HE := Lib.hid' (fun h0 h1 h2 h3 h4 => @mf_eq x y h0 h1 h2 h3 h4)
  have HEQ := Lib.hid' (fun wq => eqD x.p y.p ox.p oy.p wq)
  have HS := Lib.hid' (fun wq (hb : Below w.heap.size w wq) => sequal_any x.ps y.ps a b c e wq (hx.below (Nat.le_refl _) hb) (hy.below (Nat.le_refl _) hb) ox.ps oy.ps)
  have x36 := mfV_36 ox a c
  have y36 := mfV_36 oy b e
  have HRX := Lib.hid' (fun (wq : World) (hq : BoxW w.heap.size (mfV x a c) 27 wq) => mfV_range ox a c hq.range)
  have HRY := Lib.hid' (fun (wq : World) (hq : BoxW (w.heap.size + 1) (mfV y b e) 27 wq) => mfV_range oy b e hq.range)
  have hzx : (Tryd.prog.info? 24).map (·.size) = some (byteVs x.p).length := by rw [byteVs_length, ox.p]; exact dig_size
  have hzy : (Tryd.prog.info? 24).map (·.size) = some (byteVs y.p).length := by rw [byteVs_length, oy.p]; exact dig_size
  clear ox oy hx hy
  go_enter Tryd.func11, Tryd.ntmps11
  go_upto_region 1 with fail
  have H0 : Sep w NoF [.box w.heap.size (mfV x a c) 27] (w.alloc (.cells (mfV x a c).toArray 27)) := (Sep.start w).allocAt (w.heap.size) (mfV x a c) 27 rfl
  have H1 : Sep w NoF [.box (w.heap.size + 1) (mfV y b e) 27, .box w.heap.size (mfV x a c) 27] ((w.alloc (.cells (mfV x a c).toArray 27)).alloc (.cells (mfV y b e).toArray 27)) := H0.allocAt (w.heap.size + 1) (mfV y b e) 27 (by simp)
  clear H0
  generalize (w.alloc (.cells (mfV x a c).toArray 27)).alloc (.cells (mfV y b e).toArray 27) = w1 at *
  have HB := Lib.hid' H1.toBelow
  have x0 := H1.cell 1 rfl 0 (v := .int .i64 x.n) rfl
  have x1 := H1.cell 1 rfl 1 (v := .int .i64 x.f) rfl
  have x2 := H1.cell 1 rfl 2 (v := .int .i64 x.t) rfl
  have x3 := H1.cell 1 rfl 3 (v := .int .i64 x.r) rfl
  have x6 := H1.cell 1 rfl 36 x36
  have y0 := H1.cell 0 rfl 0 (v := .int .i64 y.n) rfl
  have y1 := H1.cell 0 rfl 1 (v := .int .i64 y.f) rfl
  have y2 := H1.cell 0 rfl 2 (v := .int .i64 y.t) rfl
  have y3 := H1.cell 0 rfl 3 (v := .int .i64 y.r) rfl
  have y6 := H1.cell 0 rfl 36 y36
  have HGX := Lib.hid' (HRX.out w1 (H1.box 1 rfl))
  have HGY := Lib.hid' (HRY.out w1 (H1.box 0 rfl))
  have HS1 := Lib.hid' (HS.out w1 HB.out)
  clear HRX HRY HS H1 x36 y36
  generalize hxl : x.ps.length = nx at *
  generalize hyl : y.ps.length = ny at *
  clear hxl hyl
  by_cases h0 : x.n = y.n
  rotate_left
  · have b0 : (x.n == y.n) = false := by rw [beq_eq_false_iff_ne]; exact h0
    have HR := Lib.hid' (HNE.out (.inl h0))
    clear h0 HNE HE HS1 
    go_wp2_with (first | (refine wpList_load_atG HGX.out (by kernel_rfl) 24 (.tmp 32) rfl rfl _ Tryd.underlying24 rfl hzx ?_) | (refine wpList_load_atG HGY.out (by kernel_rfl) 24 (.tmp 34) rfl rfl _ Tryd.underlying24 rfl hzy ?_) | (go_at_call 30; refine HS1.out.mono ?_; rintro en w2 ⟨rfl, hb2⟩))
    go_ret
    exact ⟨ret_eq (by rw [HR.out]; rfl), HB.out⟩
  have b0 : (x.n == y.n) = true := by rw [beq_iff_eq]; exact h0
  by_cases h1 : x.f = y.f
  rotate_left
  · have b1 : (x.f == y.f) = false := by rw [beq_eq_false_iff_ne]; exact h1
    have HR := Lib.hid' (HNE.out (.inr <| .inl h1))
    clear h1 HNE HE HS1 h0
    go_wp2_with (first | (refine wpList_load_atG HGX.out (by kernel_rfl) 24 (.tmp 32) rfl rfl _ Tryd.underlying24 rfl hzx ?_) | (refine wpList_load_atG HGY.out (by kernel_rfl) 24 (.tmp 34) rfl rfl _ Tryd.underlying24 rfl hzy ?_) | (go_at_call 30; refine HS1.out.mono ?_; rintro en w2 ⟨rfl, hb2⟩))
    go_ret
    exact ⟨ret_eq (by rw [HR.out]; rfl), HB.out⟩
  have b1 : (x.f == y.f) = true := by rw [beq_iff_eq]; exact h1
  by_cases h2 : x.t = y.t
  rotate_left
  · have b2 : (x.t == y.t) = false := by rw [beq_eq_false_iff_ne]; exact h2
    have HR := Lib.hid' (HNE.out (.inr <| .inr <| .inl h2))
    clear h2 HNE HE HS1 h0 h1
    go_wp2_with (first | (refine wpList_load_atG HGX.out (by kernel_rfl) 24 (.tmp 32) rfl rfl _ Tryd.underlying24 rfl hzx ?_) | (refine wpList_load_atG HGY.out (by kernel_rfl) 24 (.tmp 34) rfl rfl _ Tryd.underlying24 rfl hzy ?_) | (go_at_call 30; refine HS1.out.mono ?_; rintro en w2 ⟨rfl, hb2⟩))
    go_ret
    exact ⟨ret_eq (by rw [HR.out]; rfl), HB.out⟩
  have b2 : (x.t == y.t) = true := by rw [beq_iff_eq]; exact h2
  by_cases h3 : x.r = y.r
  rotate_left
  · have b3 : (x.r == y.r) = false := by rw [beq_eq_false_iff_ne]; exact h3
    have HR := Lib.hid' (HNE.out (.inr <| .inr <| .inr <| .inl h3))
    clear h3 HNE HE HS1 h0 h1 h2
    go_wp2_with (first | (refine wpList_load_atG HGX.out (by kernel_rfl) 24 (.tmp 32) rfl rfl _ Tryd.underlying24 rfl hzx ?_) | (refine wpList_load_atG HGY.out (by kernel_rfl) 24 (.tmp 34) rfl rfl _ Tryd.underlying24 rfl hzy ?_) | (go_at_call 30; refine HS1.out.mono ?_; rintro en w2 ⟨rfl, hb2⟩))
    go_ret
    exact ⟨ret_eq (by rw [HR.out]; rfl), HB.out⟩
  have b3 : (x.r == y.r) = true := by rw [beq_iff_eq]; exact h3
  by_cases h4 : x.p = y.p
  rotate_left
  · have b4 : (x.p == y.p) = false := by rw [beq_eq_false_iff_ne]; exact h4
    rw [b4] at HEQ
    have HR := Lib.hid' (HNE.out (.inr <| .inr <| .inr <| .inr <| .inl h4))
    have HQ := HEQ.out
    clear h0 h1 h2 h3 h4 b4 HNE HE HS1 HEQ
    generalize byteVs x.p = PX at *
    generalize byteVs y.p = PY at *
    go_wp2_with (first | (refine wpList_load_atG HGX.out (by kernel_rfl) 24 (.tmp 32) rfl rfl _ Tryd.underlying24 rfl hzx ?_) | (refine wpList_load_atG HGY.out (by kernel_rfl) 24 (.tmp 34) rfl rfl _ Tryd.underlying24 rfl hzy ?_) | (go_at_call 30; refine HS1.out.mono ?_; rintro en w2 ⟨rfl, hb2⟩))
    go_ret
    exact ⟨ret_eq (by rw [HR.out]; rfl), HB.out⟩
  have b4 : (x.p == y.p) = true := by rw [beq_iff_eq]; exact h4
  rw [b4] at HEQ
  have HR := Lib.hid' (HE.out h0 h1 h2 h3 h4)
  have HQ := HEQ.out
  clear h0 h1 h2 h3 h4 b4 HNE HE HEQ
  generalize byteVs x.p = PX at *
  generalize byteVs y.p = PY at *
  generalize decide (x.ps = y.ps) = r at *
  go_wp2_with (first | (refine wpList_load_atG HGX.out (by kernel_rfl) 24 (.tmp 32) rfl rfl _ Tryd.underlying24 rfl hzx ?_) | (refine wpList_load_atG HGY.out (by kernel_rfl) 24 (.tmp 34) rfl rfl _ Tryd.underlying24 rfl hzy ?_) | (go_at_call 30; refine HS1.out.mono ?_; rintro en w2 ⟨rfl, hb2⟩))
  go_ret
  exact ⟨ret_eq (by rw [HR.out]; rfl), HB.out.trans (hb2.mono HB.out.size)⟩
end Go.Proofs.YtlhlkdeaiobfaaaDoor

namespace Go.Proofs.YtlhlkdeaiobfaaaDoor
open Go.RowKit
set_option linter.unusedSimpArgs false
set_option linter.unusedVariables false
set_option maxRecDepth 100000

/-- how many manifests two lists have in common, from the first on -/
def comM : List MfP → List MfP → Nat
  | x :: X, y :: Y => if x.1 = y.1 then comM X Y + 1 else 0
  | _, _ => 0
theorem com_step {X Y : List MfP} {k : Nat} (hx : k < X.length) (hy : k < Y.length) (h : X[k].1 = Y[k].1) : k + comM (X.drop k) (Y.drop k) = (k + 1) + comM (X.drop (k + 1)) (Y.drop (k + 1)) := by
  rw [List.drop_eq_getElem_cons hx, List.drop_eq_getElem_cons hy, comM, if_pos h]; omega
theorem com_stop {X Y : List MfP} {k : Nat} (hx : k < X.length) (hy : k < Y.length) (h : X[k].1 ≠ Y[k].1) : k + comM (X.drop k) (Y.drop k) = k := by
  rw [List.drop_eq_getElem_cons hx, List.drop_eq_getElem_cons hy, comM, if_neg h]; omega
theorem com_end {X Y : List MfP} {k : Nat} (h : X.length ≤ k ∨ Y.length ≤ k) : k + comM (X.drop k) (Y.drop k) = k := by
  rcases h with h | h
  · rw [List.drop_eq_nil_of_le h]; simp [comM]
  · rw [List.drop_eq_nil_of_le h]; cases X.drop k <;> simp [comM]
set_option maxHeartbeats 16000000 in
theorem common_any (X Y : List MfP) (a b : Option Addr) (c e : Nat) (w : World) (hX : MsAt w a c X) (hY : MsAt w b e Y) :
    Calls Tryd.prog 15 #[.slice a X.length c, .slice b Y.length e] w fun en w' => en = .returned (.int .i64 (comM X Y : Nat)) ∧ Below w.heap.size w w' := by
  have hlx := hX.len
  have hly := hY.len
  have HX := Lib.hid' hX
  have HY := Lib.hid' hY
  obtain ⟨mn, hmn⟩ : ∃ m, m = min X.length Y.length := ⟨_, rfl⟩
  have hm1 : mn ≤ X.length := by omega
  have hm2 : mn ≤ Y.length := by omega
  have HM := Lib.hid' (show mn = X.length ∨ mn = Y.length by omega)
  clear hX hY hmn
  go_enter Tryd.func15, Tryd.ntmps15
  go_wp2_with fail
  go_loopw [5] (fun v5 wr => ∃ k : Nat, v5 = .int .i64 k ∧ k ≤ mn ∧ Hid (comM X Y = k + comM (X.drop k) (Y.drop k)) ∧ Hid (Below w.heap.size w wr)) (fun v5 _ => mn - (intOf v5).toNat)
  case atStart => exact ⟨0, rfl, Nat.zero_le _, Lib.hid' (by simp), Lib.hid' (Below.refl _ _)⟩
  case round =>
    obtain ⟨k, rfl, hk, HC, HB⟩ := hrel
    by_cases hlt : k < mn
    · have hltX : k < X.length := by omega
      have hltY : k < Y.length := by omega
      have HXr := Lib.hid' (HX.out.below (Nat.le_refl _) HB.out)
      have HYr := Lib.hid' (HY.out.below (Nat.le_refl _) HB.out)
      obtain ⟨ba, oa, rfl, hba, hra⟩ := MsAt.at HXr.out hltX
      obtain ⟨bb, ob, rfl, hbb, hrb⟩ := MsAt.at HYr.out hltY
      have ox := HX.out.ok _ (List.getElem_mem hltX)
      have oy := HY.out.ok _ (List.getElem_mem hltY)
      have hzx : (Tryd.prog.info? 27).map (·.size) = some (mV X[k]).length := by unfold mV; rw [mfV_len ox]; exact mf_size
      have hzy : (Tryd.prog.info? 27).map (·.size) = some (mV Y[k]).length := by unfold mV; rw [mfV_len oy]; exact mf_size
      have ex := HXr.out.each _ (List.getElem_mem hltX)
      have ey := HYr.out.each _ (List.getElem_mem hltY)
      have HSM := Lib.hid' (fun wq (hb : Below wr.heap.size wr wq) => show Calls Tryd.prog 11 #[.agg (mV X[k]).toArray, .agg (mV Y[k]).toArray] wq fun en w' => en = .returned (.bool (decide (X[k].1 = Y[k].1))) ∧ Below wq.heap.size wq w' from
        msame_any X[k].1 Y[k].1 X[k].2.1 Y[k].2.1 X[k].2.2 Y[k].2.2 wq ox oy (ex.below (Nat.le_refl _) hb) (ey.below (Nat.le_refl _) hb))
      have HRA := Lib.hid' (fun wq (hb : Below wr.heap.size wr wq) => World.rangeAt.below hra hb)
      have HRB := Lib.hid' (fun wq (hb : Below wr.heap.size wr wq) => World.rangeAt.below hrb hb)
      have HT := Lib.hid' (fun he => HC.out.trans (com_step hltX hltY he))
      have HS := Lib.hid' (fun he => HC.out.trans (com_stop hltX hltY he))
      have hx2 : (k : Int) < (X.length : Int) := by omega
      have hy2 : (k : Int) < (Y.length : Int) := by omega
      have hm3 : (k : Int) < (mn : Int) := by omega
      have hmc := HM.out
      clear hra hrb HXr HYr ox oy ex ey
      by_cases hs : X[k].1 = Y[k].1
      · rw [decide_eq_true hs] at HSM
        have HT2 := Lib.hid' (HT.out hs)
        clear hs HT HS
        generalize mV X[k] = PX at *
        generalize mV Y[k] = PY at *
        go_upto_region 2 with fail
        refine wp_region_held_drew (S := (fun w' => Below wr.heap.size wr w')) (by kernel_rfl) ((Below.refl _ _).drew) (fun hH0 => ?_)
        refine wpAnyH_take (i := 0) (oi := _) (v := .int .i64 (k : Int)) rfl (by kernel_rfl) (by kernel_rfl) (by kernel_rfl) (fun _ _ _ h => h) (Or.inl ⟨by rfl, ?_⟩) hH0 ?_
        · intro w hSw; go_simp
        simp only [Act.put, List.getElem_toArray, List.getElem_cons_zero, List.getElem_cons_succ, List.setIfInBounds_toArray, List.set_cons_zero, List.set_cons_succ]
        refine wpAnyH_take (i := 1) (oi := _) (v := .slice (some ⟨ba, oa, none⟩) X.length c) rfl (by kernel_rfl) (by kernel_rfl) (by kernel_rfl) (fun _ _ _ h => h) (Or.inl ⟨by rfl, ?_⟩) hH0 ?_
        · intro w hSw; go_simp
        simp only [Act.put, List.getElem_toArray, List.getElem_cons_zero, List.getElem_cons_succ, List.setIfInBounds_toArray, List.set_cons_zero, List.set_cons_succ]
        refine wpAnyH_take (i := 2) (oi := _) (v := .int .i64 (X.length : Int)) rfl (by kernel_rfl) (by kernel_rfl) (by kernel_rfl) (fun _ _ _ h => h) (Or.inl ⟨by rfl, ?_⟩) hH0 ?_
        · intro w hSw; go_simp
        simp only [Act.put, List.getElem_toArray, List.getElem_cons_zero, List.getElem_cons_succ, List.setIfInBounds_toArray, List.set_cons_zero, List.set_cons_succ]
        refine wpAnyH_take (i := 3) (oi := _) (v := .slice (some ⟨bb, ob, none⟩) Y.length e) rfl (by kernel_rfl) (by kernel_rfl) (by kernel_rfl) (fun _ _ _ h => h) (Or.inl ⟨by rfl, ?_⟩) hH0 ?_
        · intro w hSw; go_simp
        simp only [Act.put, List.getElem_toArray, List.getElem_cons_zero, List.getElem_cons_succ, List.setIfInBounds_toArray, List.set_cons_zero, List.set_cons_succ]
        refine wpAnyH_take (i := 4) (oi := _) (v := .int .i64 (Y.length : Int)) rfl (by kernel_rfl) (by kernel_rfl) (by kernel_rfl) (fun _ _ _ h => h) (Or.inl ⟨by rfl, ?_⟩) hH0 ?_
        · intro w hSw; go_simp
        simp only [Act.put, List.getElem_toArray, List.getElem_cons_zero, List.getElem_cons_succ, List.setIfInBounds_toArray, List.set_cons_zero, List.set_cons_succ]
        refine wpAnyH_take (i := 5) (oi := _) (v := .int .i64 (mn : Int)) rfl (by kernel_rfl) (by kernel_rfl) (by kernel_rfl) (fun _ _ _ h => h) (Or.inl ⟨by rfl, ?_⟩) hH0 ?_
        · intro w hSw; first | (go_simp; done) | (go_simp; split <;> omega) | (go_simp; omega)
        simp only [Act.put, List.getElem_toArray, List.getElem_cons_zero, List.getElem_cons_succ, List.setIfInBounds_toArray, List.set_cons_zero, List.set_cons_succ]
        refine wpAnyH_take (i := 6) (oi := _) (v := .bool true) rfl (by kernel_rfl) (by kernel_rfl) (by kernel_rfl) (fun _ _ _ h => h) (Or.inl ⟨by rfl, ?_⟩) hH0 ?_
        · intro w hSw; go_simp
        simp only [Act.put, List.getElem_toArray, List.getElem_cons_zero, List.getElem_cons_succ, List.setIfInBounds_toArray, List.set_cons_zero, List.set_cons_succ]
        refine wpAnyH_take (i := 7) (oi := _) (v := .bool true) rfl (by kernel_rfl) (by kernel_rfl) (by kernel_rfl) (fun _ _ _ h => h) (Or.inl ⟨by rfl, ?_⟩) hH0 ?_
        · intro w hSw; go_simp
        simp only [Act.put, List.getElem_toArray, List.getElem_cons_zero, List.getElem_cons_succ, List.setIfInBounds_toArray, List.set_cons_zero, List.set_cons_succ]
        refine wpAnyH_take (i := 8) (oi := _) (v := .slice (some ⟨ba, oa, none⟩) X.length c) rfl (by kernel_rfl) (by kernel_rfl) (by kernel_rfl) (fun _ _ _ h => h) (Or.inl ⟨by rfl, ?_⟩) hH0 ?_
        · intro w hSw; go_simp
        simp only [Act.put, List.getElem_toArray, List.getElem_cons_zero, List.getElem_cons_succ, List.setIfInBounds_toArray, List.set_cons_zero, List.set_cons_succ]
        refine wpAnyH_take (i := 9) (oi := _) (v := .int .i64 (k : Int)) rfl (by kernel_rfl) (by kernel_rfl) (by kernel_rfl) (fun _ _ _ h => h) (Or.inl ⟨by rfl, ?_⟩) hH0 ?_
        · intro w hSw; go_simp
        simp only [Act.put, List.getElem_toArray, List.getElem_cons_zero, List.getElem_cons_succ, List.setIfInBounds_toArray, List.set_cons_zero, List.set_cons_succ]
        refine wpAnyH_take (i := 10) (oi := _) (v := .pointer (some ⟨ba, oa + k * 37, none⟩)) rfl (by kernel_rfl) (by kernel_rfl) (by kernel_rfl) (fun _ _ _ h => h) (Or.inl ⟨by rfl, ?_⟩) hH0 ?_
        · intro w hSw; go_simp
        simp only [Act.put, List.getElem_toArray, List.getElem_cons_zero, List.getElem_cons_succ, List.setIfInBounds_toArray, List.set_cons_zero, List.set_cons_succ]
        refine wpAnyH_take (i := 11) (oi := _) (v := .agg PX.toArray) rfl (by kernel_rfl) (by kernel_rfl) (by kernel_rfl) (fun _ _ _ h => h) (yieldsIf_load_mid (by kernel_rfl) 27 (.tmp 16) rfl ba (oa + k * 37) rfl PX _ (fun wq hb => HRA.out wq hb) Tryd.underlying27 rfl hzx) hH0 ?_
        simp only [Act.put, List.getElem_toArray, List.getElem_cons_zero, List.getElem_cons_succ, List.setIfInBounds_toArray, List.set_cons_zero, List.set_cons_succ]
        refine wpAnyH_take (i := 12) (oi := _) (v := .slice (some ⟨bb, ob, none⟩) Y.length e) rfl (by kernel_rfl) (by kernel_rfl) (by kernel_rfl) (fun _ _ _ h => h) (Or.inl ⟨by rfl, ?_⟩) hH0 ?_
        · intro w hSw; go_simp
        simp only [Act.put, List.getElem_toArray, List.getElem_cons_zero, List.getElem_cons_succ, List.setIfInBounds_toArray, List.set_cons_zero, List.set_cons_succ]
        refine wpAnyH_take (i := 13) (oi := _) (v := .int .i64 (k : Int)) rfl (by kernel_rfl) (by kernel_rfl) (by kernel_rfl) (fun _ _ _ h => h) (Or.inl ⟨by rfl, ?_⟩) hH0 ?_
        · intro w hSw; go_simp
        simp only [Act.put, List.getElem_toArray, List.getElem_cons_zero, List.getElem_cons_succ, List.setIfInBounds_toArray, List.set_cons_zero, List.set_cons_succ]
        refine wpAnyH_take (i := 14) (oi := _) (v := .pointer (some ⟨bb, ob + k * 37, none⟩)) rfl (by kernel_rfl) (by kernel_rfl) (by kernel_rfl) (fun _ _ _ h => h) (Or.inl ⟨by rfl, ?_⟩) hH0 ?_
        · intro w hSw; go_simp
        simp only [Act.put, List.getElem_toArray, List.getElem_cons_zero, List.getElem_cons_succ, List.setIfInBounds_toArray, List.set_cons_zero, List.set_cons_succ]
        refine wpAnyH_take (i := 15) (oi := _) (v := .agg PY.toArray) rfl (by kernel_rfl) (by kernel_rfl) (by kernel_rfl) (fun _ _ _ h => h) (yieldsIf_load_mid (by kernel_rfl) 27 (.tmp 20) rfl bb (ob + k * 37) rfl PY _ (fun wq hb => HRB.out wq hb) Tryd.underlying27 rfl hzy) hH0 ?_
        simp only [Act.put, List.getElem_toArray, List.getElem_cons_zero, List.getElem_cons_succ, List.setIfInBounds_toArray, List.set_cons_zero, List.set_cons_succ]
        refine wpAnyH_ready (rs := [16]) (by kernel_rfl) (by simp) (AllReadyH.cons (o := _) rfl (fun K hK => ?_) AllReadyH.nil)
        go_simp
        refine (HSM.out _ hH0).mono ?_
        rintro en wx ⟨rfl, hbx⟩
        refine hK.out _ _ ?_ (fun hH1 => ?_)
        · exact Below.trans hH0 (hbx.mono (Below.size hH0))
        clear hK K
        refine wpAnyH_take (i := 17) (oi := _) (v := .bool true) rfl (by kernel_rfl) (by kernel_rfl) (by kernel_rfl) (fun _ _ _ h => h) (Or.inl ⟨by rfl, ?_⟩) hH1 ?_
        · intro w hSw; go_simp
        simp only [Act.put, List.getElem_toArray, List.getElem_cons_zero, List.getElem_cons_succ, List.setIfInBounds_toArray, List.set_cons_zero, List.set_cons_succ]
        refine wpAnyH_done (by kernel_rfl) ?_ _
        have HB6 := Lib.hid' (HB.out.trans (Below.mono hH1 HB.out.size))
        go_wp2_with fail
        go_roundw
        case rel => exact ⟨k + 1, by go_num, by omega, HT2, HB6⟩
        case measure => simp [intOf]; omega
      · rw [decide_eq_false hs] at HSM
        have HR := Lib.hid' (HS.out hs)
        clear hs HT HS
        generalize mV X[k] = PX at *
        generalize mV Y[k] = PY at *
        go_upto_region 2 with fail
        refine wp_region_held_drew (S := (fun w' => Below wr.heap.size wr w')) (by kernel_rfl) ((Below.refl _ _).drew) (fun hH0 => ?_)
        refine wpAnyH_take (i := 0) (oi := _) (v := .int .i64 (k : Int)) rfl (by kernel_rfl) (by kernel_rfl) (by kernel_rfl) (fun _ _ _ h => h) (Or.inl ⟨by rfl, ?_⟩) hH0 ?_
        · intro w hSw; go_simp
        simp only [Act.put, List.getElem_toArray, List.getElem_cons_zero, List.getElem_cons_succ, List.setIfInBounds_toArray, List.set_cons_zero, List.set_cons_succ]
        refine wpAnyH_take (i := 1) (oi := _) (v := .slice (some ⟨ba, oa, none⟩) X.length c) rfl (by kernel_rfl) (by kernel_rfl) (by kernel_rfl) (fun _ _ _ h => h) (Or.inl ⟨by rfl, ?_⟩) hH0 ?_
        · intro w hSw; go_simp
        simp only [Act.put, List.getElem_toArray, List.getElem_cons_zero, List.getElem_cons_succ, List.setIfInBounds_toArray, List.set_cons_zero, List.set_cons_succ]
        refine wpAnyH_take (i := 2) (oi := _) (v := .int .i64 (X.length : Int)) rfl (by kernel_rfl) (by kernel_rfl) (by kernel_rfl) (fun _ _ _ h => h) (Or.inl ⟨by rfl, ?_⟩) hH0 ?_
        · intro w hSw; go_simp
        simp only [Act.put, List.getElem_toArray, List.getElem_cons_zero, List.getElem_cons_succ, List.setIfInBounds_toArray, List.set_cons_zero, List.set_cons_succ]
        refine wpAnyH_take (i := 3) (oi := _) (v := .slice (some ⟨bb, ob, none⟩) Y.length e) rfl (by kernel_rfl) (by kernel_rfl) (by kernel_rfl) (fun _ _ _ h => h) (Or.inl ⟨by rfl, ?_⟩) hH0 ?_
        · intro w hSw; go_simp
        simp only [Act.put, List.getElem_toArray, List.getElem_cons_zero, List.getElem_cons_succ, List.setIfInBounds_toArray, List.set_cons_zero, List.set_cons_succ]
        refine wpAnyH_take (i := 4) (oi := _) (v := .int .i64 (Y.length : Int)) rfl (by kernel_rfl) (by kernel_rfl) (by kernel_rfl) (fun _ _ _ h => h) (Or.inl ⟨by rfl, ?_⟩) hH0 ?_
        · intro w hSw; go_simp
        simp only [Act.put, List.getElem_toArray, List.getElem_cons_zero, List.getElem_cons_succ, List.setIfInBounds_toArray, List.set_cons_zero, List.set_cons_succ]
        refine wpAnyH_take (i := 5) (oi := _) (v := .int .i64 (mn : Int)) rfl (by kernel_rfl) (by kernel_rfl) (by kernel_rfl) (fun _ _ _ h => h) (Or.inl ⟨by rfl, ?_⟩) hH0 ?_
        · intro w hSw; first | (go_simp; done) | (go_simp; split <;> omega) | (go_simp; omega)
        simp only [Act.put, List.getElem_toArray, List.getElem_cons_zero, List.getElem_cons_succ, List.setIfInBounds_toArray, List.set_cons_zero, List.set_cons_succ]
        refine wpAnyH_take (i := 6) (oi := _) (v := .bool true) rfl (by kernel_rfl) (by kernel_rfl) (by kernel_rfl) (fun _ _ _ h => h) (Or.inl ⟨by rfl, ?_⟩) hH0 ?_
        · intro w hSw; go_simp
        simp only [Act.put, List.getElem_toArray, List.getElem_cons_zero, List.getElem_cons_succ, List.setIfInBounds_toArray, List.set_cons_zero, List.set_cons_succ]
        refine wpAnyH_take (i := 7) (oi := _) (v := .bool true) rfl (by kernel_rfl) (by kernel_rfl) (by kernel_rfl) (fun _ _ _ h => h) (Or.inl ⟨by rfl, ?_⟩) hH0 ?_
        · intro w hSw; go_simp
        simp only [Act.put, List.getElem_toArray, List.getElem_cons_zero, List.getElem_cons_succ, List.setIfInBounds_toArray, List.set_cons_zero, List.set_cons_succ]
        refine wpAnyH_take (i := 8) (oi := _) (v := .slice (some ⟨ba, oa, none⟩) X.length c) rfl (by kernel_rfl) (by kernel_rfl) (by kernel_rfl) (fun _ _ _ h => h) (Or.inl ⟨by rfl, ?_⟩) hH0 ?_
        · intro w hSw; go_simp
        simp only [Act.put, List.getElem_toArray, List.getElem_cons_zero, List.getElem_cons_succ, List.setIfInBounds_toArray, List.set_cons_zero, List.set_cons_succ]
        refine wpAnyH_take (i := 9) (oi := _) (v := .int .i64 (k : Int)) rfl (by kernel_rfl) (by kernel_rfl) (by kernel_rfl) (fun _ _ _ h => h) (Or.inl ⟨by rfl, ?_⟩) hH0 ?_
        · intro w hSw; go_simp
        simp only [Act.put, List.getElem_toArray, List.getElem_cons_zero, List.getElem_cons_succ, List.setIfInBounds_toArray, List.set_cons_zero, List.set_cons_succ]
        refine wpAnyH_take (i := 10) (oi := _) (v := .pointer (some ⟨ba, oa + k * 37, none⟩)) rfl (by kernel_rfl) (by kernel_rfl) (by kernel_rfl) (fun _ _ _ h => h) (Or.inl ⟨by rfl, ?_⟩) hH0 ?_
        · intro w hSw; go_simp
        simp only [Act.put, List.getElem_toArray, List.getElem_cons_zero, List.getElem_cons_succ, List.setIfInBounds_toArray, List.set_cons_zero, List.set_cons_succ]
        refine wpAnyH_take (i := 11) (oi := _) (v := .agg PX.toArray) rfl (by kernel_rfl) (by kernel_rfl) (by kernel_rfl) (fun _ _ _ h => h) (yieldsIf_load_mid (by kernel_rfl) 27 (.tmp 16) rfl ba (oa + k * 37) rfl PX _ (fun wq hb => HRA.out wq hb) Tryd.underlying27 rfl hzx) hH0 ?_
        simp only [Act.put, List.getElem_toArray, List.getElem_cons_zero, List.getElem_cons_succ, List.setIfInBounds_toArray, List.set_cons_zero, List.set_cons_succ]
        refine wpAnyH_take (i := 12) (oi := _) (v := .slice (some ⟨bb, ob, none⟩) Y.length e) rfl (by kernel_rfl) (by kernel_rfl) (by kernel_rfl) (fun _ _ _ h => h) (Or.inl ⟨by rfl, ?_⟩) hH0 ?_
        · intro w hSw; go_simp
        simp only [Act.put, List.getElem_toArray, List.getElem_cons_zero, List.getElem_cons_succ, List.setIfInBounds_toArray, List.set_cons_zero, List.set_cons_succ]
        refine wpAnyH_take (i := 13) (oi := _) (v := .int .i64 (k : Int)) rfl (by kernel_rfl) (by kernel_rfl) (by kernel_rfl) (fun _ _ _ h => h) (Or.inl ⟨by rfl, ?_⟩) hH0 ?_
        · intro w hSw; go_simp
        simp only [Act.put, List.getElem_toArray, List.getElem_cons_zero, List.getElem_cons_succ, List.setIfInBounds_toArray, List.set_cons_zero, List.set_cons_succ]
        refine wpAnyH_take (i := 14) (oi := _) (v := .pointer (some ⟨bb, ob + k * 37, none⟩)) rfl (by kernel_rfl) (by kernel_rfl) (by kernel_rfl) (fun _ _ _ h => h) (Or.inl ⟨by rfl, ?_⟩) hH0 ?_
        · intro w hSw; go_simp
        simp only [Act.put, List.getElem_toArray, List.getElem_cons_zero, List.getElem_cons_succ, List.setIfInBounds_toArray, List.set_cons_zero, List.set_cons_succ]
        refine wpAnyH_take (i := 15) (oi := _) (v := .agg PY.toArray) rfl (by kernel_rfl) (by kernel_rfl) (by kernel_rfl) (fun _ _ _ h => h) (yieldsIf_load_mid (by kernel_rfl) 27 (.tmp 20) rfl bb (ob + k * 37) rfl PY _ (fun wq hb => HRB.out wq hb) Tryd.underlying27 rfl hzy) hH0 ?_
        simp only [Act.put, List.getElem_toArray, List.getElem_cons_zero, List.getElem_cons_succ, List.setIfInBounds_toArray, List.set_cons_zero, List.set_cons_succ]
        refine wpAnyH_ready (rs := [16]) (by kernel_rfl) (by simp) (AllReadyH.cons (o := _) rfl (fun K hK => ?_) AllReadyH.nil)
        go_simp
        refine (HSM.out _ hH0).mono ?_
        rintro en wx ⟨rfl, hbx⟩
        refine hK.out _ _ ?_ (fun hH1 => ?_)
        · exact Below.trans hH0 (hbx.mono (Below.size hH0))
        clear hK K
        refine wpAnyH_take (i := 17) (oi := _) (v := .bool false) rfl (by kernel_rfl) (by kernel_rfl) (by kernel_rfl) (fun _ _ _ h => h) (Or.inl ⟨by rfl, ?_⟩) hH1 ?_
        · intro w hSw; go_simp
        simp only [Act.put, List.getElem_toArray, List.getElem_cons_zero, List.getElem_cons_succ, List.setIfInBounds_toArray, List.set_cons_zero, List.set_cons_succ]
        refine wpAnyH_done (by kernel_rfl) ?_ _
        have HB6 := Lib.hid' (HB.out.trans (Below.mono hH1 HB.out.size))
        go_wp2_with fail
        go_ret
        exact ⟨ret_eq (by rw [HR.out]; rfl), HB6.out⟩
    · obtain rfl : k = mn := by omega
      have HR := Lib.hid' (HC.out.trans (com_end (by have := HM.out; omega)))
      have hmc := HM.out
      clear hlt
      go_upto_region 2 with fail
      refine wp_region_held_drew (S := (fun w' => Below wr.heap.size wr w')) (by kernel_rfl) ((Below.refl _ _).drew) (fun hH0 => ?_)
      refine wpAnyH_take (i := 0) (oi := _) (v := .int .i64 (k : Int)) rfl (by kernel_rfl) (by kernel_rfl) (by kernel_rfl) (fun _ _ _ h => h) (Or.inl ⟨by rfl, ?_⟩) hH0 ?_
      · intro w hSw; go_simp
      simp only [Act.put, List.getElem_toArray, List.getElem_cons_zero, List.getElem_cons_succ, List.setIfInBounds_toArray, List.set_cons_zero, List.set_cons_succ]
      refine wpAnyH_take (i := 1) (oi := _) (v := .slice a X.length c) rfl (by kernel_rfl) (by kernel_rfl) (by kernel_rfl) (fun _ _ _ h => h) (Or.inl ⟨by rfl, ?_⟩) hH0 ?_
      · intro w hSw; go_simp
      simp only [Act.put, List.getElem_toArray, List.getElem_cons_zero, List.getElem_cons_succ, List.setIfInBounds_toArray, List.set_cons_zero, List.set_cons_succ]
      refine wpAnyH_take (i := 2) (oi := _) (v := .int .i64 (X.length : Int)) rfl (by kernel_rfl) (by kernel_rfl) (by kernel_rfl) (fun _ _ _ h => h) (Or.inl ⟨by rfl, ?_⟩) hH0 ?_
      · intro w hSw; go_simp
      simp only [Act.put, List.getElem_toArray, List.getElem_cons_zero, List.getElem_cons_succ, List.setIfInBounds_toArray, List.set_cons_zero, List.set_cons_succ]
      refine wpAnyH_take (i := 3) (oi := _) (v := .slice b Y.length e) rfl (by kernel_rfl) (by kernel_rfl) (by kernel_rfl) (fun _ _ _ h => h) (Or.inl ⟨by rfl, ?_⟩) hH0 ?_
      · intro w hSw; go_simp
      simp only [Act.put, List.getElem_toArray, List.getElem_cons_zero, List.getElem_cons_succ, List.setIfInBounds_toArray, List.set_cons_zero, List.set_cons_succ]
      refine wpAnyH_take (i := 4) (oi := _) (v := .int .i64 (Y.length : Int)) rfl (by kernel_rfl) (by kernel_rfl) (by kernel_rfl) (fun _ _ _ h => h) (Or.inl ⟨by rfl, ?_⟩) hH0 ?_
      · intro w hSw; go_simp
      simp only [Act.put, List.getElem_toArray, List.getElem_cons_zero, List.getElem_cons_succ, List.setIfInBounds_toArray, List.set_cons_zero, List.set_cons_succ]
      refine wpAnyH_take (i := 5) (oi := _) (v := .int .i64 (k : Int)) rfl (by kernel_rfl) (by kernel_rfl) (by kernel_rfl) (fun _ _ _ h => h) (Or.inl ⟨by rfl, ?_⟩) hH0 ?_
      · intro w hSw; first | (go_simp; done) | (go_simp; split <;> omega) | (go_simp; omega)
      simp only [Act.put, List.getElem_toArray, List.getElem_cons_zero, List.getElem_cons_succ, List.setIfInBounds_toArray, List.set_cons_zero, List.set_cons_succ]
      refine wpAnyH_take (i := 6) (oi := _) (v := .bool false) rfl (by kernel_rfl) (by kernel_rfl) (by kernel_rfl) (fun _ _ _ h => h) (Or.inl ⟨by rfl, ?_⟩) hH0 ?_
      · intro w hSw; go_simp
      simp only [Act.put, List.getElem_toArray, List.getElem_cons_zero, List.getElem_cons_succ, List.setIfInBounds_toArray, List.set_cons_zero, List.set_cons_succ]
      refine wpAnyH_take (i := 7) (oi := _) (v := .bool false) rfl (by kernel_rfl) (by kernel_rfl) (by kernel_rfl) (fun _ _ _ h => h) (Or.inl ⟨by rfl, ?_⟩) hH0 ?_
      · intro w hSw; go_simp
      simp only [Act.put, List.getElem_toArray, List.getElem_cons_zero, List.getElem_cons_succ, List.setIfInBounds_toArray, List.set_cons_zero, List.set_cons_succ]
      refine wpAnyH_take (i := 8) (oi := _) (v := undef) rfl (by kernel_rfl) (by kernel_rfl) (by kernel_rfl) (fun _ _ _ h => h) (Or.inr ⟨by kernel_rfl, rfl⟩) hH0 ?_
      simp only [Act.put, List.getElem_toArray, List.getElem_cons_zero, List.getElem_cons_succ, List.setIfInBounds_toArray, List.set_cons_zero, List.set_cons_succ]
      refine wpAnyH_take (i := 9) (oi := _) (v := undef) rfl (by kernel_rfl) (by kernel_rfl) (by kernel_rfl) (fun _ _ _ h => h) (Or.inr ⟨by kernel_rfl, rfl⟩) hH0 ?_
      simp only [Act.put, List.getElem_toArray, List.getElem_cons_zero, List.getElem_cons_succ, List.setIfInBounds_toArray, List.set_cons_zero, List.set_cons_succ]
      refine wpAnyH_take (i := 10) (oi := _) (v := undef) rfl (by kernel_rfl) (by kernel_rfl) (by kernel_rfl) (fun _ _ _ h => h) (Or.inr ⟨by kernel_rfl, rfl⟩) hH0 ?_
      simp only [Act.put, List.getElem_toArray, List.getElem_cons_zero, List.getElem_cons_succ, List.setIfInBounds_toArray, List.set_cons_zero, List.set_cons_succ]
      refine wpAnyH_take (i := 11) (oi := _) (v := undef) rfl (by kernel_rfl) (by kernel_rfl) (by kernel_rfl) (fun _ _ _ h => h) (Or.inr ⟨by kernel_rfl, rfl⟩) hH0 ?_
      simp only [Act.put, List.getElem_toArray, List.getElem_cons_zero, List.getElem_cons_succ, List.setIfInBounds_toArray, List.set_cons_zero, List.set_cons_succ]
      refine wpAnyH_take (i := 12) (oi := _) (v := undef) rfl (by kernel_rfl) (by kernel_rfl) (by kernel_rfl) (fun _ _ _ h => h) (Or.inr ⟨by kernel_rfl, rfl⟩) hH0 ?_
      simp only [Act.put, List.getElem_toArray, List.getElem_cons_zero, List.getElem_cons_succ, List.setIfInBounds_toArray, List.set_cons_zero, List.set_cons_succ]
      refine wpAnyH_take (i := 13) (oi := _) (v := undef) rfl (by kernel_rfl) (by kernel_rfl) (by kernel_rfl) (fun _ _ _ h => h) (Or.inr ⟨by kernel_rfl, rfl⟩) hH0 ?_
      simp only [Act.put, List.getElem_toArray, List.getElem_cons_zero, List.getElem_cons_succ, List.setIfInBounds_toArray, List.set_cons_zero, List.set_cons_succ]
      refine wpAnyH_take (i := 14) (oi := _) (v := undef) rfl (by kernel_rfl) (by kernel_rfl) (by kernel_rfl) (fun _ _ _ h => h) (Or.inr ⟨by kernel_rfl, rfl⟩) hH0 ?_
      simp only [Act.put, List.getElem_toArray, List.getElem_cons_zero, List.getElem_cons_succ, List.setIfInBounds_toArray, List.set_cons_zero, List.set_cons_succ]
      refine wpAnyH_take (i := 15) (oi := _) (v := undef) rfl (by kernel_rfl) (by kernel_rfl) (by kernel_rfl) (fun _ _ _ h => h) (Or.inr ⟨by kernel_rfl, rfl⟩) hH0 ?_
      simp only [Act.put, List.getElem_toArray, List.getElem_cons_zero, List.getElem_cons_succ, List.setIfInBounds_toArray, List.set_cons_zero, List.set_cons_succ]
      refine wpAnyH_take (i := 16) (oi := _) (v := undef) rfl (by kernel_rfl) (by kernel_rfl) (by kernel_rfl) (fun _ _ _ h => h) (Or.inr ⟨by kernel_rfl, rfl⟩) hH0 ?_
      simp only [Act.put, List.getElem_toArray, List.getElem_cons_zero, List.getElem_cons_succ, List.setIfInBounds_toArray, List.set_cons_zero, List.set_cons_succ]
      refine wpAnyH_take (i := 17) (oi := _) (v := .bool false) rfl (by kernel_rfl) (by kernel_rfl) (by kernel_rfl) (fun _ _ _ h => h) (Or.inl ⟨by rfl, ?_⟩) hH0 ?_
      · intro w hSw; go_simp
      simp only [Act.put, List.getElem_toArray, List.getElem_cons_zero, List.getElem_cons_succ, List.setIfInBounds_toArray, List.set_cons_zero, List.set_cons_succ]
      refine wpAnyH_done (by kernel_rfl) ?_ _
      have HB6 := Lib.hid' (HB.out.trans (Below.mono hH0 HB.out.size))
      go_wp2_with fail
      go_ret
      exact ⟨ret_eq (by rw [HR.out]; rfl), HB6.out⟩
end Go.Proofs.YtlhlkdeaiobfaaaDoor
