/- Law 15: a manifest as the document's. -/
import Derived.Test.YtinbcehlpfnlaaaGreatDoorChnG
import Derived.Great.Walk
namespace Go.Proofs.YtinbcehlpfnlaaaGreatDoor
open Go.RowKit
set_option linter.unusedSimpArgs false
set_option linter.unusedVariables false
set_option maxRecDepth 100000

theorem wpList_bd {P : Program} {ops : Array Oper} {rest : List Oper} {o : Oper} {a : Act} {w : World} {Q : Exit → Act → World → Prop} (hg : o.guard = none) (t : TypeId) (parts : Array (Nat × Operand)) (ho : o.op = .build t parts) (cells : Array Value)
    (hf : P.built t (parts.map fun (i, x) => (i, a.eval x)).toList = some cells) (h : wpList P ops Q rest (a.put o.dst (.agg cells)) w) : wpList P ops Q (o :: rest) a w :=
  wpList_build hg t parts ho (by rw [hf]; rfl) (by rw [hf]; exact h)
theorem step_bs1 {P : Program} {t e size bytes : Nat} (T : ElemT P t e size bytes) {ops : Array Oper} {o : Oper} {a : Act} {w : World} {K : Act → World → Prop} {Q : Exit → Act → World → Prop} {Z : Prop} (hg : o.guard = none) (x : Operand) (ho : o.op = .buildSlice t 1 #[(0, x)])
    (Y : List Value) (hx : a.eval x = .agg Y.toArray) (hl : Y.length = size) (hs : size ≤ 2 ^ 24) (h : K (a.put o.dst (.slice (some ⟨w.heap.size, 0, none⟩) 1 1)) (w.alloc (.cells Y.toArray e))) :
    if Region.wanted o (yielded ops a.tmps) = true then Oper.wp P o a w K Q else Z := by
  obtain ⟨i, z, hi, hz, hsz, _, hc⟩ := T.info
  have hp := T.pos
  have hw : Region.wanted o (yielded ops a.tmps) = true := by simp [Region.wanted, hg]
  rw [if_pos hw]
  refine Go.wp_buildSlice t e 1 #[(0, x)] ho Y.toArray i z T.under hi hz (by rw [hsz]; omega) (by rw [hsz]; omega) ?_ h
  have := Go.Great.fill_whole (s := size) T.pos [Value.agg Y.toArray] ((Array.range (1 * size)).map (z.cells[· % z.cells.size]!)) (by
    intro v hv
    rw [List.mem_singleton] at hv
    subst hv
    simpa [Value.cells] using hl) (by simp)
  rw [hsz]
  simpa [hx, Value.cells] using this
theorem built_pt15 (f m s : Int) (d : List UInt8) (h : d.length = 32) : Tryz.prog.built 69 [(0, .int .i64 f), (1, .int .i64 m), (2, .int .i64 s), (3, .agg (byteVs d).toArray)] = some ([Value.int .i64 f, Value.int .i64 m, Value.int .i64 s] ++ byteVs d).toArray := by
  obtain ⟨b0, b1, b2, b3, b4, b5, b6, b7, b8, b9, b10, b11, b12, b13, b14, b15, b16, b17, b18, b19, b20, b21, b22, b23, b24, b25, b26, b27, b28, b29, b30, b31, rfl⟩ := split32 h
  kernel_rfl
theorem built_mf15 (n f t r : Int) (d : List UInt8) (h : d.length = 32) : Tryz.prog.built 67 [(0, .int .i64 n), (1, .int .i64 f), (2, .int .i64 t), (3, .int .i64 r), (4, .agg (byteVs d).toArray)] = some ([Value.int .i64 n, Value.int .i64 f, Value.int .i64 t, Value.int .i64 r] ++ byteVs d ++ [Value.slice none 0 0]).toArray := by
  obtain ⟨b0, b1, b2, b3, b4, b5, b6, b7, b8, b9, b10, b11, b12, b13, b14, b15, b16, b17, b18, b19, b20, b21, b22, b23, b24, b25, b26, b27, b28, b29, b30, b31, rfl⟩ := split32 h
  kernel_rfl
theorem etP15 : ElemT Tryz.prog 65 69 35 56 := ElemT.mk' (z := .agg #[.int .i64 0, .int .i64 0, .int .i64 0, .int .u8 0, .int .u8 0, .int .u8 0, .int .u8 0, .int .u8 0, .int .u8 0, .int .u8 0, .int .u8 0, .int .u8 0, .int .u8 0, .int .u8 0, .int .u8 0, .int .u8 0, .int .u8 0, .int .u8 0, .int .u8 0, .int .u8 0, .int .u8 0, .int .u8 0, .int .u8 0, .int .u8 0, .int .u8 0, .int .u8 0, .int .u8 0, .int .u8 0, .int .u8 0, .int .u8 0, .int .u8 0, .int .u8 0, .int .u8 0, .int .u8 0, .int .u8 0]) Tryz.underlying65 (by kernel_rfl) rfl (by decide) (by decide)
theorem rm_size : (Tryz.prog.info? 67).map (·.size) = some 37 := by kernel_rfl
theorem rp_size : (Tryz.prog.info? 69).map (·.size) = some 35 := by kernel_rfl
theorem ptV_one' {x : Pt} : ∀ u ∈ ptV x, u.oneCell' = true := by
  intro u hu
  unfold ptV at hu
  rcases List.mem_append.1 hu with h | h
  · simp only [List.mem_cons, List.not_mem_nil, or_false] at h
    rcases h with rfl | rfl | rfl <;> rfl
  · exact byteVs_one _ u h
set_option maxHeartbeats 4000000 in
theorem partOf_any (x : Pt) (w : World) (ho : x.ok) : Calls Tryz.prog 34 #[.agg (ptV x).toArray] w fun e w' => e = .returned (.agg (ptV x).toArray) ∧ Below w.heap.size w w' := by
  have HB := Lib.hid' (built_pt15 x.f x.m x.s x.d ho.d)
  have hPV : [Value.int .i64 x.f, Value.int .i64 x.m, Value.int .i64 x.s] ++ byteVs x.d = ptV x := rfl
  rw [hPV] at HB
  have HRG := Lib.hid' (fun (wq : World) (hq : BoxW w.heap.size (ptV x) 53 wq) => show wq.rangeAt w.heap.size (0 + 3) (byteVs x.d) from fun j v hv => by
    have := hq.range (3 + j) v (by unfold ptV; rw [List.getElem?_append_right (by simp)]; simpa using hv)
    rw [show 0 + 3 + j = 0 + (3 + j) by omega]; exact this)
  have hz : (Tryz.prog.info? 45).map (·.size) = some (byteVs x.d).length := by rw [byteVs_length, ho.d]; exact dig_size
  have hl35 := ptV_len ho
  have hzr : (Tryz.prog.info? 69).map (·.size) = some (ptV x).length := by rw [hl35]; exact rp_size
  have hpl : zeroPt.length = (ptV x).length := by rw [hl35]; rfl
  have hone : (ptV x).all (·.oneCell') = true := List.all_eq_true.2 ptV_one'
  have hf0 : (ptV x)[0]? = some (.int .i64 x.f) := rfl
  have hf1 : (ptV x)[1]? = some (.int .i64 x.m) := rfl
  have hf2 : (ptV x)[2]? = some (.int .i64 x.s) := rfl
  clear ho hPV hl35
  generalize ptV x = PV at *
  go_enter Tryz.func34, Tryz.ntmps34
  go_upto_region 1 with fail
  have H0 : Sep w NoF [.box w.heap.size PV 53] (w.alloc (.cells PV.toArray 53)) := (Sep.start w).allocAt w.heap.size PV 53 rfl
  have H1 : Sep w NoF [.box (w.heap.size + 1) zeroPt 69, .box w.heap.size PV 53] ((w.alloc (.cells PV.toArray 53)).alloc (.cells #[.int .i64 0, .int .i64 0, .int .i64 0, .int .u8 0, .int .u8 0, .int .u8 0, .int .u8 0, .int .u8 0, .int .u8 0, .int .u8 0, .int .u8 0, .int .u8 0, .int .u8 0, .int .u8 0, .int .u8 0, .int .u8 0, .int .u8 0, .int .u8 0, .int .u8 0, .int .u8 0, .int .u8 0, .int .u8 0, .int .u8 0, .int .u8 0, .int .u8 0, .int .u8 0, .int .u8 0, .int .u8 0, .int .u8 0, .int .u8 0, .int .u8 0, .int .u8 0, .int .u8 0, .int .u8 0, .int .u8 0] 69)) := H0.allocAt (w.heap.size + 1) zeroPt 69 (by simp)
  clear H0
  generalize (w.alloc (.cells PV.toArray 53)).alloc (.cells #[.int .i64 0, .int .i64 0, .int .i64 0, .int .u8 0, .int .u8 0, .int .u8 0, .int .u8 0, .int .u8 0, .int .u8 0, .int .u8 0, .int .u8 0, .int .u8 0, .int .u8 0, .int .u8 0, .int .u8 0, .int .u8 0, .int .u8 0, .int .u8 0, .int .u8 0, .int .u8 0, .int .u8 0, .int .u8 0, .int .u8 0, .int .u8 0, .int .u8 0, .int .u8 0, .int .u8 0, .int .u8 0, .int .u8 0, .int .u8 0, .int .u8 0, .int .u8 0, .int .u8 0, .int .u8 0, .int .u8 0] 69) = w1 at *
  have c0 := H1.cell 1 rfl 0 hf0
  have c1 := H1.cell 1 rfl 1 hf1
  have c2 := H1.cell 1 rfl 2 hf2
  have HG := Lib.hid' (HRG.out w1 (H1.box 1 rfl))
  clear HRG hf0 hf1 hf2
  generalize byteVs x.d = DV at *
  go_wp2_with (first | (refine wpList_load_at HG.out rfl 45 (.tmp 9) rfl rfl _ Tryz.underlying45 rfl hz ?_) | (refine wpList_bd rfl 69 #[(0, .tmp 4), (1, .tmp 6), (2, .tmp 8), (3, .tmp 10)] rfl PV.toArray ((congrArg (Tryz.prog.built 69) (show _ = [(0, .int .i64 x.f), (1, .int .i64 x.m), (2, .int .i64 x.s), (3, .agg DV.toArray)] by kernel_rfl)).trans HB.out) ?_) | (refine Sep.storeB H1 0 rfl rfl 69 (.tmp 2) (.tmp 11) rfl PV rfl rfl hzr hpl hone ?_))
  have H2 := H1.setRow 0 rfl PV
  refine bodyPost_ret (box_result Tryz.results34 (H2.box 0 rfl) _ rfl _ Tryz.underlying69 rfl hzr) rfl ?_
  exact ⟨rfl, H2.toBelow⟩

/-- the document's manifest, in cells: its parts lie at 'pa', k of them -/
def dV (x : Mf) (pa : Option Addr) (k pc : Nat) : List Value := [.int .i64 x.n, .int .i64 x.f, .int .i64 x.t, .int .i64 x.r] ++ byteVs x.p ++ [.slice pa k pc]
theorem dV_len {x : Mf} (h : x.ok) (pa : Option Addr) (k pc : Nat) : (dV x pa k pc).length = 37 := by simp [dV, byteVs_length, h.p]
theorem dV_36 {x : Mf} (h : x.ok) (pa : Option Addr) (k pc : Nat) : (dV x pa k pc)[36]? = some (.slice pa k pc) := by
  unfold dV
  rw [List.getElem?_append_right (by simp [byteVs_length, h.p])]
  simp [byteVs_length, h.p]
theorem dV_set {x : Mf} (h : x.ok) (pa pb : Option Addr) (k pc m pd : Nat) : (dV x pa k pc).set 36 (.slice pb m pd) = dV x pb m pd := by
  unfold dV
  rw [List.set_append_right _ _ (by simp [byteVs_length, h.p])]
  simp [byteVs_length, h.p]
theorem dV_one (x : Mf) (pa : Option Addr) (k pc : Nat) : (dV x pa k pc).all (·.oneCell') = true := by
  refine List.all_eq_true.2 (fun u hu => ?_)
  unfold dV at hu
  rcases List.mem_append.1 hu with h | h
  · rcases List.mem_append.1 h with h | h
    · simp only [List.mem_cons, List.not_mem_nil, or_false] at h
      rcases h with rfl | rfl | rfl | rfl <;> rfl
    · exact byteVs_one _ u h
  · rw [List.mem_singleton] at h; subst h; rfl
theorem dV_mf (x : Mf) (pa : Option Addr) (pc : Nat) : dV x pa x.ps.length pc = mfV x pa pc := rfl
def DocR (x : Mf) (w : World) (e : Ending) (w' : World) : Prop := ∃ a c, e = .returned (.agg (mfV x a c).toArray) ∧ PtsAt w' a c x.ps ∧ Below w.heap.size w w'
set_option maxHeartbeats 8000000 in
theorem document_any (x : Mf) (a : Option Addr) (c : Nat) (w : World) (ho : x.ok) (hp : PtsAt w a c x.ps) (hl : x.ps.length ≤ 1073741824) :
    Calls Tryz.prog 20 #[.agg (mfV x a c).toArray] w (DocR x w) := by
  have HP := Lib.hid' hp
  have HO := Lib.hid' ho
  have x36 := mfV_36 ho a c
  have HB := Lib.hid' (built_mf15 x.n x.f x.t x.r x.p ho.p)
  have hDV : [Value.int .i64 x.n, Value.int .i64 x.f, Value.int .i64 x.t, Value.int .i64 x.r] ++ byteVs x.p ++ [Value.slice none 0 0] = dV x none 0 0 := rfl
  rw [hDV] at HB
  have HRX := Lib.hid' (fun (wq : World) (hq : BoxW w.heap.size (mfV x a c) 48 wq) => mfV_range ho a c hq.range)
  have hz : (Tryz.prog.info? 45).map (·.size) = some (byteVs x.p).length := by rw [byteVs_length, ho.p]; exact dig_size
  have HDL := Lib.hid' (fun pa k pc => dV_len ho pa k pc)
  have HD6 := Lib.hid' (fun pa k pc => dV_36 ho pa k pc)
  have HDS := Lib.hid' (fun pa pb k pc m pd => dV_set ho pa pb k pc m pd)
  have HDM := Lib.hid' (fun pa pc => dV_mf x pa pc)
  have hzd : (Tryz.prog.info? 67).map (·.size) = some (dV x none 0 0).length := by rw [HDL.out]; exact rm_size
  have hpd : zeroMV.length = (dV x none 0 0).length := by rw [HDL.out]; rfl
  have hod := dV_one x none 0 0
  clear ho hDV hp
  go_enter Tryz.func20, Tryz.ntmps20
  go_upto_region 1 with fail
  have H0 : Sep w NoF [.box w.heap.size (mfV x a c) 48] (w.alloc (.cells (mfV x a c).toArray 48)) := (Sep.start w).allocAt w.heap.size (mfV x a c) 48 rfl
  have H1 : Sep w NoF [.box (w.heap.size + 1) zeroMV 67, .box w.heap.size (mfV x a c) 48] ((w.alloc (.cells (mfV x a c).toArray 48)).alloc (.cells #[.int .i64 0, .int .i64 0, .int .i64 0, .int .i64 0, .int .u8 0, .int .u8 0, .int .u8 0, .int .u8 0, .int .u8 0, .int .u8 0, .int .u8 0, .int .u8 0, .int .u8 0, .int .u8 0, .int .u8 0, .int .u8 0, .int .u8 0, .int .u8 0, .int .u8 0, .int .u8 0, .int .u8 0, .int .u8 0, .int .u8 0, .int .u8 0, .int .u8 0, .int .u8 0, .int .u8 0, .int .u8 0, .int .u8 0, .int .u8 0, .int .u8 0, .int .u8 0, .int .u8 0, .int .u8 0, .int .u8 0, .int .u8 0, .slice none 0 0] 67)) := H0.allocAt (w.heap.size + 1) zeroMV 67 (by simp)
  clear H0
  generalize (w.alloc (.cells (mfV x a c).toArray 48)).alloc (.cells #[.int .i64 0, .int .i64 0, .int .i64 0, .int .i64 0, .int .u8 0, .int .u8 0, .int .u8 0, .int .u8 0, .int .u8 0, .int .u8 0, .int .u8 0, .int .u8 0, .int .u8 0, .int .u8 0, .int .u8 0, .int .u8 0, .int .u8 0, .int .u8 0, .int .u8 0, .int .u8 0, .int .u8 0, .int .u8 0, .int .u8 0, .int .u8 0, .int .u8 0, .int .u8 0, .int .u8 0, .int .u8 0, .int .u8 0, .int .u8 0, .int .u8 0, .int .u8 0, .int .u8 0, .int .u8 0, .int .u8 0, .int .u8 0, .slice none 0 0] 67) = w1 at *
  have c0 := H1.cell 1 rfl 0 (v := .int .i64 x.n) rfl
  have c1 := H1.cell 1 rfl 1 (v := .int .i64 x.f) rfl
  have c2 := H1.cell 1 rfl 2 (v := .int .i64 x.t) rfl
  have c3 := H1.cell 1 rfl 3 (v := .int .i64 x.r) rfl
  have HG := Lib.hid' (HRX.out w1 (H1.box 1 rfl))
  have H2 : Sep w NoF [.box w1.heap.size zeroMV 67, .box (w.heap.size + 1) zeroMV 67, .box w.heap.size (mfV x a c) 48] (w1.alloc (.cells #[.int .i64 0, .int .i64 0, .int .i64 0, .int .i64 0, .int .u8 0, .int .u8 0, .int .u8 0, .int .u8 0, .int .u8 0, .int .u8 0, .int .u8 0, .int .u8 0, .int .u8 0, .int .u8 0, .int .u8 0, .int .u8 0, .int .u8 0, .int .u8 0, .int .u8 0, .int .u8 0, .int .u8 0, .int .u8 0, .int .u8 0, .int .u8 0, .int .u8 0, .int .u8 0, .int .u8 0, .int .u8 0, .int .u8 0, .int .u8 0, .int .u8 0, .int .u8 0, .int .u8 0, .int .u8 0, .int .u8 0, .int .u8 0, .slice none 0 0] 67)) := H1.allocAt w1.heap.size zeroMV 67 rfl
  clear HRX
  generalize byteVs x.p = DV at *
  generalize hq0 : dV x none 0 0 = Q0 at *
  go_upto_region 2 with (first | (refine wpList_load_at HG.out rfl 45 (.tmp 14) rfl rfl _ Tryz.underlying45 rfl hz ?_) | (refine wpList_bd rfl 67 #[(0, .tmp 7), (1, .tmp 9), (2, .tmp 11), (3, .tmp 13), (4, .tmp 15)] rfl Q0.toArray ((congrArg (Tryz.prog.built 67) (show _ = [(0, .int .i64 x.n), (1, .int .i64 x.f), (2, .int .i64 x.t), (3, .int .i64 x.r), (4, .agg DV.toArray)] by kernel_rfl)).trans HB.out) ?_) | (refine Sep.storeB H2 0 rfl rfl 67 (.tmp 3) (.tmp 16) rfl Q0 rfl rfl hzd hpd hod ?_))
  have H3 := (H2.setRow 0 rfl Q0).nilRow 69 35
  generalize (w1.alloc (.cells #[.int .i64 0, .int .i64 0, .int .i64 0, .int .i64 0, .int .u8 0, .int .u8 0, .int .u8 0, .int .u8 0, .int .u8 0, .int .u8 0, .int .u8 0, .int .u8 0, .int .u8 0, .int .u8 0, .int .u8 0, .int .u8 0, .int .u8 0, .int .u8 0, .int .u8 0, .int .u8 0, .int .u8 0, .int .u8 0, .int .u8 0, .int .u8 0, .int .u8 0, .int .u8 0, .int .u8 0, .int .u8 0, .int .u8 0, .int .u8 0, .int .u8 0, .int .u8 0, .int .u8 0, .int .u8 0, .int .u8 0, .int .u8 0, .slice none 0 0] 67)).setRow w1.heap.size Q0.toArray = w3 at *
  rw [← hq0] at H3
  generalize hN3 : w1.heap.size = N3 at *
  generalize hN2 : w.heap.size + 1 = N2 at *
  generalize hN1 : w.heap.size = N1 at H3
  have HN := Lib.hid' (And.intro hN1 (And.intro hN2 hN3))
  clear H2 H1 c0 c1 c2 c3 hq0 HB HG hzd hpd hod hN1 hN2 hN3 hz
  have c6 := H3.cell 3 rfl 36 x36
  have H4 : Sep w NoF [.row 69 35 (.slice none 0 0) 0 ((x.ps.take 0).flatMap ptV), .box N3 (dV x none 0 0) 67, .box N2 zeroMV 67, .box N1 (mfV x a c) 48] w3 := H3
  clear H3
  go_wp2_with fail
  clear c6
  go_loopw [20] (fun v20 wr => ∃ (k : Nat) (pa : Option Addr) (pc : Nat), v20 = .int .i64 k ∧ k ≤ x.ps.length ∧ Hid (Sep w NoF [.row 69 35 (.slice pa k pc) k ((x.ps.take k).flatMap ptV), .box N3 (dV x pa k pc) 67, .box N2 zeroMV 67, .box N1 (mfV x a c) 48] wr)) (fun v20 _ => x.ps.length - (intOf v20).toNat)
  case atStart => exact ⟨0, none, 0, rfl, Nat.zero_le _, Lib.hid' H4⟩
  case round =>
    clear H4
    obtain ⟨k, pa, pc, rfl, hk, HS⟩ := hrel
    by_cases hlt : k < x.ps.length
    · have H0 := HS.out
      have HPr := Lib.hid' (HP.out.below (Nat.le_refl _) H0.toBelow)
      obtain ⟨bb, off, rfl, hbb, hrg⟩ := PtsAt.at HPr.out HO.out.ps hlt
      have HG := Lib.hid' hrg
      have ok := HO.out.ps _ (List.getElem_mem hlt)
      have HPO := Lib.hid' (fun wq => partOf_any x.ps[k] wq ok)
      have hl35 := ptV_len ok
      have hz : (Tryz.prog.info? 53).map (·.size) = some (ptV x.ps[k]).length := by rw [hl35]; kernel_rfl
      have hpl0 : zeroPt.length = (ptV x.ps[k]).length := by rw [hl35]; rfl
      have hp1 : (ptV x.ps[k]).all (·.oneCell') = true := List.all_eq_true.2 ptV_one'
      have hp2 : ∀ u ∈ ptV x.ps[k], u.oneCell' = true := ptV_one'
      have HTK := Lib.hid' (show (x.ps.take (k + 1)).flatMap ptV = (x.ps.take k).flatMap ptV ++ ptV x.ps[k] by rw [List.take_add_one, List.getElem?_eq_getElem hlt, List.flatMap_append]; simp)
      have hlt2 : (k : Int) < (x.ps.length : Int) := by omega
      clear hrg ok HPr HS
      generalize ptV x.ps[k] = PV at *
      have HZ : Sep w NoF [.box wr.heap.size zeroPt 53, .row 69 35 (.slice pa k pc) k ((x.ps.take k).flatMap ptV), .box N3 (dV x pa k pc) 67, .box N2 zeroMV 67, .box N1 (mfV x (some ⟨bb, off, none⟩) c) 48] (wr.alloc (.cells #[.int .i64 0, .int .i64 0, .int .i64 0, .int .u8 0, .int .u8 0, .int .u8 0, .int .u8 0, .int .u8 0, .int .u8 0, .int .u8 0, .int .u8 0, .int .u8 0, .int .u8 0, .int .u8 0, .int .u8 0, .int .u8 0, .int .u8 0, .int .u8 0, .int .u8 0, .int .u8 0, .int .u8 0, .int .u8 0, .int .u8 0, .int .u8 0, .int .u8 0, .int .u8 0, .int .u8 0, .int .u8 0, .int .u8 0, .int .u8 0, .int .u8 0, .int .u8 0, .int .u8 0, .int .u8 0, .int .u8 0] 53)) := H0.allocAt wr.heap.size zeroPt 53 rfl
      go_upto_region 5 with (first | (refine wpList_load_at HG.out rfl 53 (.tmp 22) rfl rfl _ Tryz.underlying53 rfl hz ?_) | (refine Sep.storeB HZ 0 rfl rfl 53 (.tmp 5) (.tmp 23) rfl PV rfl rfl hz hpl0 hp1 ?_))
      have H1 := (HZ.setRow 0 rfl PV).drew
      have H1b := (HZ.setRow 0 rfl PV)
      generalize (wr.alloc (.cells #[.int .i64 0, .int .i64 0, .int .i64 0, .int .u8 0, .int .u8 0, .int .u8 0, .int .u8 0, .int .u8 0, .int .u8 0, .int .u8 0, .int .u8 0, .int .u8 0, .int .u8 0, .int .u8 0, .int .u8 0, .int .u8 0, .int .u8 0, .int .u8 0, .int .u8 0, .int .u8 0, .int .u8 0, .int .u8 0, .int .u8 0, .int .u8 0, .int .u8 0, .int .u8 0, .int .u8 0, .int .u8 0, .int .u8 0, .int .u8 0, .int .u8 0, .int .u8 0, .int .u8 0, .int .u8 0, .int .u8 0] 53)).setRow wr.heap.size PV.toArray = w5 at *
      generalize wr.heap.size = P5 at *
      have hd36 := HD6.out pa k pc
      have z3 := H1.cell 2 rfl 36 hd36
      clear HZ HG hpl0 H0
      refine wp_region_held_drew (S := (fun w' => BoxW P5 PV 53 w')) (by kernel_rfl) (H1.box 0 rfl) (fun hH0 => ?_)
      refine wpAnyH_take (i := 0) (oi := _) (v := .pointer (some ⟨N3, 36, none⟩)) rfl (by kernel_rfl) (by kernel_rfl) (by kernel_rfl) (fun _ _ _ h => h) (Or.inl ⟨by rfl, ?_⟩) hH0 ?_
      · intro w hSw; go_simp
      simp only [Act.put, List.getElem_toArray, List.getElem_cons_zero, List.getElem_cons_succ, List.setIfInBounds_toArray, List.set_cons_zero, List.set_cons_succ]
      refine wpAnyH_take (i := 2) (oi := _) (v := .agg PV.toArray) rfl (by kernel_rfl) (by kernel_rfl) (by kernel_rfl) (fun _ _ _ h => h) (yieldsIf_load_mid (by kernel_rfl) 53 (.tmp 5) rfl P5 0 rfl PV _ (fun wq hb => hb.range) Tryz.underlying53 rfl hz) hH0 ?_
      simp only [Act.put, List.getElem_toArray, List.getElem_cons_zero, List.getElem_cons_succ, List.setIfInBounds_toArray, List.set_cons_zero, List.set_cons_succ]
      refine wpAnyH_ready (rs := [1, 3]) (by kernel_rfl) (by simp) (AllReadyH.cons (o := _) rfl (fun K hK => ?_) (AllReadyH.cons (o := _) rfl (fun K hK => ?_) AllReadyH.nil))
      · skip
        go_simp
        refine hK.out _ _ ?_ (fun hH1 => ?_)
        · exact H1.box 0 rfl
        clear hK K
        refine wpAnyH_ready (rs := [3]) (by kernel_rfl) (by simp) (AllReadyH.cons (o := _) rfl (fun K hK => ?_) AllReadyH.nil)
        go_simp
        refine (HPO.out _).mono ?_
        rintro en wx ⟨rfl, hbx⟩
        have HX := H1.below hbx
        have z3x := HX.cell 2 rfl 36 hd36
        have z3y := (HX.allocX (.cells PV.toArray 69)).cell 2 rfl 36 hd36
        refine hK.out _ _ ?_ (fun hH2 => ?_)
        · exact HX.box 0 rfl
        clear hK K
        refine wpAnyH_ready (rs := [4]) (by kernel_rfl) (by simp) (AllReadyH.cons (o := _) rfl (fun K hK => ?_) AllReadyH.nil)
        refine step_bs1 (w := wx) etP15 rfl (.tmp 27) rfl PV rfl hl35 (by decide) ?_
        refine hK.out _ _ ?_ (fun hH3 => ?_)
        · exact (HX.allocX _).box 0 rfl
        clear hK K
        refine wpAnyH_ready (rs := [5]) (by kernel_rfl) (by simp) (AllReadyH.cons (o := _) rfl (fun K hK => ?_) AllReadyH.nil)
        refine Sep.appendStep (w := wx) etP15 rfl (.tmp 25) (.tmp 28) rfl PV rfl HX 1 rfl rfl hl35 hp2 (by omega) ?_
        intro a9 c9 w9 HA
        have z9 := HA.cell 2 rfl 36 hd36
        have zf := HA.free 2 rfl 36
        have H10 := HA.set 2 rfl 36 (.slice a9 (k + 1) c9)
        have hw9 := HA.lt 2 rfl
        refine hK.out _ _ ?_ (fun hH4 => ?_)
        · exact HA.box 1 rfl
        clear hK K
        refine wpAnyH_take (i := 6) (oi := _) (v := .pointer (some ⟨N3, 36, none⟩)) rfl (by kernel_rfl) (by kernel_rfl) (by kernel_rfl) (fun _ _ _ h => h) (Or.inl ⟨by rfl, ?_⟩) hH4 ?_
        · intro w hSw; go_simp
        simp only [Act.put, List.getElem_toArray, List.getElem_cons_zero, List.getElem_cons_succ, List.setIfInBounds_toArray, List.set_cons_zero, List.set_cons_succ]
        refine wpAnyH_ready (rs := [7]) (by kernel_rfl) (by simp) (AllReadyH.cons (o := _) rfl (fun K hK => ?_) AllReadyH.nil)
        go_simp
        refine hK.out _ _ ?_ (fun hH5 => ?_)
        · exact H10.box 2 rfl
        clear hK K
        refine wpAnyH_done (by kernel_rfl) ?_ _
        have H11 := ((H10.drop 2).focus 1 rfl)
        rw [HDS.out, ← HTK.out] at H11
        have H12 := Lib.hid' H11
        clear H10 HA z9 zf H11 HX z3x z3y H1 H1b z3 hd36 hbx hw9
        go_wp2_with fail
        go_roundw
        case rel => exact ⟨k + 1, a9, c9, by go_num, by omega, H12⟩
        case measure => simp [intOf]; omega
      · skip
        go_simp
        refine (HPO.out _).mono ?_
        rintro en wx ⟨rfl, hbx⟩
        have HX := H1.below hbx
        have z3x := HX.cell 2 rfl 36 hd36
        have z3y := (HX.allocX (.cells PV.toArray 69)).cell 2 rfl 36 hd36
        refine hK.out _ _ ?_ (fun hH1 => ?_)
        · exact HX.box 0 rfl
        clear hK K
        refine wpAnyH_ready (rs := [1, 4]) (by kernel_rfl) (by simp) (AllReadyH.cons (o := _) rfl (fun K hK => ?_) (AllReadyH.cons (o := _) rfl (fun K hK => ?_) AllReadyH.nil))
        · skip
          go_simp
          refine hK.out _ _ ?_ (fun hH2 => ?_)
          · exact HX.box 0 rfl
          clear hK K
          refine wpAnyH_ready (rs := [4]) (by kernel_rfl) (by simp) (AllReadyH.cons (o := _) rfl (fun K hK => ?_) AllReadyH.nil)
          refine step_bs1 (w := wx) etP15 rfl (.tmp 27) rfl PV rfl hl35 (by decide) ?_
          refine hK.out _ _ ?_ (fun hH3 => ?_)
          · exact (HX.allocX _).box 0 rfl
          clear hK K
          refine wpAnyH_ready (rs := [5]) (by kernel_rfl) (by simp) (AllReadyH.cons (o := _) rfl (fun K hK => ?_) AllReadyH.nil)
          refine Sep.appendStep (w := wx) etP15 rfl (.tmp 25) (.tmp 28) rfl PV rfl HX 1 rfl rfl hl35 hp2 (by omega) ?_
          intro a9 c9 w9 HA
          have z9 := HA.cell 2 rfl 36 hd36
          have zf := HA.free 2 rfl 36
          have H10 := HA.set 2 rfl 36 (.slice a9 (k + 1) c9)
          have hw9 := HA.lt 2 rfl
          refine hK.out _ _ ?_ (fun hH4 => ?_)
          · exact HA.box 1 rfl
          clear hK K
          refine wpAnyH_take (i := 6) (oi := _) (v := .pointer (some ⟨N3, 36, none⟩)) rfl (by kernel_rfl) (by kernel_rfl) (by kernel_rfl) (fun _ _ _ h => h) (Or.inl ⟨by rfl, ?_⟩) hH4 ?_
          · intro w hSw; go_simp
          simp only [Act.put, List.getElem_toArray, List.getElem_cons_zero, List.getElem_cons_succ, List.setIfInBounds_toArray, List.set_cons_zero, List.set_cons_succ]
          refine wpAnyH_ready (rs := [7]) (by kernel_rfl) (by simp) (AllReadyH.cons (o := _) rfl (fun K hK => ?_) AllReadyH.nil)
          go_simp
          refine hK.out _ _ ?_ (fun hH5 => ?_)
          · exact H10.box 2 rfl
          clear hK K
          refine wpAnyH_done (by kernel_rfl) ?_ _
          have H11 := ((H10.drop 2).focus 1 rfl)
          rw [HDS.out, ← HTK.out] at H11
          have H12 := Lib.hid' H11
          clear H10 HA z9 zf H11 HX z3x z3y H1 H1b z3 hd36 hbx hw9
          go_wp2_with fail
          go_roundw
          case rel => exact ⟨k + 1, a9, c9, by go_num, by omega, H12⟩
          case measure => simp [intOf]; omega
        · skip
          refine step_bs1 (w := wx) etP15 rfl (.tmp 27) rfl PV rfl hl35 (by decide) ?_
          refine hK.out _ _ ?_ (fun hH2 => ?_)
          · exact (HX.allocX _).box 0 rfl
          clear hK K
          refine wpAnyH_ready (rs := [1]) (by kernel_rfl) (by simp) (AllReadyH.cons (o := _) rfl (fun K hK => ?_) AllReadyH.nil)
          go_simp
          refine hK.out _ _ ?_ (fun hH3 => ?_)
          · exact (HX.allocX _).box 0 rfl
          clear hK K
          refine wpAnyH_ready (rs := [5]) (by kernel_rfl) (by simp) (AllReadyH.cons (o := _) rfl (fun K hK => ?_) AllReadyH.nil)
          refine Sep.appendStep (w := wx) etP15 rfl (.tmp 25) (.tmp 28) rfl PV rfl HX 1 rfl rfl hl35 hp2 (by omega) ?_
          intro a9 c9 w9 HA
          have z9 := HA.cell 2 rfl 36 hd36
          have zf := HA.free 2 rfl 36
          have H10 := HA.set 2 rfl 36 (.slice a9 (k + 1) c9)
          have hw9 := HA.lt 2 rfl
          refine hK.out _ _ ?_ (fun hH4 => ?_)
          · exact HA.box 1 rfl
          clear hK K
          refine wpAnyH_take (i := 6) (oi := _) (v := .pointer (some ⟨N3, 36, none⟩)) rfl (by kernel_rfl) (by kernel_rfl) (by kernel_rfl) (fun _ _ _ h => h) (Or.inl ⟨by rfl, ?_⟩) hH4 ?_
          · intro w hSw; go_simp
          simp only [Act.put, List.getElem_toArray, List.getElem_cons_zero, List.getElem_cons_succ, List.setIfInBounds_toArray, List.set_cons_zero, List.set_cons_succ]
          refine wpAnyH_ready (rs := [7]) (by kernel_rfl) (by simp) (AllReadyH.cons (o := _) rfl (fun K hK => ?_) AllReadyH.nil)
          go_simp
          refine hK.out _ _ ?_ (fun hH5 => ?_)
          · exact H10.box 2 rfl
          clear hK K
          refine wpAnyH_done (by kernel_rfl) ?_ _
          have H11 := ((H10.drop 2).focus 1 rfl)
          rw [HDS.out, ← HTK.out] at H11
          have H12 := Lib.hid' H11
          clear H10 HA z9 zf H11 HX z3x z3y H1 H1b z3 hd36 hbx hw9
          go_wp2_with fail
          go_roundw
          case rel => exact ⟨k + 1, a9, c9, by go_num, by omega, H12⟩
          case measure => simp [intOf]; omega
    · obtain rfl : k = x.ps.length := by omega
      have H0 := HS.out
      rw [List.take_length, HDM.out] at H0
      have HR := Lib.hid' (show PtsAt wr pa pc x.ps from SlV.of_own (H0.row 0 rfl))
      have hzm : (Tryz.prog.info? 67).map (·.size) = some (mfV x pa pc).length := by rw [mfV_len HO.out]; exact rm_size
      have hpm : zeroMV.length = (mfV x pa pc).length := by rw [mfV_len HO.out]; rfl
      have hom : (mfV x pa pc).all (·.oneCell') = true := List.all_eq_true.2 mfV_one
      have HPT := Lib.hid' (fun wq (hb : SlV wq (.slice pa x.ps.length pc) x.ps.length (x.ps.flatMap ptV)) => show PtsAt wq pa pc x.ps from hb)
      clear hlt hk HS
      generalize hMV : mfV x pa pc = MV at *
      have HMV := Lib.hid' hMV
      clear hMV
      go_wp2_with (first | (refine Sep.loadB H0 1 rfl rfl 67 (.tmp 3) rfl rfl _ Tryz.underlying67 rfl hzm ?_) | (refine Sep.storeB H0 2 rfl rfl 67 (.tmp 2) (.tmp 32) rfl MV rfl rfl hzm hpm hom ?_))
      have H4 := H0.setRow 2 rfl MV
      refine bodyPost_ret (box_result Tryz.results20 (H4.box 0 rfl) _ rfl _ Tryz.underlying67 rfl hzm) rfl ?_
      exact ⟨pa, pc, by rw [HMV.out], HPT.out _ (SlV.of_own (H4.row 1 rfl)), H4.toBelow⟩
end Go.Proofs.YtinbcehlpfnlaaaGreatDoor
