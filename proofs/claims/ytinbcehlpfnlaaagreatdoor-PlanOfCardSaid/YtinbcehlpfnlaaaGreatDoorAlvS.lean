/- plan.Size, law21.alive, law16.alive. -/
import Derived.Test.YtinbcehlpfnlaaaGreatDoorPlnA
import Derived.Test.YtinbcehlpfnlaaaGreatDoorChnG
import Derived.Great.Walk
namespace Go.Proofs.YtinbcehlpfnlaaaGreatDoor
open Go.RowKit
set_option linter.unusedSimpArgs false
set_option linter.unusedVariables false
set_option maxRecDepth 100000

theorem sizeI_next {L : List It} {k : Nat} (hk : k < L.length) : sizeI (L.drop k) = (L[k].b - L[k].a) + sizeI (L.drop (k + 1)) := by
  rw [List.drop_eq_getElem_cons hk]; rfl
set_option maxHeartbeats 4000000 in
theorem psize_any (n b mk : Int) (a : Option Addr) (c : Nat) (L : List It) (w : World) (h : SlV w (.slice a L.length c) L.length (L.flatMap itV)) (hb : ∀ x ∈ L, 0 ≤ x.a ∧ x.a ≤ x.b ∧ x.b ≤ 1048576) (hl : L.length ≤ 1099511627776) :
    Calls Tryz.prog 14 #[.agg (plV n b mk a L.length c).toArray] w fun e w' => e = .returned (.int .i64 (sizeI L)) ∧ Below w.heap.size w w' := by
  have HS := Lib.hid' h
  have HB := Lib.hid' hb
  clear h hb
  go_enter Tryz.func14, Tryz.ntmps14
  go_upto_region 1 with fail
  have H0 : Sep w NoF [.box w.heap.size (plV n b mk a L.length c) 27] (w.alloc (.cells (plV n b mk a L.length c).toArray 27)) := (Sep.start w).allocAt w.heap.size (plV n b mk a L.length c) 27 rfl
  generalize w.alloc (.cells (plV n b mk a L.length c).toArray 27) = w1 at *
  have z3 := H0.cell 0 rfl 3 (v := .slice a L.length c) rfl
  have H1 := Lib.hid' H0.toBelow
  clear H0
  go_wp2_with fail
  go_loopw [9, 3] (fun v9 v3 wr => ∃ (k : Nat) (s : Int), v9 = .int .i64 k ∧ k ≤ L.length ∧ v3 = .int .i64 s ∧ 0 ≤ s ∧ s ≤ 1048576 * k ∧ Hid (sizeI L = s + sizeI (L.drop k)) ∧ Hid (Below w.heap.size w wr)) (fun v9 _ _ => L.length - (intOf v9).toNat)
  case atStart => exact ⟨0, 0, rfl, Nat.zero_le _, rfl, by omega, by omega, Lib.hid' (by rw [List.drop_zero]; omega), H1⟩
  case round =>
    obtain ⟨k, s, rfl, hk, rfl, hs1, hs2, HI, HW⟩ := hrel
    by_cases hlt : k < L.length
    · obtain ⟨bb, off, rfl, hbb, hrg⟩ := SlV.row (f := itV) (s := 4) (fun _ => rfl) (by decide) (HS.out.below (Nat.le_refl _) HW.out) hlt
      have hin := HB.out _ (List.getElem_mem hlt)
      have HI2 := Lib.hid' (HI.out.trans (by rw [sizeI_next hlt]))
      have HG := Lib.hid' (show wr.rangeAt bb (off + k * 4) (itV L[k]) from hrg)
      clear hrg HI
      generalize L[k] = y at *
      obtain ⟨yn, yi, ya, yb⟩ := y
      simp only at hin HI2
      have hiz : (Tryz.prog.info? 56).map (·.size) = some (itV ⟨yn, yi, ya, yb⟩).length := it_size
      have hi1 : (itV ⟨yn, yi, ya, yb⟩).all (·.oneCell') = true := rfl
      have HZ : Sep w NoF [.box wr.heap.size [.int .i64 0, .int .i64 0, .int .i64 0, .int .i64 0] 56] (wr.alloc (.cells #[.int .i64 0, .int .i64 0, .int .i64 0, .int .i64 0] 56)) := ((Sep.start w).below HW.out).allocAt wr.heap.size [.int .i64 0, .int .i64 0, .int .i64 0, .int .i64 0] 56 rfl
      have HY := HZ.setRow 0 rfl (itV ⟨yn, yi, ya, yb⟩)
      go_upto_region 5 with (first | (refine wpList_load_at HG.out rfl 56 (.tmp 11) rfl rfl _ Tryz.underlying56 rfl hiz ?_) | (refine Sep.storeB HZ 0 rfl rfl 56 (.tmp 5) (.tmp 12) rfl (itV ⟨yn, yi, ya, yb⟩) rfl rfl hiz rfl hi1 ?_))
      generalize ((wr.alloc (.cells #[.int .i64 0, .int .i64 0, .int .i64 0, .int .i64 0] 56)).setRow wr.heap.size (itV ⟨yn, yi, ya, yb⟩).toArray) = w6 at *
      generalize wr.heap.size = M at *
      have y2 := HY.cell 0 rfl 2 (v := .int .i64 ya) rfl
      have y3 := HY.cell 0 rfl 3 (v := .int .i64 yb) rfl
      have HB6 := Lib.hid' HY.toBelow
      have hkl : (k : Int) ≤ 1099511627776 := by omega
      have HI3 := Lib.hid' (show sizeI L = (s + (yb - ya)) + sizeI (L.drop (k + 1)) by rw [HI2.out]; omega)
      clear HZ HG HY HI2
      go_wp2_with fail
      go_roundw
      case rel => exact ⟨k + 1, s + (yb - ya), by go_num, by omega, rfl, by omega, by omega, HI3, HB6⟩
      case measure => simp [intOf]; omega
    · obtain rfl : k = L.length := by omega
      have HI2 := Lib.hid' (show sizeI L = s by rw [HI.out, List.drop_length]; simp [sizeI])
      go_wp2_with fail
      go_ret
      exact ⟨ret_eq (by rw [HI2.out]; rfl), HW.out⟩

end Go.Proofs.YtinbcehlpfnlaaaGreatDoor

namespace Go.Proofs.YtinbcehlpfnlaaaGreatDoor
open Go.RowKit
set_option linter.unusedSimpArgs false
set_option linter.unusedVariables false
set_option maxRecDepth 100000

theorem irc {n : Int} (h : -9223372036854775808 ≤ n ∧ n ≤ 9223372036854775807) : IR n := h
def aP0 : Pt := ⟨0, 3, 1, zero32B⟩
def aP1 : Pt := ⟨3, 4, 1, zero32B⟩
def aM0 : Mf := ⟨0, 0, 3, 1, zero32B, [aP0]⟩
def aM1 (d : List UInt8) : Mf := ⟨1, 3, 7, 1, d, [aP1]⟩
theorem aP0_ok : aP0.ok := ⟨irc (n := 0) (by decide), irc (n := 3) (by decide), irc (n := 1) (by decide), rfl⟩
theorem aP1_ok : aP1.ok := ⟨irc (n := 3) (by decide), irc (n := 4) (by decide), irc (n := 1) (by decide), rfl⟩
theorem a_next0 : nextM [] 0 1 [aP0] = (0, aM0) := by kernel_rfl
theorem a_fol0 : folB [] aM0 = true := by kernel_rfl
theorem a_chk0 : aM0.check = 0 := by kernel_rfl
theorem a_chk1 (d : List UInt8) : (aM1 d).check = 0 := by kernel_rfl
theorem a_fol1 (q : Option Addr × Nat) (d : List UInt8) (h : headD [(aM0, q)] = d) : folB [(aM0, q)] (aM1 d) = true := by
  have h0 : headN [(aM0, q)] = 0 := a_chk0
  unfold folB
  rw [h0, h]
  simp [aM1, lastM, aM0]
theorem a_good1 (q : Option Addr × Nat) : Good [] [(aM0, q)] := .cons a_chk0 a_fol0 (.nil _)
theorem a_next1 (q : Option Addr × Nat) (d : List UInt8) (h : headD [(aM0, q)] = d) : nextM [(aM0, q)] 3 1 [aP1] = (0, aM1 d) := by
  unfold nextM nextX chkM
  rw [chk_of_good (a_good1 q), h]
  kernel_rfl
theorem a_plan (q q' : Option Addr × Nat) (d : List UInt8) (h : headD [(aM0, q)] = d) : planOf [(aM0, q), (aM1 d, q')] 5 = (0, ⟨5, 0, 1, [⟨0, 0, 1, 3⟩, ⟨1, 0, 3, 5⟩]⟩) := by
  have hg : Good [] [(aM0, q), (aM1 d, q')] := .cons a_chk0 a_fol0 (.cons (a_chk1 d) (a_fol1 q d h) (.nil _))
  unfold planOf chkM
  rw [chk_of_good hg]
  exact rfl
theorem a_ok0 : aM0.ok := ⟨irc (n := 0) (by decide), irc (n := 0) (by decide), irc (n := 3) (by decide), irc (n := 1) (by decide), rfl, fun y hy => by simp only [aM0, List.mem_singleton] at hy; subst hy; exact aP0_ok⟩
theorem a_ok1 (d : List UInt8) (h : d.length = 32) : (aM1 d).ok := ⟨irc (n := 1) (by decide), irc (n := 3) (by decide), irc (n := 7) (by decide), irc (n := 1) (by decide), h, fun y hy => by simp only [aM1, List.mem_singleton] at hy; subst hy; exact aP1_ok⟩
theorem etMfs : ElemT Tryz.prog 22 48 37 88 := ElemT.mk' (z := .agg #[.int .i64 0, .int .i64 0, .int .i64 0, .int .i64 0, .int .u8 0, .int .u8 0, .int .u8 0, .int .u8 0, .int .u8 0, .int .u8 0, .int .u8 0, .int .u8 0, .int .u8 0, .int .u8 0, .int .u8 0, .int .u8 0, .int .u8 0, .int .u8 0, .int .u8 0, .int .u8 0, .int .u8 0, .int .u8 0, .int .u8 0, .int .u8 0, .int .u8 0, .int .u8 0, .int .u8 0, .int .u8 0, .int .u8 0, .int .u8 0, .int .u8 0, .int .u8 0, .int .u8 0, .int .u8 0, .int .u8 0, .int .u8 0, .slice none 0 0]) Tryz.underlying22 (by kernel_rfl) rfl (by decide) (by decide)
theorem ElemT.built {P : Program} {t e size bytes : Nat} (T : ElemT P t e size bytes) (vs : List (List Value)) (h : ∀ v ∈ vs, v.length = size) (hs : vs.length * size ≤ 2 ^ 24) (hn : vs ≠ []) :
    P.builtSlice e vs.length ((vs.map (fun v => Value.agg v.toArray)).zipIdx.map fun x => (x.2, x.1)) = some vs.flatten.toArray := by
  obtain ⟨i, z, hi, hz, hsz, _, hc⟩ := T.info
  have hl : 0 < vs.length := List.length_pos_iff.2 hn
  have hm : 0 < vs.length * size := Nat.mul_pos hl T.pos
  unfold Program.builtSlice
  simp only [hi, hz, hsz]
  rw [if_neg (by omega)]
  have := Go.Great.fill_whole (s := size) T.pos (vs.map (fun v => Value.agg v.toArray)) ((Array.range (vs.length * size)).map (z.cells[· % z.cells.size]!)) (by
    intro v hv
    obtain ⟨u, hu, rfl⟩ := List.mem_map.1 hv
    simpa [Value.cells] using h u hu) (by simp)
  rw [this]
  congr 2
  rw [List.flatMap_map]
  simp [Value.cells, List.flatMap_def]
theorem wpList_bs {P : Program} {ops : Array Oper} {rest : List Oper} {o : Oper} {a : Act} {w : World} {Q : Exit → Act → World → Prop} (hg : o.guard = none) (t e : TypeId) (len : Nat) (parts : Array (Nat × Operand)) (ho : o.op = .buildSlice t len parts)
    (N : Nat) (hN : w.heap.size = N) (hu : P.underlying t = some (.slice e)) (cells : Array Value) (pv : List (Nat × Value)) (hpv : (parts.map fun (i, x) => (i, a.eval x)).toList = pv) (hf : P.builtSlice e len pv = some cells)
    (h : wpList P ops Q rest (a.put o.dst (.slice (some ⟨N, 0, none⟩) len len)) (w.alloc (.cells cells e))) : wpList P ops Q (o :: rest) a w :=
  Go.Great.wpList_buildSliceTo hg t e len parts ho N hN o.dst rfl hu cells (by rw [hpv]; exact hf) h
theorem msAt_new (w : World) (X : List MfP) (hn : X.length ≤ maxLen) (h : ∀ x ∈ X, PtsAt w x.2.1 x.2.2 x.1.ps) (ho : ∀ x ∈ X, x.1.ok) : MsAt (w.alloc (.cells (X.flatMap mV).toArray 48)) (some ⟨w.heap.size, 0, none⟩) X.length X :=
  ⟨SlV.new w (X.flatMap mV) X.length 48 hn, fun x hx => (h x hx).below (Nat.le_refl _) ((Below.refl _ w).alloc (Nat.le_refl _) _), ho⟩
theorem ptsAt_new (w : World) (l : List Pt) (hn : l.length ≤ maxLen) : PtsAt (w.alloc (.cells (l.flatMap ptV).toArray 53)) (some ⟨w.heap.size, 0, none⟩) l.length l := SlV.new w (l.flatMap ptV) l.length 53 hn
theorem ElemT.built1 {P : Program} {t e size bytes : Nat} (T : ElemT P t e size bytes) (Y : List Value) (h : Y.length = size) (hs : size ≤ 2 ^ 24) : P.builtSlice e 1 [(0, .agg Y.toArray)] = some Y.toArray := by
  have := T.built [Y] (by simpa using h) (by simpa using hs) (by simp)
  simpa using this
theorem ElemT.built2 {P : Program} {t e size bytes : Nat} (T : ElemT P t e size bytes) (Y Z : List Value) (h : Y.length = size) (h2 : Z.length = size) (hs : 2 * size ≤ 2 ^ 24) : P.builtSlice e 2 [(0, .agg Y.toArray), (1, .agg Z.toArray)] = some (Y ++ Z).toArray := by
  have := T.built [Y, Z] (by intro v hv; simp only [List.mem_cons, List.not_mem_nil, or_false] at hv; rcases hv with rfl | rfl; exact h; exact h2) (by simpa using hs) (by simp)
  simpa using this
theorem msAt_new1 (w : World) (x : MfP) (h : PtsAt w x.2.1 x.2.2 x.1.ps) (ho : x.1.ok) : MsAt (w.alloc (.cells (mV x).toArray 48)) (some ⟨w.heap.size, 0, none⟩) 1 [x] := by
  have := msAt_new w [x] (by show 1 ≤ maxLen; decide) (by simpa using h) (by simpa using ho)
  simpa using this
theorem msAt_new2 (w : World) (x y : MfP) (h : PtsAt w x.2.1 x.2.2 x.1.ps) (ho : x.1.ok) (h2 : PtsAt w y.2.1 y.2.2 y.1.ps) (ho2 : y.1.ok) : MsAt (w.alloc (.cells (mV x ++ mV y).toArray 48)) (some ⟨w.heap.size, 0, none⟩) 2 [x, y] := by
  have := msAt_new w [x, y] (by show 2 ≤ maxLen; decide) (by intro z hz; simp only [List.mem_cons, List.not_mem_nil, or_false] at hz; rcases hz with rfl | rfl; exact h; exact h2) (by intro z hz; simp only [List.mem_cons, List.not_mem_nil, or_false] at hz; rcases hz with rfl | rfl; exact ho; exact ho2)
  simpa using this
theorem msAt_nil (w : World) : MsAt w none 0 [] := ⟨SlV.empty _ _ _ (Nat.zero_le _) (fun _ => rfl), fun x hx => (by cases hx), fun x hx => (by cases hx)⟩
set_option maxHeartbeats 16000000 in
theorem alive21_any (w : World) (hL : Laid w) : Calls Tryz.prog 4 #[] w fun e w' => e = .returned (.bool true) ∧ Below w.heap.size w w' := by
  have HL := Lib.hid' hL
  clear hL
  have HN0 := Lib.hid' (fun w1 pa pc (hp : PtsAt w1 pa pc [aP0]) (hb : Below w.heap.size w w1) => cnext_any [] none 0 0 1 [aP0] pa pc w1 (msAt_nil _) hp (fun y hy => by simp only [List.mem_singleton] at hy; subst hy; exact aP0_ok) (HL.out.below (Nat.le_refl _) hb) (irc (by decide)) (irc (by decide)) (by decide))
  rw [a_next0] at HN0
  go_enter Tryz.func4, Tryz.ntmps4
  go_upto_region 1 with fail
  have hP0 : PtsAt (w.alloc (.cells #[.int .i64 0, .int .i64 3, .int .i64 1, .int .u8 0, .int .u8 0, .int .u8 0, .int .u8 0, .int .u8 0, .int .u8 0, .int .u8 0, .int .u8 0, .int .u8 0, .int .u8 0, .int .u8 0, .int .u8 0, .int .u8 0, .int .u8 0, .int .u8 0, .int .u8 0, .int .u8 0, .int .u8 0, .int .u8 0, .int .u8 0, .int .u8 0, .int .u8 0, .int .u8 0, .int .u8 0, .int .u8 0, .int .u8 0, .int .u8 0, .int .u8 0, .int .u8 0, .int .u8 0, .int .u8 0, .int .u8 0] 53)) (some ⟨w.heap.size, 0, none⟩) 1 [aP0] := ptsAt_new w [aP0] (by decide)
  have hB0 : Below w.heap.size w (w.alloc (.cells #[.int .i64 0, .int .i64 3, .int .i64 1, .int .u8 0, .int .u8 0, .int .u8 0, .int .u8 0, .int .u8 0, .int .u8 0, .int .u8 0, .int .u8 0, .int .u8 0, .int .u8 0, .int .u8 0, .int .u8 0, .int .u8 0, .int .u8 0, .int .u8 0, .int .u8 0, .int .u8 0, .int .u8 0, .int .u8 0, .int .u8 0, .int .u8 0, .int .u8 0, .int .u8 0, .int .u8 0, .int .u8 0, .int .u8 0, .int .u8 0, .int .u8 0, .int .u8 0, .int .u8 0, .int .u8 0, .int .u8 0] 53)) := (Below.refl _ w).alloc (Nat.le_refl _) _
  have HN0' := Lib.hid' (HN0.out _ _ _ hP0 hB0)
  clear HN0 hP0
  go_upto_region 2 with (first | (go_at_call 13; refine HN0'.out.mono ?_; rintro e w2 ⟨a0, c0, rfl, hp, hb2⟩; have H2 : Sep w NoF [.box w2.heap.size zeroMV 48] (w2.alloc (.cells #[.int .i64 0, .int .i64 0, .int .i64 0, .int .i64 0, .int .u8 0, .int .u8 0, .int .u8 0, .int .u8 0, .int .u8 0, .int .u8 0, .int .u8 0, .int .u8 0, .int .u8 0, .int .u8 0, .int .u8 0, .int .u8 0, .int .u8 0, .int .u8 0, .int .u8 0, .int .u8 0, .int .u8 0, .int .u8 0, .int .u8 0, .int .u8 0, .int .u8 0, .int .u8 0, .int .u8 0, .int .u8 0, .int .u8 0, .int .u8 0, .int .u8 0, .int .u8 0, .int .u8 0, .int .u8 0, .int .u8 0, .int .u8 0, .slice none 0 0] 48)) := (Sep.nof (hB0.trans (hb2.mono hB0.size))).allocAt w2.heap.size zeroMV 48 rfl; have hp2 : PtsAt (w2.alloc (.cells #[.int .i64 0, .int .i64 0, .int .i64 0, .int .i64 0, .int .u8 0, .int .u8 0, .int .u8 0, .int .u8 0, .int .u8 0, .int .u8 0, .int .u8 0, .int .u8 0, .int .u8 0, .int .u8 0, .int .u8 0, .int .u8 0, .int .u8 0, .int .u8 0, .int .u8 0, .int .u8 0, .int .u8 0, .int .u8 0, .int .u8 0, .int .u8 0, .int .u8 0, .int .u8 0, .int .u8 0, .int .u8 0, .int .u8 0, .int .u8 0, .int .u8 0, .int .u8 0, .int .u8 0, .int .u8 0, .int .u8 0, .int .u8 0, .slice none 0 0] 48)) a0 c0 aM0.ps := hp.below (Nat.le_refl _) ((Below.refl _ w2).alloc (Nat.le_refl _) _)) | (refine Sep.storeB H2 0 rfl rfl 48 (.tmp 1) (.tmp 11) rfl (mfV aM0 a0 c0) rfl rfl mf_size rfl (List.all_eq_true.2 mfV_one) ?_))
  have H3 := H2.setRow 0 rfl (mfV aM0 a0 c0)
  have hp3 : PtsAt ((w2.alloc (.cells #[.int .i64 0, .int .i64 0, .int .i64 0, .int .i64 0, .int .u8 0, .int .u8 0, .int .u8 0, .int .u8 0, .int .u8 0, .int .u8 0, .int .u8 0, .int .u8 0, .int .u8 0, .int .u8 0, .int .u8 0, .int .u8 0, .int .u8 0, .int .u8 0, .int .u8 0, .int .u8 0, .int .u8 0, .int .u8 0, .int .u8 0, .int .u8 0, .int .u8 0, .int .u8 0, .int .u8 0, .int .u8 0, .int .u8 0, .int .u8 0, .int .u8 0, .int .u8 0, .int .u8 0, .int .u8 0, .int .u8 0, .int .u8 0, .slice none 0 0] 48)).setRow w2.heap.size (mfV aM0 a0 c0).toArray) a0 c0 aM0.ps := hp.below (Nat.le_refl _) (((Sep.start w2).allocAt w2.heap.size zeroMV 48 rfl).setRow 0 rfl (mfV aM0 a0 c0)).toBelow
  generalize (w2.alloc (.cells #[.int .i64 0, .int .i64 0, .int .i64 0, .int .i64 0, .int .u8 0, .int .u8 0, .int .u8 0, .int .u8 0, .int .u8 0, .int .u8 0, .int .u8 0, .int .u8 0, .int .u8 0, .int .u8 0, .int .u8 0, .int .u8 0, .int .u8 0, .int .u8 0, .int .u8 0, .int .u8 0, .int .u8 0, .int .u8 0, .int .u8 0, .int .u8 0, .int .u8 0, .int .u8 0, .int .u8 0, .int .u8 0, .int .u8 0, .int .u8 0, .int .u8 0, .int .u8 0, .int .u8 0, .int .u8 0, .int .u8 0, .int .u8 0, .slice none 0 0] 48)).setRow w2.heap.size (mfV aM0 a0 c0).toArray = w3 at *
  generalize w2.heap.size = N1 at *
  clear HN0' hB0 hb2 hp H2 hp2
  obtain ⟨d, hd⟩ : ∃ d, headD [(aM0, a0, c0)] = d := ⟨_, rfl⟩
  have hd32 : d.length = 32 := by rw [← hd]; exact headD_len _
  have HN1 := Lib.hid' (fun w1 xa pa (hm : MsAt w1 xa 1 [(aM0, a0, c0)]) (hp : PtsAt w1 pa 1 [aP1]) (hb : Below w.heap.size w w1) => cnext_any [(aM0, a0, c0)] xa 1 3 1 [aP1] pa 1 w1 hm hp (fun y hy => by simp only [List.mem_singleton] at hy; subst hy; exact aP1_ok) (HL.out.below (Nat.le_refl _) hb) (irc (by decide)) (irc (by decide)) (by decide))
  rw [a_next1 (a0, c0) d hd] at HN1
  have HPL := Lib.hid' (fun q' w1 xa (hm : MsAt w1 xa 2 [(aM0, a0, c0), (aM1 d, q')]) (hb : Below w.heap.size w w1) => plan_any [(aM0, a0, c0), (aM1 d, q')] xa 2 5 w1 hm (HL.out.below (Nat.le_refl _) hb) (by show 2 ≤ _; decide) (irc (by decide)))
  have HPE := Lib.hid' (fun q' => a_plan (a0, c0) q' d hd)
  have HB1 := Lib.hid' (etMfs.built1 (mfV aM0 a0 c0) rfl (by decide))
  have hm3 := msAt_new1 w3 (aM0, a0, c0) hp3 a_ok0
  have hA : Below w3.heap.size w3 (w3.alloc (.cells (mfV aM0 a0 c0).toArray 48)) := (Below.refl _ w3).alloc (Nat.le_refl _) _
  have hp4 : PtsAt ((w3.alloc (.cells (mfV aM0 a0 c0).toArray 48)).alloc (.cells #[.int .i64 3, .int .i64 4, .int .i64 1, .int .u8 0, .int .u8 0, .int .u8 0, .int .u8 0, .int .u8 0, .int .u8 0, .int .u8 0, .int .u8 0, .int .u8 0, .int .u8 0, .int .u8 0, .int .u8 0, .int .u8 0, .int .u8 0, .int .u8 0, .int .u8 0, .int .u8 0, .int .u8 0, .int .u8 0, .int .u8 0, .int .u8 0, .int .u8 0, .int .u8 0, .int .u8 0, .int .u8 0, .int .u8 0, .int .u8 0, .int .u8 0, .int .u8 0, .int .u8 0, .int .u8 0, .int .u8 0] 53)) (some ⟨w3.heap.size + 1, 0, none⟩) 1 [aP1] := by
    have := ptsAt_new (w3.alloc (.cells (mfV aM0 a0 c0).toArray 48)) [aP1] (by decide)
    rw [show (w3.alloc (.cells (mfV aM0 a0 c0).toArray 48)).heap.size = w3.heap.size + 1 by simp] at this
    exact this
  have hm4 : MsAt ((w3.alloc (.cells (mfV aM0 a0 c0).toArray 48)).alloc (.cells #[.int .i64 3, .int .i64 4, .int .i64 1, .int .u8 0, .int .u8 0, .int .u8 0, .int .u8 0, .int .u8 0, .int .u8 0, .int .u8 0, .int .u8 0, .int .u8 0, .int .u8 0, .int .u8 0, .int .u8 0, .int .u8 0, .int .u8 0, .int .u8 0, .int .u8 0, .int .u8 0, .int .u8 0, .int .u8 0, .int .u8 0, .int .u8 0, .int .u8 0, .int .u8 0, .int .u8 0, .int .u8 0, .int .u8 0, .int .u8 0, .int .u8 0, .int .u8 0, .int .u8 0, .int .u8 0, .int .u8 0] 53)) (some ⟨w3.heap.size, 0, none⟩) 1 [(aM0, a0, c0)] := hm3.below (Nat.le_refl _) ((Below.refl _ _).alloc (Nat.le_refl _) _)
  have H4 := (H3.below hA).allocX (.cells #[.int .i64 3, .int .i64 4, .int .i64 1, .int .u8 0, .int .u8 0, .int .u8 0, .int .u8 0, .int .u8 0, .int .u8 0, .int .u8 0, .int .u8 0, .int .u8 0, .int .u8 0, .int .u8 0, .int .u8 0, .int .u8 0, .int .u8 0, .int .u8 0, .int .u8 0, .int .u8 0, .int .u8 0, .int .u8 0, .int .u8 0, .int .u8 0, .int .u8 0, .int .u8 0, .int .u8 0, .int .u8 0, .int .u8 0, .int .u8 0, .int .u8 0, .int .u8 0, .int .u8 0, .int .u8 0, .int .u8 0] 53)
  have hp3' : PtsAt ((w3.alloc (.cells (mfV aM0 a0 c0).toArray 48)).alloc (.cells #[.int .i64 3, .int .i64 4, .int .i64 1, .int .u8 0, .int .u8 0, .int .u8 0, .int .u8 0, .int .u8 0, .int .u8 0, .int .u8 0, .int .u8 0, .int .u8 0, .int .u8 0, .int .u8 0, .int .u8 0, .int .u8 0, .int .u8 0, .int .u8 0, .int .u8 0, .int .u8 0, .int .u8 0, .int .u8 0, .int .u8 0, .int .u8 0, .int .u8 0, .int .u8 0, .int .u8 0, .int .u8 0, .int .u8 0, .int .u8 0, .int .u8 0, .int .u8 0, .int .u8 0, .int .u8 0, .int .u8 0] 53)) a0 c0 aM0.ps := (hp3.below (Nat.le_refl _) hA).below (Nat.le_refl _) ((Below.refl _ _).alloc (Nat.le_refl _) _)
  have HN1' := Lib.hid' (HN1.out _ _ _ hm4 hp4 H4.toBelow)
  have HH := Lib.hid' (And.intro H4 hp3')
  clear HN1 hm3 hm4 hp4 hA hp3 H4 hp3'
  generalize hY0 : mfV aM0 a0 c0 = Y0 at *
  have HY0 := Lib.hid' hY0
  have hY37 : Y0.length = 37 := by rw [← hY0]; rfl
  have hz0 : (Tryz.prog.info? 48).map (·.size) = some Y0.length := by rw [hY37]; exact mf_size
  clear hY0
  go_upto_region 3 with (first | (refine Sep.loadB H3 0 rfl rfl 48 (.tmp 1) rfl rfl _ Tryz.underlying48 rfl hz0 ?_) | (refine wpList_bs rfl 22 48 1 #[(0, .tmp 14)] rfl w3.heap.size rfl Tryz.underlying22 Y0.toArray [(0, .agg Y0.toArray)] (by kernel_rfl) HB1.out ?_) | (go_at_call 13; refine HN1'.out.mono ?_; rintro e w5 ⟨a1, c1, rfl, hp5, hb5⟩; have H5 : Sep w NoF [.box w5.heap.size zeroMV 48, .box N1 Y0 48] (w5.alloc (.cells #[.int .i64 0, .int .i64 0, .int .i64 0, .int .i64 0, .int .u8 0, .int .u8 0, .int .u8 0, .int .u8 0, .int .u8 0, .int .u8 0, .int .u8 0, .int .u8 0, .int .u8 0, .int .u8 0, .int .u8 0, .int .u8 0, .int .u8 0, .int .u8 0, .int .u8 0, .int .u8 0, .int .u8 0, .int .u8 0, .int .u8 0, .int .u8 0, .int .u8 0, .int .u8 0, .int .u8 0, .int .u8 0, .int .u8 0, .int .u8 0, .int .u8 0, .int .u8 0, .int .u8 0, .int .u8 0, .int .u8 0, .int .u8 0, .slice none 0 0] 48)) := (HH.out.1.below hb5).allocAt w5.heap.size zeroMV 48 rfl) | (refine Sep.storeB H5 0 rfl rfl 48 (.tmp 3) (.tmp 19) rfl (mfV (aM1 d) a1 c1) rfl rfl (by rw [mfV_len (a_ok1 d hd32)]; exact mf_size) (by rw [mfV_len (a_ok1 d hd32)]; rfl) (List.all_eq_true.2 mfV_one) ?_))
  have H6 := H5.setRow 0 rfl (mfV (aM1 d) a1 c1)
  have HWA : Below w5.heap.size w5 ((w5.alloc (.cells #[.int .i64 0, .int .i64 0, .int .i64 0, .int .i64 0, .int .u8 0, .int .u8 0, .int .u8 0, .int .u8 0, .int .u8 0, .int .u8 0, .int .u8 0, .int .u8 0, .int .u8 0, .int .u8 0, .int .u8 0, .int .u8 0, .int .u8 0, .int .u8 0, .int .u8 0, .int .u8 0, .int .u8 0, .int .u8 0, .int .u8 0, .int .u8 0, .int .u8 0, .int .u8 0, .int .u8 0, .int .u8 0, .int .u8 0, .int .u8 0, .int .u8 0, .int .u8 0, .int .u8 0, .int .u8 0, .int .u8 0, .int .u8 0, .slice none 0 0] 48)).setRow w5.heap.size (mfV (aM1 d) a1 c1).toArray) := (((Sep.start w5).allocAt w5.heap.size zeroMV 48 rfl).setRow 0 rfl (mfV (aM1 d) a1 c1)).toBelow
  have hq0 : PtsAt ((w5.alloc (.cells #[.int .i64 0, .int .i64 0, .int .i64 0, .int .i64 0, .int .u8 0, .int .u8 0, .int .u8 0, .int .u8 0, .int .u8 0, .int .u8 0, .int .u8 0, .int .u8 0, .int .u8 0, .int .u8 0, .int .u8 0, .int .u8 0, .int .u8 0, .int .u8 0, .int .u8 0, .int .u8 0, .int .u8 0, .int .u8 0, .int .u8 0, .int .u8 0, .int .u8 0, .int .u8 0, .int .u8 0, .int .u8 0, .int .u8 0, .int .u8 0, .int .u8 0, .int .u8 0, .int .u8 0, .int .u8 0, .int .u8 0, .int .u8 0, .slice none 0 0] 48)).setRow w5.heap.size (mfV (aM1 d) a1 c1).toArray) a0 c0 aM0.ps := (HH.out.2.below (Nat.le_refl _) hb5).below (Nat.le_refl _) HWA
  have hq1 : PtsAt ((w5.alloc (.cells #[.int .i64 0, .int .i64 0, .int .i64 0, .int .i64 0, .int .u8 0, .int .u8 0, .int .u8 0, .int .u8 0, .int .u8 0, .int .u8 0, .int .u8 0, .int .u8 0, .int .u8 0, .int .u8 0, .int .u8 0, .int .u8 0, .int .u8 0, .int .u8 0, .int .u8 0, .int .u8 0, .int .u8 0, .int .u8 0, .int .u8 0, .int .u8 0, .int .u8 0, .int .u8 0, .int .u8 0, .int .u8 0, .int .u8 0, .int .u8 0, .int .u8 0, .int .u8 0, .int .u8 0, .int .u8 0, .int .u8 0, .int .u8 0, .slice none 0 0] 48)).setRow w5.heap.size (mfV (aM1 d) a1 c1).toArray) a1 c1 (aM1 d).ps := hp5.below (Nat.le_refl _) HWA
  generalize (w5.alloc (.cells #[.int .i64 0, .int .i64 0, .int .i64 0, .int .i64 0, .int .u8 0, .int .u8 0, .int .u8 0, .int .u8 0, .int .u8 0, .int .u8 0, .int .u8 0, .int .u8 0, .int .u8 0, .int .u8 0, .int .u8 0, .int .u8 0, .int .u8 0, .int .u8 0, .int .u8 0, .int .u8 0, .int .u8 0, .int .u8 0, .int .u8 0, .int .u8 0, .int .u8 0, .int .u8 0, .int .u8 0, .int .u8 0, .int .u8 0, .int .u8 0, .int .u8 0, .int .u8 0, .int .u8 0, .int .u8 0, .int .u8 0, .int .u8 0, .slice none 0 0] 48)).setRow w5.heap.size (mfV (aM1 d) a1 c1).toArray = w6 at *
  generalize w5.heap.size = N3 at *
  have hm7 := msAt_new2 w6 (aM0, a0, c0) (aM1 d, a1, c1) hq0 a_ok0 hq1 (a_ok1 d hd32)
  have hY1l : (mfV (aM1 d) a1 c1).length = 37 := mfV_len (a_ok1 d hd32) a1 c1
  have hz1 : (Tryz.prog.info? 48).map (·.size) = some (mfV (aM1 d) a1 c1).length := by rw [hY1l]; exact mf_size
  have HB2 := Lib.hid' (etMfs.built2 Y0 (mfV (aM1 d) a1 c1) hY37 hY1l (by decide))
  have hm8 : MsAt (w6.alloc (.cells (Y0 ++ mfV (aM1 d) a1 c1).toArray 48)) (some ⟨w6.heap.size, 0, none⟩) 2 [(aM0, a0, c0), (aM1 d, a1, c1)] := by rw [← HY0.out]; exact hm7
  have H7 := H6.below ((Below.refl w6.heap.size w6).alloc (Nat.le_refl _) (.cells (Y0 ++ mfV (aM1 d) a1 c1).toArray 48))
  have hpl7 := HPL.out (a1, c1) _ _ hm8 H7.toBelow
  rw [HPE.out] at hpl7
  have HPL7 := Lib.hid' hpl7
  have HL7 := Lib.hid' H7
  clear hm7 hm8 hpl7 HPL HPE HN1' HH hq0 hq1 hp5 hb5 HWA H5 H3 H7
  generalize mfV (aM1 d) a1 c1 = Y1 at *
  have hz2 : (Tryz.prog.info? 27).map (·.size) = some (plV 5 0 1 none 2 0).length := pl_size
  go_upto_region 4 with (first | (refine Sep.loadB H6 1 rfl rfl 48 (.tmp 1) rfl rfl _ Tryz.underlying48 rfl hz0 ?_) | (refine Sep.loadB H6 0 rfl rfl 48 (.tmp 3) rfl rfl _ Tryz.underlying48 rfl hz1 ?_) | (refine wpList_bs rfl 22 48 2 #[(0, .tmp 22), (1, .tmp 23)] rfl w6.heap.size rfl Tryz.underlying22 (Y0 ++ Y1).toArray [(0, .agg Y0.toArray), (1, .agg Y1.toArray)] (by kernel_rfl) HB2.out ?_) | (go_at_call 6; refine HPL7.out.mono ?_; rintro e w8 ⟨pa, pc, rfl, hit, hb8⟩; have H8 : Sep w NoF [.box w8.heap.size plZ 27] (w8.alloc (.cells #[.int .i64 0, .int .i64 0, .int .i64 0, .slice none 0 0] 27)) := ((((HL7.out.below hb8).drop 0).drop 0)).allocAt w8.heap.size plZ 27 rfl) | (refine Sep.storeB H8 0 rfl rfl 27 (.tmp 5) (.tmp 26) rfl (plV 5 0 1 pa 2 pc) rfl rfl hz2 rfl rfl ?_))
  have H9 := H8.setRow 0 rfl (plV 5 0 1 pa 2 pc)
  have hb9 : Below w8.heap.size w8 ((w8.alloc (.cells #[.int .i64 0, .int .i64 0, .int .i64 0, .slice none 0 0] 27)).setRow w8.heap.size (plV 5 0 1 pa 2 pc).toArray) := (((Sep.start w8).allocAt w8.heap.size plZ 27 rfl).setRow 0 rfl (plV 5 0 1 pa 2 pc)).toBelow
  have hit9 : SlV ((w8.alloc (.cells #[.int .i64 0, .int .i64 0, .int .i64 0, .slice none 0 0] 27)).setRow w8.heap.size (plV 5 0 1 pa 2 pc).toArray) (.slice pa 2 pc) 2 ([(⟨0, 0, 1, 3⟩ : It), ⟨1, 0, 3, 5⟩].flatMap itV) := hit.below (Nat.le_refl _) hb9
  generalize (w8.alloc (.cells #[.int .i64 0, .int .i64 0, .int .i64 0, .slice none 0 0] 27)).setRow w8.heap.size (plV 5 0 1 pa 2 pc).toArray = w9 at *
  generalize w8.heap.size = N5 at *
  clear H8 hb9 hit HPL7 HB1 HB2 HL7 H6 hb8
  obtain ⟨b, off, rfl, hbb, hrg0⟩ := SlV.row (f := itV) (s := 4) (X := [(⟨0, 0, 1, 3⟩ : It), ⟨1, 0, 3, 5⟩]) (fun _ => rfl) (by decide) hit9 (k := 0) (by decide)
  obtain ⟨b', off', he, _, hrg1⟩ := SlV.row (f := itV) (s := 4) (X := [(⟨0, 0, 1, 3⟩ : It), ⟨1, 0, 3, 5⟩]) (fun _ => rfl) (by decide) hit9 (k := 1) (by decide)
  obtain ⟨rfl, rfl⟩ : b = b' ∧ off = off' := by simpa using he
  have HG0 : w9.rangeAt b off (itV ⟨0, 0, 1, 3⟩) := fun j v hv => by have := hrg0 j v hv; simpa using this
  have HG1 : w9.rangeAt b (off + 4) (itV ⟨1, 0, 3, 5⟩) := fun j v hv => by have := hrg1 j v hv; simpa using this
  have HSZ := psize_any 5 0 1 (some ⟨b, off, none⟩) pc [⟨0, 0, 1, 3⟩, ⟨1, 0, 3, 5⟩] w9 hit9 (by intro x hx; simp only [List.mem_cons, List.not_mem_nil, or_false] at hx; rcases hx with rfl | rfl <;> decide) (by decide)
  rw [show sizeI [(⟨0, 0, 1, 3⟩ : It), ⟨1, 0, 3, 5⟩] = 4 from rfl] at HSZ
  have HZ9 := Lib.hid' HSZ
  have HH9 := Lib.hid' (And.intro HG0 HG1)
  have HQ0 : ∀ wq : World, (Op.equalIn 10000 56 (.agg (itV ⟨0, 0, 1, 3⟩).toArray) (.agg #[.int .i64 0, .int .i64 0, .int .i64 1, .int .i64 3])).run Tryz.prog wq = .ok true wq := fun wq => by kernel_rfl
  have HQ1 : ∀ wq : World, (Op.equalIn 10000 56 (.agg (itV ⟨1, 0, 3, 5⟩).toArray) (.agg #[.int .i64 1, .int .i64 0, .int .i64 3, .int .i64 5])).run Tryz.prog wq = .ok true wq := fun wq => by kernel_rfl
  have hzp : (Tryz.prog.info? 27).map (·.size) = some (plV 5 0 1 (some ⟨b, off, none⟩) 2 pc).length := pl_size
  have hzi0 : (Tryz.prog.info? 56).map (·.size) = some (itV ⟨0, 0, 1, 3⟩).length := it_size
  have hzi1 : (Tryz.prog.info? 56).map (·.size) = some (itV ⟨1, 0, 3, 5⟩).length := it_size
  have hbx := (H9.box 0 rfl).range
  have he0 := errV_0
  clear hrg0 hrg1 he HSZ HG0 HG1 hit9
  go_wp2_with (first | (refine wpList_load_atG hbx (by kernel_rfl) 27 (.tmp 5) rfl rfl _ Tryz.underlying27 rfl hzp ?_) | (go_at_call 14; refine HZ9.out.mono ?_; rintro e w10 ⟨rfl, hb10⟩; have H10 := H9.below hb10; have z3 := H10.cell 0 rfl 3 (v := .slice (some ⟨b, off, none⟩) 2 pc) rfl; have G0 := World.rangeAt.below HH9.out.1 hb10; have G1 := World.rangeAt.below HH9.out.2 hb10) | (refine wpList_load_atG G0 (by kernel_rfl) 56 (.tmp 52) rfl rfl _ Tryz.underlying56 rfl hzi0 ?_) | (refine wpList_load_atG G1 (by kernel_rfl) 56 (.tmp 60) rfl rfl _ Tryz.underlying56 rfl hzi1 ?_))
  go_ret
  exact ⟨rfl, H10.toBelow⟩

end Go.Proofs.YtinbcehlpfnlaaaGreatDoor

namespace Go.Proofs.YtinbcehlpfnlaaaGreatDoor
open Go.RowKit
set_option linter.unusedSimpArgs false
set_option linter.unusedVariables false
set_option maxRecDepth 100000

def bM0 : Mf := ⟨0, 5, 5, 1, zero32B, []⟩
theorem b_next0 : nextM [] 5 1 [] = (0, bM0) := by kernel_rfl
theorem b_ok0 : bM0.ok := ⟨irc (n := 0) (by decide), irc (n := 5) (by decide), irc (n := 5) (by decide), irc (n := 1) (by decide), rfl, fun y hy => by simp [bM0] at hy⟩
theorem b_chk0 : bM0.check = 0 := by kernel_rfl
theorem b_fol0 : folB [] bM0 = true := by kernel_rfl
theorem b_chk (q : Option Addr × Nat) : chkM [(bM0, q)] = (1, 0) := by
  unfold chkM
  exact chk_of_good (.cons b_chk0 b_fol0 (.nil _))

end Go.Proofs.YtinbcehlpfnlaaaGreatDoor
