/- Layer 16 (chain): the manifest that follows. -/
import Derived.Test.YtinbcehlpfnlaaaGreatDoorPlnA
import Derived.Great.Walk
import Derived.Deep.DeepCutAuto
import Derived.Deep.CutBlock
namespace Go.Proofs.YtinbcehlpfnlaaaGreatDoor
open Go.RowKit
set_option linter.unusedSimpArgs false
set_option linter.unusedVariables false
set_option maxRecDepth 100000

theorem Sep.storeStep {P : Program} {w0 w : World} {F : Nat → Prop} {L : List Asn} (H : Sep w0 F L w) (i : Nat) {N t : Nat} {R : List Value} (hi : L[i]? = some (.box N R t)) {ops : Array Oper} {o : Oper} {a : Act} {K : Act → World → Prop} {Q : Exit → Act → World → Prop} {Zq : Prop} (hgd : o.guard = none) (ty : TypeId) (x y : Operand)
    (ho : o.op = .store ty x y) (R' : List Value) (hx : a.eval x = .pointer (some ⟨N, 0, none⟩)) (hy : a.eval y = .agg R'.toArray) (hz : (P.info? ty).map (·.size) = some R'.length) (hl : R.length = R'.length) (h1 : R'.all (·.oneCell') = true)
    (h : K (a.put o.dst undef) (w.setRow N R'.toArray)) :
    if Region.wanted o (yielded ops a.tmps) = true then Oper.wp P o a w K Q else Zq := by
  have hw : Region.wanted o (yielded ops a.tmps) = true := by simp [Region.wanted, hgd]
  rw [if_pos hw]
  exact wp_store_row ty x y ho N R'.toArray hx hy t R.toArray (H.box i hi) (by rw [List.size_toArray]; exact hz) (by simpa using hl) (by simpa using h1) h
theorem yieldsIf_build {P : Program} {ops : Array Oper} {S : World → Prop} {op : Oper} {a : Act} (hw : Region.wanted op (yielded ops a.tmps) = true) (t : TypeId) (parts : Array (Nat × Operand)) (ho : op.op = .build t parts) (cells : Array Value)
    (hf : P.built t (parts.map fun (i, x) => (i, a.eval x)).toList = some cells) : YieldsIf P ops S op (.agg cells) a :=
  .inl ⟨hw, fun w _ => by unfold execOp; simp [ho, Sem.run_bind, run_build w t _ cells hf]⟩
theorem split32 {α : Type} {d : List α} (h : d.length = 32) : ∃ b0 b1 b2 b3 b4 b5 b6 b7 b8 b9 b10 b11 b12 b13 b14 b15 b16 b17 b18 b19 b20 b21 b22 b23 b24 b25 b26 b27 b28 b29 b30 b31 : α, d = [b0, b1, b2, b3, b4, b5, b6, b7, b8, b9, b10, b11, b12, b13, b14, b15, b16, b17, b18, b19, b20, b21, b22, b23, b24, b25, b26, b27, b28, b29, b30, b31] := by
  match d, h with
  | [b0, b1, b2, b3, b4, b5, b6, b7, b8, b9, b10, b11, b12, b13, b14, b15, b16, b17, b18, b19, b20, b21, b22, b23, b24, b25, b26, b27, b28, b29, b30, b31], _ => exact ⟨_, _, _, _, _, _, _, _, _, _, _, _, _, _, _, _, _, _, _, _, _, _, _, _, _, _, _, _, _, _, _, _, rfl⟩
theorem built_mf (n f t r : Int) (d : List UInt8) (h : d.length = 32) (a : Option Addr) (l c : Nat) :
    Tryz.prog.built 48 [(0, .int .i64 n), (1, .int .i64 f), (2, .int .i64 t), (3, .int .i64 r), (4, .agg (byteVs d).toArray), (5, .slice a l c)] = some ([Value.int .i64 n, Value.int .i64 f, Value.int .i64 t, Value.int .i64 r] ++ byteVs d ++ [Value.slice a l c]).toArray := by
  obtain ⟨b0, b1, b2, b3, b4, b5, b6, b7, b8, b9, b10, b11, b12, b13, b14, b15, b16, b17, b18, b19, b20, b21, b22, b23, b24, b25, b26, b27, b28, b29, b30, b31, rfl⟩ := split32 h
  kernel_rfl
theorem etParts : ElemT Tryz.prog 46 53 35 56 := ElemT.mk' (z := .agg #[.int .i64 0, .int .i64 0, .int .i64 0, .int .u8 0, .int .u8 0, .int .u8 0, .int .u8 0, .int .u8 0, .int .u8 0, .int .u8 0, .int .u8 0, .int .u8 0, .int .u8 0, .int .u8 0, .int .u8 0, .int .u8 0, .int .u8 0, .int .u8 0, .int .u8 0, .int .u8 0, .int .u8 0, .int .u8 0, .int .u8 0, .int .u8 0, .int .u8 0, .int .u8 0, .int .u8 0, .int .u8 0, .int .u8 0, .int .u8 0, .int .u8 0, .int .u8 0, .int .u8 0, .int .u8 0, .int .u8 0]) Tryz.underlying46 (by kernel_rfl) rfl (by decide) (by decide)
theorem ptsV_len {l : List Pt} (h : ∀ y ∈ l, y.ok) : (l.flatMap ptV).length = l.length * 35 := flat_in_len l (fun y hy => ptV_len (h y hy))
set_option maxHeartbeats 400000 in
theorem cloneP_any (a : Option Addr) (c : Nat) (l : List Pt) (w : World) (h : PtsAt w a c l) (ho : ∀ y ∈ l, y.ok) (hl : l.length ≤ 1073741824) :
    Calls Tryz.prog 25 #[.slice a l.length c] w (OwnR w.heap.size 53 35 l.length (l.flatMap ptV) w) := by
  have hh := h
  obtain ⟨a, cap, he, h1, h2, h0, h3⟩ := h
  cases he
  have hq := fun w n c => Lib.run_eql_slice_nil (P := Tryz.prog) w 46 53 a n c 0 0 Tryz.underlying46
  cases a with
  | none =>
    obtain rfl : c = 0 := h0 rfl
    have hl0 : l = [] := List.eq_nil_of_length_eq_zero (by omega)
    subst hl0
    clear h3 h1 h2 h0 hh
    go_enter Tryz.func25, Tryz.ntmps25
    go_wp2
    go_ret
    exact ⟨_, _, rfl, World.ownsRow_nil _ _ _ _, Below.refl _ _⟩
  | some p =>
    clear h3 h0
    have HH : Hid (PtsAt w (some p) c l) := Lib.hid' hh
    have HLN := Lib.hid' (ptsV_len ho)
    clear hh ho
    go_enter Tryz.func25, Tryz.ntmps25
    go_wp2_with (at_builtin; refine append_sl etParts rfl (.tmp 5) (.tmp 6) rfl w.heap.size 0 [] _ rfl ?own l.length (l.flatMap ptV) _ rfl ?src ?len ptsV_one ?cy ?base ?_)
    case own => exact own_empty _ _ _
    case src => exact SlV.below HH.out (Nat.le_refl _) ((Below.refl _ _).alloc (Nat.le_refl _) _)
    case len => exact HLN.out
    case cy => omega
    case base => simp
    intro a' c' w1 ho hf
    go_wp2
    go_ret
    refine ⟨a', c', by simp, by simpa using ho, ?_⟩
    exact ((Below.refl w.heap.size w).alloc (Nat.le_refl _) _).trans (hf.below (by simp) (fun k hk => by simp [Act.eval, Value.ownBlock] at hk; omega))

/-- the parts' cells, as they are summed -/
def sumW : Int → List Pt → Int
  | a, [] => a
  | a, p :: L => sumW (wrap64 (a + p.m)) L
theorem sumW_next {l : List Pt} {k : Nat} (hk : k < l.length) (a : Int) : sumW a (l.drop k) = sumW (wrap64 (a + l[k].m)) (l.drop (k + 1)) := by
  rw [List.drop_eq_getElem_cons hk]; rfl
theorem wrap64_ir (x : Int) : IR (wrap64 x) := by unfold IR wrap64; omega
theorem sumW_ir : ∀ {l : List Pt} {a : Int}, IR a → IR (sumW a l)
  | [], _, h => h
  | y :: l, a, _ => sumW_ir (l := l) (wrap64_ir (a + y.m))
def nextX (X : List MfP) (f r : Int) (ps : List Pt) : Mf := ⟨(X.length : Int), f, sumW f ps, r, headD X, ps⟩
def nextM (X : List MfP) (f r : Int) (ps : List Pt) : Nat × Mf :=
  if (chkM X).2 ≠ 0 then ((chkM X).2, zeroM) else if X.length ≠ 0 ∧ (f ≠ (lastM X).1.t ∨ r < (lastM X).1.r) then (12, zeroM)
  else if (nextX X f r ps).check ≠ 0 then ((nextX X f r ps).check, zeroM) else (0, nextX X f r ps)
def NextR (q : Nat × Mf) (w : World) (en : Ending) (w' : World) : Prop :=
  ∃ a c, en = .returned (.tuple #[.agg (mfV q.2 a c).toArray, errV q.1]) ∧ PtsAt w' a c q.2.ps ∧ Below w.heap.size w w'
theorem good_last : ∀ {L A : List MfP}, Good A L → L.length ≠ 0 → (lastM L).1.check = 0
  | [], _, _, h => absurd rfl h
  | x :: L, A, h, _ => by
    have := good_each h (lastM (x :: L)) (lastM_mem x L)
    exact this
theorem head_0 {X : List MfP} (h : (chkM X).2 = 0) : headN X = 0 := by
  unfold headN
  by_cases h0 : X.length = 0
  · rw [if_pos h0]
  · rw [if_neg h0]; exact good_last (good_of_chk (A := []) (L := X) h) h0
theorem emptyPts (w : World) : PtsAt w none 0 [] := SlV.empty _ _ _ (Nat.zero_le _) (fun _ => rfl)
set_option maxHeartbeats 16000000 in
theorem cnext_any (X : List MfP) (a : Option Addr) (c : Nat) (f r : Int) (ps : List Pt) (pa : Option Addr) (pc : Nat) (w : World) (hX : MsAt w a c X) (hP : PtsAt w pa pc ps) (hpo : ∀ y ∈ ps, y.ok) (hL : Laid w) (hf : IR f) (hr : IR r) (hpl : ps.length ≤ 1073741824) :
    Calls Tryz.prog 13 #[.slice a X.length c, .int .i64 f, .int .i64 r, .slice pa ps.length pc] w (NextR (nextM X f r ps) w) := by
  have HQ := Lib.hid' (show nextM X f r ps = if (chkM X).2 ≠ 0 then ((chkM X).2, zeroM) else if X.length ≠ 0 ∧ (f ≠ (lastM X).1.t ∨ r < (lastM X).1.r) then (12, zeroM) else if (nextX X f r ps).check ≠ 0 then ((nextX X f r ps).check, zeroM) else (0, nextX X f r ps) from rfl)
  have hlen := hX.len
  have HCK := Lib.hid' (fun w1 (H : Below w.heap.size w w1) => ccheck_any X a c w1 (hX.below (Nat.le_refl _) H) (hL.below (Nat.le_refl _) H))
  have HHD := Lib.hid' (fun w1 (H : Below w.heap.size w w1) => head_any X a c w1 (hX.below (Nat.le_refl _) H) (hL.below (Nat.le_refl _) H))
  have HEN := Lib.hid' (fun w1 (H : Below w.heap.size w w1) => end_any X a c w1 (hX.below (Nat.le_refl _) H))
  have HMK := Lib.hid' (fun w1 (H : Below w.heap.size w w1) => mark_any X a c w1 (hX.below (Nat.le_refl _) H))
  have HCL := Lib.hid' (fun w1 (H : Below w.heap.size w w1) => cloneP_any pa pc ps w1 (hP.below (Nat.le_refl _) H) hpo hpl)
  have HPO := Lib.hid' hpo
  have HP := Lib.hid' hP
  have HH0 := Lib.hid' (head_0 (X := X))
  have hD32 := headD_len X
  have hmz : (Tryz.prog.info? 48).map (·.size) = some zeroMV.length := by rw [show zeroMV.length = 37 from rfl]; exact mf_size
  have HOK := Lib.hid' (show (nextX X f r ps).ok from ⟨⟨by show _ ≤ (X.length : Int); omega, by show (X.length : Int) ≤ _; omega⟩, hf, sumW_ir hf, hr, headD_len X, hpo⟩)
  have HNX := Lib.hid' (show nextX X f r ps = ⟨(X.length : Int), f, sumW f ps, r, headD X, ps⟩ from rfl)
  clear hX hP hL hpo
  generalize (chkM X).2 = ck at *
  generalize (chkM X).1 = cp at *
  generalize headN X = hn at *
  generalize hDD : headD X = DD at *
  clear hDD
  generalize (lastM X).1.t = lt at *
  generalize (lastM X).1.r = lr at *
  generalize nextX X f r ps = NX at *
  go_enter Tryz.func13, Tryz.ntmps13
  go_upto_region 1 with fail
  have H0 : Sep w NoF [.box w.heap.size zeroMV 48] (w.alloc (.cells #[.int .i64 0, .int .i64 0, .int .i64 0, .int .i64 0, .int .u8 0, .int .u8 0, .int .u8 0, .int .u8 0, .int .u8 0, .int .u8 0, .int .u8 0, .int .u8 0, .int .u8 0, .int .u8 0, .int .u8 0, .int .u8 0, .int .u8 0, .int .u8 0, .int .u8 0, .int .u8 0, .int .u8 0, .int .u8 0, .int .u8 0, .int .u8 0, .int .u8 0, .int .u8 0, .int .u8 0, .int .u8 0, .int .u8 0, .int .u8 0, .int .u8 0, .int .u8 0, .int .u8 0, .int .u8 0, .int .u8 0, .int .u8 0, .slice none 0 0] 48)) := (Sep.start w).allocAt w.heap.size zeroMV 48 rfl
  generalize w.alloc (.cells #[.int .i64 0, .int .i64 0, .int .i64 0, .int .i64 0, .int .u8 0, .int .u8 0, .int .u8 0, .int .u8 0, .int .u8 0, .int .u8 0, .int .u8 0, .int .u8 0, .int .u8 0, .int .u8 0, .int .u8 0, .int .u8 0, .int .u8 0, .int .u8 0, .int .u8 0, .int .u8 0, .int .u8 0, .int .u8 0, .int .u8 0, .int .u8 0, .int .u8 0, .int .u8 0, .int .u8 0, .int .u8 0, .int .u8 0, .int .u8 0, .int .u8 0, .int .u8 0, .int .u8 0, .int .u8 0, .int .u8 0, .int .u8 0, .slice none 0 0] 48) = w1 at *
  have HCK1 := Lib.hid' (HCK.out w1 H0.toBelow)
  clear HCK
  by_cases hck : ck = 0
  case neg =>
    have HR := Lib.hid' (HQ.out.trans (if_pos hck))
    rw [errV_pos hck] at HCK1
    have HE := Lib.hid' (errV_pos hck)
    clear hck HQ
    go_upto_region 3 with (go_at_call 15; refine HCK1.out.mono ?_; rintro e w2 ⟨rfl, hb⟩; have H2 := H0.below hb)
    go_wp2_with (refine Sep.storeB H2 0 rfl rfl 48 (.tmp 8) (.tmp 25) rfl zeroMV rfl rfl hmz rfl rfl ?_)
    have H4 := H2.setRow 0 rfl zeroMV
    refine bodyPost_ret (box_result2 Tryz.results13 (H4.box 0 rfl) _ rfl (.iface 59 (.int .i64 (ck : Nat))) rfl _ Tryz.underlying48 rfl hmz) rfl ?_
    exact ⟨none, 0, by rw [HR.out, HE.out]; rfl, by rw [HR.out]; exact emptyPts _, H4.toBelow⟩
  replace HQ := Lib.hid' (HQ.out.trans (if_neg (by simpa using hck)))
  have hh0 := HH0.out hck
  subst hh0
  rw [hck, errV_0] at HCK1
  rw [errV_0] at HHD
  clear hck HH0
  go_upto_region 4 with (go_at_call 15; refine HCK1.out.mono ?_; rintro e w2 ⟨rfl, hb⟩; have H2 := H0.below hb)
  clear HCK1 H0 hb
  have HEN2 := Lib.hid' (HEN.out w2 H2.toBelow)
  have HMK2 := Lib.hid' (fun w3 (hb : Below w2.heap.size w2 w3) => HMK.out w3 (H2.below hb).toBelow)
  clear HEN HMK
  go_cut [41] (fun v41 wc => ∃ b : Bool, v41 = .bool b ∧ Hid (Sep w NoF [.box w.heap.size zeroMV 48] wc) ∧ Hid (nextM X f r ps = if b = true then (12, zeroM) else if NX.check ≠ 0 then (NX.check, zeroM) else (0, NX)))
  case first =>
    by_cases h0 : X.length = 0
    · have HR := Lib.hid' (HQ.out.trans (if_neg (fun h => h.1 h0)))
      have hx0 : ¬ (0 : Int) < (X.length : Int) := by omega
      clear HQ h0
      go_wp2_with fail
      go_meet
      exact ⟨false, rfl, Lib.hid' H2, HR⟩
    have hx0 : (0 : Int) < (X.length : Int) := by omega
    cases hft : (f != lt) with
    | true =>
      have HR := Lib.hid' (HQ.out.trans (if_pos ⟨h0, .inl (by simpa using hft)⟩))
      clear HQ h0
      go_wp2_with (first | (go_at_call 17; refine HEN2.out.mono ?_; rintro e w3 ⟨rfl, hb⟩; have H3 := H2.below hb))
      go_meet
      exact ⟨true, rfl, Lib.hid' H3, HR⟩
    | false =>
      by_cases hrl : r < lr
      · have HR := Lib.hid' (HQ.out.trans (if_pos ⟨h0, .inr hrl⟩))
        clear HQ h0
        go_wp2_with (first | (go_at_call 17; refine HEN2.out.mono ?_; rintro e w3 ⟨rfl, hb⟩; have H3 := H2.below hb; have HMK3 := Lib.hid' (HMK2.out w3 hb)) | (go_at_call 23; refine HMK3.out.mono ?_; rintro e w4 ⟨rfl, hb4⟩; have H5 := H3.below hb4))
        go_meet
        exact ⟨true, rfl, Lib.hid' H5, HR⟩
      · have HR := Lib.hid' (HQ.out.trans (if_neg (fun h => h.2.elim (by simpa using hft) hrl)))
        clear HQ h0
        go_wp2_with (first | (go_at_call 17; refine HEN2.out.mono ?_; rintro e w3 ⟨rfl, hb⟩; have H3 := H2.below hb; have HMK3 := Lib.hid' (HMK2.out w3 hb)) | (go_at_call 23; refine HMK3.out.mono ?_; rintro e w4 ⟨rfl, hb4⟩; have H5 := H3.below hb4))
        go_meet
        exact ⟨false, by first | rfl | simp [hrl], Lib.hid' H5, HR⟩
  case rest =>
  obtain ⟨b, rfl, HS, HR⟩ := hcut
  clear HQ HEN2 HMK2 H2
  cases b with
  | true =>
    have HR1 := Lib.hid' (HR.out.trans (if_pos rfl))
    have H2 := HS.out
    go_upto_region 5 with fail
    go_wp2_with (refine Sep.storeB H2 0 rfl rfl 48 (.tmp 8) (.tmp 42) rfl zeroMV rfl rfl hmz rfl rfl ?_)
    have H4 := H2.setRow 0 rfl zeroMV
    refine bodyPost_ret (box_result2 Tryz.results13 (H4.box 0 rfl) _ rfl (.iface 59 (.int .i64 12)) rfl _ Tryz.underlying48 rfl hmz) rfl ?_
    exact ⟨none, 0, by rw [HR1.out]; rfl, by rw [HR1.out]; exact emptyPts _, H4.toBelow⟩
  | false =>
  replace HR := Lib.hid' (HR.out.trans (if_neg (by decide)))
  have H2 := HS.out
  have HHD2 := Lib.hid' (HHD.out wc H2.toBelow)
  have hz : (Tryz.prog.info? 45).map (·.size) = some (byteVs DD).length := by rw [byteVs_length, hD32]; exact dig_size
  have hz2 : zeroD.length = (byteVs DD).length := by rw [byteVs_length, hD32]; rfl
  have h1 : (byteVs DD).all (·.oneCell') = true := List.all_eq_true.2 (byteVs_one _)
  have HBM := Lib.hid' (fun (xl : Nat) ca cc => built_mf (xl : Int) f f r DD hD32 ca ps.length cc)
  have hmvl : ∀ (nn ff tt rr : Int) ca cc, (mfV ⟨nn, ff, tt, rr, DD, ps⟩ ca cc).length = 37 := fun _ _ _ _ _ _ => by simp [mfV, byteVs_length, hD32]
  have HML := Lib.hid' hmvl
  clear hmvl
  go_upto_region 9 with (first | (go_at_call 24; refine HHD2.out.mono ?_; rintro e w3 ⟨rfl, hb⟩; have H3 : Sep w NoF [.box w3.heap.size zeroD 45, .box w.heap.size zeroMV 48] (w3.alloc (.cells #[.int .u8 0, .int .u8 0, .int .u8 0, .int .u8 0, .int .u8 0, .int .u8 0, .int .u8 0, .int .u8 0, .int .u8 0, .int .u8 0, .int .u8 0, .int .u8 0, .int .u8 0, .int .u8 0, .int .u8 0, .int .u8 0, .int .u8 0, .int .u8 0, .int .u8 0, .int .u8 0, .int .u8 0, .int .u8 0, .int .u8 0, .int .u8 0, .int .u8 0, .int .u8 0, .int .u8 0, .int .u8 0, .int .u8 0, .int .u8 0, .int .u8 0, .int .u8 0] 45)) := (H2.below hb).allocAt w3.heap.size zeroD 45 rfl) | (refine Sep.storeB H3 0 rfl rfl 45 (.tmp 12) (.tmp 47) rfl (byteVs DD) rfl rfl hz hz2 h1 ?_))
  have H5 := H3.setRow 0 rfl (byteVs DD)
  generalize (w3.alloc (.cells #[.int .u8 0, .int .u8 0, .int .u8 0, .int .u8 0, .int .u8 0, .int .u8 0, .int .u8 0, .int .u8 0, .int .u8 0, .int .u8 0, .int .u8 0, .int .u8 0, .int .u8 0, .int .u8 0, .int .u8 0, .int .u8 0, .int .u8 0, .int .u8 0, .int .u8 0, .int .u8 0, .int .u8 0, .int .u8 0, .int .u8 0, .int .u8 0, .int .u8 0, .int .u8 0, .int .u8 0, .int .u8 0, .int .u8 0, .int .u8 0, .int .u8 0, .int .u8 0] 45)).setRow w3.heap.size (byteVs DD).toArray = w5 at *
  generalize w3.heap.size = N12 at *
  clear H3 H2 HS hb HHD2 HHD hz2 h1
  go_cut [14] (fun v14 wc => ∃ N14 ca cc, v14 = .pointer (some ⟨N14, 0, none⟩) ∧ Hid (Sep w NoF [.box N14 (mfV ⟨(X.length : Int), f, f, r, DD, ps⟩ ca cc) 48, .row 53 35 (.slice ca ps.length cc) ps.length (ps.flatMap ptV), .box w.heap.size zeroMV 48] wc))
  case first =>
    skip
    refine wp_region_held_drew (S := (fun w' => BoxW N12 (byteVs DD) 45 w')) (by kernel_rfl) (H5.box 0 rfl) (fun hH0 => ?_)
    refine wpAnyH_take (i := 0) (oi := _) (v := .slice a X.length c) rfl (by kernel_rfl) (by kernel_rfl) (by kernel_rfl) (fun _ _ _ h => h) (Or.inl ⟨by rfl, ?_⟩) hH0 ?_
    · intro w hSw; go_simp
    simp only [Act.put, List.getElem_toArray, List.getElem_cons_zero, List.getElem_cons_succ, List.setIfInBounds_toArray, List.set_cons_zero, List.set_cons_succ]
    refine wpAnyH_take (i := 1) (oi := _) (v := .int .i64 (X.length : Int)) rfl (by kernel_rfl) (by kernel_rfl) (by kernel_rfl) (fun _ _ _ h => h) (Or.inl ⟨by rfl, ?_⟩) hH0 ?_
    · intro w hSw; go_simp
    simp only [Act.put, List.getElem_toArray, List.getElem_cons_zero, List.getElem_cons_succ, List.setIfInBounds_toArray, List.set_cons_zero, List.set_cons_succ]
    refine wpAnyH_take (i := 2) (oi := _) (v := .int .i64 f) rfl (by kernel_rfl) (by kernel_rfl) (by kernel_rfl) (fun _ _ _ h => h) (Or.inl ⟨by rfl, ?_⟩) hH0 ?_
    · intro w hSw; go_simp
    simp only [Act.put, List.getElem_toArray, List.getElem_cons_zero, List.getElem_cons_succ, List.setIfInBounds_toArray, List.set_cons_zero, List.set_cons_succ]
    refine wpAnyH_take (i := 3) (oi := _) (v := .int .i64 f) rfl (by kernel_rfl) (by kernel_rfl) (by kernel_rfl) (fun _ _ _ h => h) (Or.inl ⟨by rfl, ?_⟩) hH0 ?_
    · intro w hSw; go_simp
    simp only [Act.put, List.getElem_toArray, List.getElem_cons_zero, List.getElem_cons_succ, List.setIfInBounds_toArray, List.set_cons_zero, List.set_cons_succ]
    refine wpAnyH_take (i := 4) (oi := _) (v := .int .i64 r) rfl (by kernel_rfl) (by kernel_rfl) (by kernel_rfl) (fun _ _ _ h => h) (Or.inl ⟨by rfl, ?_⟩) hH0 ?_
    · intro w hSw; go_simp
    simp only [Act.put, List.getElem_toArray, List.getElem_cons_zero, List.getElem_cons_succ, List.setIfInBounds_toArray, List.set_cons_zero, List.set_cons_succ]
    refine wpAnyH_take (i := 5) (oi := _) (v := .agg (byteVs DD).toArray) rfl (by kernel_rfl) (by kernel_rfl) (by kernel_rfl) (fun _ _ _ h => h) (yieldsIf_load_mid (by kernel_rfl) 45 (.tmp 12) rfl N12 0 rfl (byteVs DD) _ (fun wq hb => hb.range) Tryz.underlying45 rfl hz) hH0 ?_
    simp only [Act.put, List.getElem_toArray, List.getElem_cons_zero, List.getElem_cons_succ, List.setIfInBounds_toArray, List.set_cons_zero, List.set_cons_succ]
    refine wpAnyH_take (i := 6) (oi := _) (v := .slice pa ps.length pc) rfl (by kernel_rfl) (by kernel_rfl) (by kernel_rfl) (fun _ _ _ h => h) (Or.inl ⟨by rfl, ?_⟩) hH0 ?_
    · intro w hSw; go_simp
    simp only [Act.put, List.getElem_toArray, List.getElem_cons_zero, List.getElem_cons_succ, List.setIfInBounds_toArray, List.set_cons_zero, List.set_cons_succ]
    refine wpAnyH_ready (rs := [7, 9]) (by kernel_rfl) (by simp) (AllReadyH.cons (o := _) rfl (fun K hK => ?_) (AllReadyH.cons (o := _) rfl (fun K hK => ?_) AllReadyH.nil))
    · skip
      go_simp
      refine (HCL.out _ H5.drew.toBelow).mono ?_
      rintro en wx ⟨ca, cc, rfl, ho, hbx⟩
      have HX := H5.drew.belowRow hbx ho
      refine hK.out _ _ ?_ (fun hH1 => ?_)
      · exact HX.box 1 rfl
      clear hK K
      refine wpAnyH_take (i := 8) (oi := _) (v := .agg (mfV ⟨(X.length : Int), f, f, r, DD, ps⟩ ca cc).toArray) rfl (by kernel_rfl) (by kernel_rfl) (by kernel_rfl) (fun _ _ _ h => h) (yieldsIf_build (by kernel_rfl) 48 #[(0, .tmp 54), (1, .tmp 55), (2, .tmp 56), (3, .tmp 57), (4, .tmp 58), (5, .tmp 60)] rfl _ ((congrArg (Tryz.prog.built 48) (show _ = [(0, .int .i64 (X.length : Int)), (1, .int .i64 f), (2, .int .i64 f), (3, .int .i64 r), (4, .agg (byteVs DD).toArray), (5, .slice ca ps.length cc)] by kernel_rfl)).trans (HBM.out X.length ca cc))) hH1 ?_
      simp only [Act.put, List.getElem_toArray, List.getElem_cons_zero, List.getElem_cons_succ, List.setIfInBounds_toArray, List.set_cons_zero, List.set_cons_succ]
      refine wpAnyH_ready (rs := [9]) (by kernel_rfl) (by simp) (AllReadyH.cons (o := _) rfl (fun K hK => ?_) AllReadyH.nil)
      go_simp
      have HA : Sep w NoF [.box wx.heap.size zeroMV 48, .row 53 35 (.slice ca ps.length cc) ps.length (ps.flatMap ptV), .box N12 (byteVs DD) 45, .box w.heap.size zeroMV 48] (wx.alloc (.cells #[.int .i64 0, .int .i64 0, .int .i64 0, .int .i64 0, .int .u8 0, .int .u8 0, .int .u8 0, .int .u8 0, .int .u8 0, .int .u8 0, .int .u8 0, .int .u8 0, .int .u8 0, .int .u8 0, .int .u8 0, .int .u8 0, .int .u8 0, .int .u8 0, .int .u8 0, .int .u8 0, .int .u8 0, .int .u8 0, .int .u8 0, .int .u8 0, .int .u8 0, .int .u8 0, .int .u8 0, .int .u8 0, .int .u8 0, .int .u8 0, .int .u8 0, .int .u8 0, .int .u8 0, .int .u8 0, .int .u8 0, .int .u8 0, .slice none 0 0] 48)) := HX.allocAt wx.heap.size zeroMV 48 rfl
      refine hK.out _ _ ?_ (fun hH2 => ?_)
      · exact HA.box 2 rfl
      clear hK K
      refine wpAnyH_ready (rs := [10]) (by kernel_rfl) (by simp) (AllReadyH.cons (o := _) rfl (fun K hK => ?_) AllReadyH.nil)
      refine Sep.storeStep HA 0 rfl rfl 48 (.tmp 14) (.tmp 61) rfl (mfV ⟨(X.length : Int), f, f, r, DD, ps⟩ ca cc) rfl rfl (by rw [HML.out]; exact mf_size) (by rw [HML.out]; rfl) (List.all_eq_true.2 mfV_one) ?_
      have HZ := HA.setRow 0 rfl (mfV ⟨(X.length : Int), f, f, r, DD, ps⟩ ca cc)
      refine hK.out _ _ ?_ (fun hH3 => ?_)
      · exact HZ.box 2 rfl
      clear hK K
      refine wpAnyH_done (by kernel_rfl) ?_ _
      go_wp2_with fail
      go_meet
      exact ⟨wx.heap.size, ca, cc, rfl, Lib.hid' (HZ.drop 2)⟩
    · skip
      go_simp
      have HA : Sep w NoF [.box w5.heap.size zeroMV 48, .box N12 (byteVs DD) 45, .box w.heap.size zeroMV 48] ((w5.alloc (.cells #[.int .i64 0, .int .i64 0, .int .i64 0, .int .i64 0, .int .u8 0, .int .u8 0, .int .u8 0, .int .u8 0, .int .u8 0, .int .u8 0, .int .u8 0, .int .u8 0, .int .u8 0, .int .u8 0, .int .u8 0, .int .u8 0, .int .u8 0, .int .u8 0, .int .u8 0, .int .u8 0, .int .u8 0, .int .u8 0, .int .u8 0, .int .u8 0, .int .u8 0, .int .u8 0, .int .u8 0, .int .u8 0, .int .u8 0, .int .u8 0, .int .u8 0, .int .u8 0, .int .u8 0, .int .u8 0, .int .u8 0, .int .u8 0, .slice none 0 0] 48)).drew) := (H5.allocAt w5.heap.size zeroMV 48 rfl).drew
      refine hK.out _ _ ?_ (fun hH1 => ?_)
      · exact HA.box 1 rfl
      clear hK K
      refine wpAnyH_ready (rs := [7]) (by kernel_rfl) (by simp) (AllReadyH.cons (o := _) rfl (fun K hK => ?_) AllReadyH.nil)
      go_simp
      refine (HCL.out _ HA.toBelow).mono ?_
      rintro en wx ⟨ca, cc, rfl, ho, hbx⟩
      have HX := HA.belowRow hbx ho
      refine hK.out _ _ ?_ (fun hH2 => ?_)
      · exact HX.box 2 rfl
      clear hK K
      refine wpAnyH_take (i := 8) (oi := _) (v := .agg (mfV ⟨(X.length : Int), f, f, r, DD, ps⟩ ca cc).toArray) rfl (by kernel_rfl) (by kernel_rfl) (by kernel_rfl) (fun _ _ _ h => h) (yieldsIf_build (by kernel_rfl) 48 #[(0, .tmp 54), (1, .tmp 55), (2, .tmp 56), (3, .tmp 57), (4, .tmp 58), (5, .tmp 60)] rfl _ ((congrArg (Tryz.prog.built 48) (show _ = [(0, .int .i64 (X.length : Int)), (1, .int .i64 f), (2, .int .i64 f), (3, .int .i64 r), (4, .agg (byteVs DD).toArray), (5, .slice ca ps.length cc)] by kernel_rfl)).trans (HBM.out X.length ca cc))) hH2 ?_
      simp only [Act.put, List.getElem_toArray, List.getElem_cons_zero, List.getElem_cons_succ, List.setIfInBounds_toArray, List.set_cons_zero, List.set_cons_succ]
      refine wpAnyH_ready (rs := [10]) (by kernel_rfl) (by simp) (AllReadyH.cons (o := _) rfl (fun K hK => ?_) AllReadyH.nil)
      refine Sep.storeStep HX 1 rfl rfl 48 (.tmp 14) (.tmp 61) rfl (mfV ⟨(X.length : Int), f, f, r, DD, ps⟩ ca cc) rfl rfl (by rw [HML.out]; exact mf_size) (by rw [HML.out]; rfl) (List.all_eq_true.2 mfV_one) ?_
      have HZ := HX.setRow 1 rfl (mfV ⟨(X.length : Int), f, f, r, DD, ps⟩ ca cc)
      refine hK.out _ _ ?_ (fun hH3 => ?_)
      · exact HZ.box 2 rfl
      clear hK K
      refine wpAnyH_done (by kernel_rfl) ?_ _
      go_wp2_with fail
      go_meet
      exact ⟨w5.heap.size, ca, cc, rfl, Lib.hid' (HZ.drop 2)⟩
  case rest =>
  obtain ⟨N14, ca, cc, rfl, HS⟩ := hcut
  clear H5 HCL hz HBM
  go_wp2_with fail
  go_loopw [64] (fun v64 wr => ∃ (k : Nat) (s : Int), v64 = .int .i64 k ∧ k ≤ ps.length ∧ Hid (sumW f ps = sumW s (ps.drop k)) ∧ Hid (Sep w NoF [.box N14 (mfV ⟨(X.length : Int), f, s, r, DD, ps⟩ ca cc) 48, .row 53 35 (.slice ca ps.length cc) ps.length (ps.flatMap ptV), .box w.heap.size zeroMV 48] wr)) (fun v64 _ => ps.length - (intOf v64).toNat)
  case atStart => exact ⟨0, f, rfl, Nat.zero_le _, Lib.hid' (by rw [List.drop_zero]), HS⟩
  case round =>
    obtain ⟨k, s, rfl, hk, HI, HW⟩ := hrel
    by_cases hlt : k < ps.length
    · obtain ⟨pb, po, rfl, hpb, hprg⟩ := PtsAt.at (HP.out.below (Nat.le_refl _) HW.out.toBelow) HPO.out hlt
      have HG := Lib.hid' hprg
      have hl35 := ptV_len (HPO.out _ (List.getElem_mem hlt))
      have HI2 := Lib.hid' (HI.out.trans (sumW_next hlt s))
      have hpz : (Tryz.prog.info? 53).map (·.size) = some (ptV ps[k]).length := by rw [hl35]; exact pt_size
      have hpl0 : zeroPt.length = (ptV ps[k]).length := by rw [hl35]; rfl
      have hp1 : (ptV ps[k]).all (·.oneCell') = true := List.all_eq_true.2 ptV_one
      have hq1 : (ptV ps[k])[1]? = some (.int .i64 ps[k].m) := rfl
      clear hprg hl35 HI
      generalize ptV ps[k] = V at *
      generalize ps[k].m = pm at *
      have HZ : Sep w NoF [.box wr.heap.size zeroPt 53, .box N14 (mfV ⟨(X.length : Int), f, s, r, DD, ps⟩ ca cc) 48, .row 53 35 (.slice ca ps.length cc) ps.length (ps.flatMap ptV), .box w.heap.size zeroMV 48] (wr.alloc (.cells #[.int .i64 0, .int .i64 0, .int .i64 0, .int .u8 0, .int .u8 0, .int .u8 0, .int .u8 0, .int .u8 0, .int .u8 0, .int .u8 0, .int .u8 0, .int .u8 0, .int .u8 0, .int .u8 0, .int .u8 0, .int .u8 0, .int .u8 0, .int .u8 0, .int .u8 0, .int .u8 0, .int .u8 0, .int .u8 0, .int .u8 0, .int .u8 0, .int .u8 0, .int .u8 0, .int .u8 0, .int .u8 0, .int .u8 0, .int .u8 0, .int .u8 0, .int .u8 0, .int .u8 0, .int .u8 0, .int .u8 0] 53)) := HW.out.allocAt wr.heap.size zeroPt 53 rfl
      have HV := HZ.setRow 0 rfl V
      go_upto_region 13 with (first | (refine wpList_load_at HG.out rfl 53 (.tmp 66) rfl rfl _ Tryz.underlying53 rfl hpz ?_) | (refine Sep.storeB HZ 0 rfl rfl 53 (.tmp 16) (.tmp 67) rfl V rfl rfl hpz hpl0 hp1 ?_))
      generalize ((wr.alloc (.cells #[.int .i64 0, .int .i64 0, .int .i64 0, .int .u8 0, .int .u8 0, .int .u8 0, .int .u8 0, .int .u8 0, .int .u8 0, .int .u8 0, .int .u8 0, .int .u8 0, .int .u8 0, .int .u8 0, .int .u8 0, .int .u8 0, .int .u8 0, .int .u8 0, .int .u8 0, .int .u8 0, .int .u8 0, .int .u8 0, .int .u8 0, .int .u8 0, .int .u8 0, .int .u8 0, .int .u8 0, .int .u8 0, .int .u8 0, .int .u8 0, .int .u8 0, .int .u8 0, .int .u8 0, .int .u8 0, .int .u8 0] 53)).setRow wr.heap.size V.toArray) = w7 at *
      generalize wr.heap.size = Q at *
      clear HZ HG hpl0 hp1 HW
      have v1 := HV.cell 0 rfl 1 hq1
      have s2 := HV.cell 1 rfl 2 (v := .int .i64 s) rfl
      have sf := HV.free 1 rfl 2
      go_upto_region 14 with fail
      have H8 := HV.set 1 rfl 2 (.int .i64 (wrap64 (s + pm)))
      have H9 : Sep w NoF [.box N14 (mfV ⟨(X.length : Int), f, wrap64 (s + pm), r, DD, ps⟩ ca cc) 48, .row 53 35 (.slice ca ps.length cc) ps.length (ps.flatMap ptV), .box w.heap.size zeroMV 48] (w7.setCell ⟨N14, 2, none⟩ (.int .i64 (wrap64 (s + pm)))) := H8.drop 1
      have H10 := Lib.hid' H9
      clear H8 H9 HV v1 s2 sf
      go_wp2_with fail
      go_roundw
      case rel => exact ⟨k + 1, wrap64 (s + pm), by go_num, by omega, HI2, H10⟩
      case measure => simp [intOf]; omega
    · obtain rfl : k = ps.length := by omega
      have HI2 := Lib.hid' (show sumW f ps = s by rw [HI.out, List.drop_length]; rfl)
      have HW2 : Sep w NoF [.box N14 (mfV NX ca cc) 48, .row 53 35 (.slice ca ps.length cc) ps.length (ps.flatMap ptV), .box w.heap.size zeroMV 48] wr := by rw [HNX.out, HI2.out]; exact HW.out
      have HPN := Lib.hid' (show NX.ps = ps by rw [HNX.out])
      have hnl := mfV_len HOK.out ca cc
      have hnz : (Tryz.prog.info? 48).map (·.size) = some (mfV NX ca cc).length := by rw [hnl]; exact mf_size
      have hnz2 : zeroMV.length = (mfV NX ca cc).length := by rw [hnl]; rfl
      have hn1 : (mfV NX ca cc).all (·.oneCell') = true := List.all_eq_true.2 mfV_one
      have hpts : PtsAt wr ca cc NX.ps := by rw [HPN.out]; exact SlV.of_own (HW2.row 1 rfl)
      have HCN := Lib.hid' (mcheck_any NX ca cc wr HOK.out hpts)
      have HPT := Lib.hid' hpts
      clear hpts hnl HW HI HOK HNX
      obtain ⟨Y, hY⟩ : ∃ Y, Y = mfV NX ca cc := ⟨_, rfl⟩
      have HY := Lib.hid' hY
      rw [← hY] at HW2 hnz hnz2 hn1 HCN
      clear hY
      by_cases hnc : NX.check = 0
      · have HF := Lib.hid' (HR.out.trans (if_neg (by simpa using hnc)))
        rw [hnc, errV_0] at HCN
        clear hnc HR
        go_wp2_with (first | (refine Sep.loadB HW2 0 rfl rfl 48 (.tmp 14) rfl rfl _ Tryz.underlying48 rfl hnz ?_) | (go_at_call 26; refine HCN.out.mono ?_; rintro e w6 ⟨rfl, hb6⟩; have HW3 := HW2.below hb6) | (refine Sep.loadB HW3 0 rfl rfl 48 (.tmp 14) rfl rfl _ Tryz.underlying48 rfl hnz ?_) | (refine Sep.storeB HW3 2 rfl rfl 48 (.tmp 8) (.tmp 81) rfl Y rfl rfl hnz hnz2 hn1 ?_))
        have H4 := HW3.setRow 2 rfl Y
        refine bodyPost_ret (box_result2 Tryz.results13 (H4.box 0 rfl) _ rfl .nilIface rfl _ Tryz.underlying48 rfl hnz) rfl ?_
        exact ⟨ca, cc, by rw [HF.out, HY.out]; rfl, by rw [HF.out]; show PtsAt _ ca cc NX.ps; rw [HPN.out]; exact SlV.of_own (H4.row 2 rfl), H4.toBelow⟩
      · have HF := Lib.hid' (HR.out.trans (if_pos hnc))
        rw [errV_pos hnc] at HCN
        have HE := Lib.hid' (errV_pos hnc)
        generalize NX.check = nc at *
        clear hnc HR
        go_wp2_with (first | (refine Sep.loadB HW2 0 rfl rfl 48 (.tmp 14) rfl rfl _ Tryz.underlying48 rfl hnz ?_) | (go_at_call 26; refine HCN.out.mono ?_; rintro e w6 ⟨rfl, hb6⟩; have HW3 := HW2.below hb6) | (refine Sep.storeB HW3 2 rfl rfl 48 (.tmp 8) (.tmp 79) rfl zeroMV rfl rfl hmz rfl rfl ?_))
        have H4 := HW3.setRow 2 rfl zeroMV
        refine bodyPost_ret (box_result2 Tryz.results13 (H4.box 0 rfl) _ rfl (.iface 59 (.int .i64 (nc : Nat))) rfl _ Tryz.underlying48 rfl hmz) rfl ?_
        exact ⟨none, 0, by rw [HF.out, HE.out]; rfl, by rw [HF.out]; exact emptyPts _, H4.toBelow⟩

end Go.Proofs.YtinbcehlpfnlaaaGreatDoor
