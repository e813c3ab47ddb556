/- Layer 15 (manifest): Put, Digest. -/
import Derived.Test.YtinbcehlpfnlaaaGreatDoorManC
import Derived.Test.YtinbcehlpfnlaaaGreatDoorFrmB
import Derived.Test.YtinbcehlpfnlaaaGreatDoorShaG
import Derived.Deep.DeepCutAuto
import Derived.Deep.CutBlock
namespace Go.Proofs.YtinbcehlpfnlaaaGreatDoor
open Go.RowKit
set_option linter.unusedSimpArgs false
set_option linter.unusedVariables false
set_option maxRecDepth 100000

def mputB (x : Mf) : List UInt8 := if x.check = 0 then x.put else []
theorem u64_id (n : Nat) (h : n < 18446744073709551616) : IntKind.u64.wrap ((n : Nat) : Int) = ((n : Nat) : Int) := wraps_u64 _ (by omega) (by omega)
theorem mcheck_0 {x : Mf} (h : x.check = 0) : (0 ≤ x.n ∧ x.n ≤ 999999) ∧ (0 ≤ x.f ∧ x.f ≤ 1048576) ∧ (0 ≤ x.t ∧ x.t ≤ 1048576) ∧ (0 ≤ x.r ∧ x.r ≤ 1048576) ∧ x.f ≤ x.t ∧ (x.n = 0 → x.p = zero32B) ∧ x.ps.length ≤ 1024 ∧ partsCheck x.ps x.f = (0, x.t) := by
  unfold Mf.check at h
  split at h; · cases h
  split at h; · cases h
  split at h; · cases h
  split at h; · rename_i h2; exact absurd h h2
  split at h; · cases h
  rename_i h1 h2 h3 h4 h5
  refine ⟨by omega, by omega, by omega, by omega, by omega, fun hn => Classical.byContradiction fun hp => h2 (.inr ⟨hn, hp⟩), by omega, ?_⟩
  have e1 : (partsCheck x.ps x.f).1 = 0 := by omega
  have e2 : (partsCheck x.ps x.f).2 = x.t := Classical.byContradiction h5
  rw [← e1, ← e2]
theorem parts_in : ∀ {l : List Pt} {a : Int} {e : Int}, partsCheck l a = (0, e) → ∀ y ∈ l, (1 ≤ y.m ∧ y.m ≤ 64) ∧ 1 ≤ y.s ∧ y.s ≤ 65536
  | [], _, _, _, _, hy => by cases hy
  | z :: l, a, e, h, y, hy => by
    unfold partsCheck at h
    by_cases hz : z.check a = 0
    · rw [if_neg (by simpa using hz)] at h
      rcases List.mem_cons.1 hy with rfl | hy
      · unfold Pt.check at hz
        split at hz
        · cases hz
        · omega
      · exact parts_in h y hy
    · rw [if_pos hz] at h
      exact absurd (congrArg Prod.fst h) hz
theorem flatB_len {l : List Pt} (h : ∀ y ∈ l, (partB y).length ≤ 52) : (l.flatMap partB).length ≤ 52 * l.length := by
  induction l with
  | nil => simp
  | cons y l ih =>
    have h1 := h y List.mem_cons_self
    have h2 := ih (fun z hz => h z (List.mem_cons_of_mem _ hz))
    rw [List.flatMap_cons, List.length_append, List.length_cons]; omega
theorem partB_len {y : Pt} (h : (1 ≤ y.m ∧ y.m ≤ 64) ∧ 1 ≤ y.s ∧ y.s ≤ 65536) (hd : y.d.length = 32) : (partB y).length ≤ 52 := by
  have h1 := vb_len10 (n := y.m.toNat) (by omega)
  have h2 := vb_len10 (n := y.s.toNat) (by omega)
  unfold partB
  rw [List.length_append, List.length_append]; omega
theorem text_len {x : Mf} (h : x.check = 0) (ho : x.ok) : x.text.length ≤ 60000 := by
  obtain ⟨h1, h2, h3, h4, _, _, h5, h6⟩ := mcheck_0 h
  have hp := flatB_len (l := x.ps) (fun y hy => partB_len (parts_in h6 y hy) (ho.ps y hy).d)
  have a1 := vb_len10 (n := x.n.toNat) (by omega)
  have a2 := vb_len10 (n := x.f.toNat) (by omega)
  have a3 := vb_len10 (n := x.t.toNat) (by omega)
  have a4 := vb_len10 (n := x.r.toNat) (by omega)
  have a5 := vb_len10 (n := x.ps.length) (by omega)
  have a6 := ho.p
  unfold Mf.text
  simp only [List.length_append]
  omega
/-- the text ahead of the parts, and behind some -/
def Mf.pre (x : Mf) : List UInt8 := vb x.n.toNat ++ vb x.f.toNat ++ vb x.t.toNat ++ vb x.r.toNat ++ x.p ++ vb x.ps.length
theorem text_pre (x : Mf) : x.text = x.pre ++ x.ps.flatMap partB := rfl
theorem pre_len {x : Mf} (h : x.check = 0) (ho : x.ok) : x.pre.length ≤ 60000 := by
  have := text_len h ho
  rw [text_pre, List.length_append] at this; omega
theorem slv_box {N t : Nat} {R : List Value} {w : World} (h : BoxW N R t w) (o : Nat) (cs : List Value) (n : Nat) (hn : n ≤ maxLen) (hcs : ∀ j u, cs[j]? = some u → R[o + j]? = some u) : SlV w (.slice (some ⟨N, o, none⟩) n n) n cs :=
  ⟨_, _, rfl, Nat.le_refl _, hn, by simp, fun j u hu => ⟨_, rfl, by rw [add_lit]; exact h.box.1 (o + j) u (hcs j u hu)⟩⟩
def MPutR (x : Mf) (w : World) (en : Ending) (w' : World) : Prop :=
  ∃ a c, en = .returned (.tuple #[.slice a (mputB x).length c, errV x.check]) ∧ Bytes w' (.slice a (mputB x).length c) (mputB x) ∧ Below w.heap.size w w'
set_option maxHeartbeats 4000000 in
theorem mput_any (x : Mf) (a : Option Addr) (c : Nat) (w : World) (ho : x.ok) (hp : PtsAt w a c x.ps) :
    Calls Tryz.prog 56 #[.agg (mfV x a c).toArray] w (MPutR x w) := by
  have HP := Lib.hid' hp
  have HO := Lib.hid' ho
  have H36 := mfV_36 ho a c
  have HL37 := mfV_len ho a c
  have hz : (Tryz.prog.info? 48).map (·.size) = some (mfV x a c).length := by rw [HL37]; exact mf_size
  have HRG := Lib.hid' (fun (wq : World) (hq : BoxW w.heap.size (mfV x a c) 48 wq) => mfV_range ho a c hq.range)
  clear hp
  go_enter Tryz.func56, Tryz.ntmps56
  go_upto_region 1 with fail
  have H0 : Sep w NoF [.box w.heap.size (mfV x a c) 48] (w.alloc (.cells (mfV x a c).toArray 48)) := (Sep.start w).allocAt (w.heap.size) (mfV x a c) 48 rfl
  generalize w.alloc (.cells (mfV x a c).toArray 48) = w1 at *
  have HCK := Lib.hid' (mcheck_any x a c w1 ho (HP.out.below (Nat.le_refl _) H0.toBelow))
  clear ho
  go_upto_region 2 with (first | (refine Sep.loadB H0 0 rfl rfl 48 (.tmp 1) rfl rfl _ Tryz.underlying48 rfl hz ?_) | (go_at_call 26; refine HCK.out.mono ?_; rintro e w2 ⟨rfl, hb2⟩))
  have H2 := H0.below hb2
  clear H0 hb2 HCK hz HL37
  by_cases hck : x.check = 0
  rotate_left
  · have HF := Lib.hid' (show MPutR x w (.returned (.tuple #[.slice none 0 0, errV x.check])) w2 from ⟨none, 0, by unfold mputB; rw [if_neg hck]; rfl, by unfold mputB; rw [if_neg hck]; exact SlV.empty _ _ _ (Nat.zero_le _) (fun _ => rfl), H2.toBelow⟩)
    rw [errV_pos hck] at HF ⊢
    clear hck
    go_wp2
    refine bodyPost_ret (v := .tuple #[.slice none 0 0, .iface 59 (.int .i64 (x.check : Nat))]) (by simp [results, Tryz.results56, go_sem]) rfl HF.out
  rw [hck, errV_0]
  obtain ⟨q1, q2, q3, q4, _, _, q5, q6⟩ := mcheck_0 hck
  have HTL := Lib.hid' (text_len hck HO.out)
  have HPL := Lib.hid' (pre_len hck HO.out)
  have HPI := Lib.hid' (parts_in q6)
  have HPB := Lib.hid' (show mputB x = x.put by unfold mputB; rw [if_pos hck])
  have HCZ := Lib.hid' hck
  clear hck q6
  have c0 := H2.cell 0 rfl 0 (v := .int .i64 x.n) rfl
  have c1 := H2.cell 0 rfl 1 (v := .int .i64 x.f) rfl
  have c2 := H2.cell 0 rfl 2 (v := .int .i64 x.t) rfl
  have c3 := H2.cell 0 rfl 3 (v := .int .i64 x.r) rfl
  have HPR := Lib.hid' (show x.pre = vb x.n.toNat ++ vb x.f.toNat ++ vb x.t.toNat ++ vb x.r.toNat ++ x.p ++ vb x.ps.length from rfl)
  obtain ⟨n0, e0⟩ : ∃ n : Nat, x.n = n := ⟨x.n.toNat, by omega⟩
  obtain ⟨n1, e1⟩ : ∃ n : Nat, x.f = n := ⟨x.f.toNat, by omega⟩
  obtain ⟨n2, e2⟩ : ∃ n : Nat, x.t = n := ⟨x.t.toNat, by omega⟩
  obtain ⟨n3, e3⟩ : ∃ n : Nat, x.r = n := ⟨x.r.toNat, by omega⟩
  rw [e0] at c0 q1 HPR
  rw [e1] at c1 q2 HPR
  rw [e2] at c2 q3 HPR
  rw [e3] at c3 q4 HPR
  simp only [Int.toNat_natCast] at HPR
  clear e0 e1 e2 e3
  have u0 := u64_id n0 (by omega)
  have u1 := u64_id n1 (by omega)
  have u2 := u64_id n2 (by omega)
  have u3 := u64_id n3 (by omega)
  go_wp2_with fail
  refine (vPut_any [] none 0 [n0, n1, n2, n3] (some ⟨w2.heap.size, 0, none⟩) 4 _ (SlV.empty _ _ _ (Nat.zero_le _) (fun _ => rfl)) (SlV.new w2 (uVs [n0, n1, n2, n3]) 4 100 (by decide)) (by simp; omega) (by simp) (by simp)).mono ?_
  rintro e w3 ⟨ra, rc, rfl, ho3, hb3⟩
  rw [List.nil_append] at ho3 ⊢
  obtain ⟨b0, hb0⟩ : ∃ b, b = vbs [n0, n1, n2, n3] := ⟨_, rfl⟩
  have hb0l : b0.length ≤ 40 := by rw [hb0]; have := vbs_len (l := [n0, n1, n2, n3]) (by simp; omega); simpa using this
  have HPR2 := Lib.hid' (show x.pre = b0 ++ x.p ++ vbs [x.ps.length] by rw [HPR.out, hb0]; simp [vbs])
  rw [← hb0] at ho3 ⊢
  clear hb0 HPR c0 c1 c2 c3 u0 u1 u2 u3
  have H3 : Sep w NoF [.row 5 1 (.slice ra b0.length rc) b0.length (byteVs b0), .box w.heap.size (mfV x a c) 48] w3 := (H2.allocX _).belowRow hb3 ho3
  have H36' := H36
  clear ho3 hb3 H2
  have HLB := Lib.hid' (show (b0 ++ x.p).length = b0.length + 32 by rw [List.length_append, HO.out.p])
  have HDL := Lib.hid' HO.out.p
  have HSV := Lib.hid' (fun (wq : World) (hq : BoxW w.heap.size (mfV x a c) 48 wq) => (show SlV wq (.slice (some ⟨w.heap.size, 4, none⟩) 32 32) 32 (byteVs x.p) from
    slv_box hq 4 (byteVs x.p) 32 (by decide) (fun j u hu => by
      unfold mfV
      have hj : j < (byteVs x.p).length := (List.getElem?_eq_some_iff.1 hu).1
      rw [List.append_assoc, List.getElem?_append_right (by simp)]
      simp only [List.length_cons, List.length_nil, Nat.zero_add, Nat.reduceAdd, Nat.add_sub_cancel_left]
      rw [List.getElem?_append_left hj]; exact hu)))
  go_upto_region 5 with fail
  go_cut [5] (fun v5 wc => ∃ (a4 : Option Addr) (c4 : Nat), v5 = .slice a4 x.pre.length c4 ∧ Sep w NoF [.row 5 1 (.slice a4 x.pre.length c4) x.pre.length (byteVs x.pre), .box w.heap.size (mfV x a c) 48] wc)
  case first =>
    refine wp_region_held_drew (S := (fun w' => BoxW w.heap.size (mfV x a c) 48 w')) (by kernel_rfl) (H3.box 1 rfl) (fun hH0 => ?_)
    refine wpAnyH_take (i := 0) (oi := _) (v := .slice ra b0.length rc) rfl (by kernel_rfl) (by kernel_rfl) (by kernel_rfl) (fun _ _ _ h => h) (Or.inl ⟨by rfl, ?_⟩) hH0 ?_
    · intro w hSw; go_simp
    simp only [Act.put, List.getElem_toArray, List.getElem_cons_zero, List.getElem_cons_succ, List.setIfInBounds_toArray, List.set_cons_zero, List.set_cons_succ]
    refine wpAnyH_take (i := 1) (oi := _) (v := .pointer (some ⟨w.heap.size, 4, none⟩)) rfl (by kernel_rfl) (by kernel_rfl) (by kernel_rfl) (fun _ _ _ h => h) (Or.inl ⟨by rfl, ?_⟩) hH0 ?_
    · intro w hSw; go_simp
    simp only [Act.put, List.getElem_toArray, List.getElem_cons_zero, List.getElem_cons_succ, List.setIfInBounds_toArray, List.set_cons_zero, List.set_cons_succ]
    refine wpAnyH_take (i := 2) (oi := _) (v := .slice (some ⟨w.heap.size, 4, none⟩) 32 32) rfl (by kernel_rfl) (by kernel_rfl) (by kernel_rfl) (fun _ _ _ h => h) (Or.inl ⟨by rfl, ?_⟩) hH0 ?_
    · intro w hSw; go_simp
    simp only [Act.put, List.getElem_toArray, List.getElem_cons_zero, List.getElem_cons_succ, List.setIfInBounds_toArray, List.set_cons_zero, List.set_cons_succ]
    refine wpAnyH_take (i := 4) (oi := _) (v := .pointer (some ⟨w.heap.size, 36, none⟩)) rfl (by kernel_rfl) (by kernel_rfl) (by kernel_rfl) (fun _ _ _ h => h) (Or.inl ⟨by rfl, ?_⟩) hH0 ?_
    · intro w hSw; go_simp
    simp only [Act.put, List.getElem_toArray, List.getElem_cons_zero, List.getElem_cons_succ, List.setIfInBounds_toArray, List.set_cons_zero, List.set_cons_succ]
    refine wpAnyH_take (i := 5) (oi := _) (v := .slice a x.ps.length c) rfl (by kernel_rfl) (by kernel_rfl) (by kernel_rfl) (fun _ _ _ h => h) (Or.inl ⟨by rfl, ?_⟩) hH0 ?_
    · intro w hSw; have q36 := hSw.box.1 36 _ H36; go_simp
    simp only [Act.put, List.getElem_toArray, List.getElem_cons_zero, List.getElem_cons_succ, List.setIfInBounds_toArray, List.set_cons_zero, List.set_cons_succ]
    refine wpAnyH_take (i := 6) (oi := _) (v := .int .i64 (x.ps.length : Int)) rfl (by kernel_rfl) (by kernel_rfl) (by kernel_rfl) (fun _ _ _ h => h) (Or.inl ⟨by rfl, ?_⟩) hH0 ?_
    · intro w hSw; go_simp
    simp only [Act.put, List.getElem_toArray, List.getElem_cons_zero, List.getElem_cons_succ, List.setIfInBounds_toArray, List.set_cons_zero, List.set_cons_succ]
    refine wpAnyH_take (i := 7) (oi := _) (v := .int .u64 (x.ps.length : Int)) rfl (by kernel_rfl) (by kernel_rfl) (by kernel_rfl) (fun _ _ _ h => h) (Or.inl ⟨by rfl, ?_⟩) hH0 ?_
    · intro w hSw; go_simp; exact u64_id _ (by omega)
    simp only [Act.put, List.getElem_toArray, List.getElem_cons_zero, List.getElem_cons_succ, List.setIfInBounds_toArray, List.set_cons_zero, List.set_cons_succ]
    refine wpAnyH_ready (rs := [3, 8]) (by kernel_rfl) (by simp) (AllReadyH.cons (o := _) rfl (fun K hK => ?_) (AllReadyH.cons (o := _) rfl (fun K hK => ?_) AllReadyH.nil))
    · skip
      refine Sep.appendSlStep etBytes rfl (.tmp 27) (.tmp 29) rfl H3.drew 0 rfl rfl 32 (byteVs x.p) _ rfl (HSV.out _ (H3.drew.box 1 rfl)) (by rw [byteVs_length, HDL.out]) (byteVs_one _) (by omega) ?_
      intro a3 c3 w5 HA5
      have HS5 : Sep w NoF [.row 5 1 (.slice a3 (b0.length + 32) c3) (b0.length + 32) (byteVs b0 ++ byteVs x.p), .box w.heap.size (mfV x a c) 48] w5 := HA5
      refine hK.out _ _ ?_ (fun hH1 => ?_)
      · exact HS5.box 1 rfl
      clear hK K
      refine wpAnyH_ready (rs := [8]) (by kernel_rfl) (by simp) (AllReadyH.cons (o := _) rfl (fun K hK => ?_) AllReadyH.nil)
      go_simp
      have HS6 := HS5.allocAt w5.heap.size [.int .u64 (x.ps.length : Int)] 100 rfl
      refine hK.out _ _ ?_ (fun hH2 => ?_)
      · exact HS6.box 2 rfl
      clear hK K
      refine wpAnyH_ready (rs := [9]) (by kernel_rfl) (by simp) (AllReadyH.cons (o := _) rfl (fun K hK => ?_) AllReadyH.nil)
      go_simp
      have hr := SlV.of_own (HS6.row 1 rfl)
      have hU := slv_box (HS6.box 0 rfl) 0 (uVs [x.ps.length]) 1 (by decide) (fun j u hu => by rw [Nat.zero_add]; exact hu)
      have hv := vPut_any (b0 ++ x.p) a3 c3 [x.ps.length] (some ⟨w5.heap.size, 0, none⟩) 1 _ (by unfold Bytes; rw [HLB.out, byteVs_append]; exact hr) hU (by simp; omega) (by rw [HLB.out]; omega) (by simp)
      rw [HLB.out, ← HPR2.out] at hv
      refine hv.mono ?_
      clear hv hr hU
      rintro e w6 ⟨a4, c4, rfl, ho6, hb6⟩
      have HS7 : Sep w NoF [.row 5 1 (.slice a4 x.pre.length c4) x.pre.length (byteVs x.pre), .box w.heap.size (mfV x a c) 48] w6 := ((HS6.drop 0).drop 0).belowRow hb6 ho6
      refine hK.out _ _ ?_ (fun hH3 => ?_)
      · exact HS7.box 1 rfl
      clear hK K
      refine wpAnyH_take (i := 10) (oi := _) (v := .slice a4 x.pre.length c4) rfl (by kernel_rfl) (by kernel_rfl) (by kernel_rfl) (fun _ _ _ h => h) (Or.inl ⟨by rfl, ?_⟩) hH3 ?_
      · intro w hSw; go_simp
      simp only [Act.put, List.getElem_toArray, List.getElem_cons_zero, List.getElem_cons_succ, List.setIfInBounds_toArray, List.set_cons_zero, List.set_cons_succ]
      refine wpAnyH_done (by kernel_rfl) ?_ _
      go_wp2_with fail
      go_meet
      exact ⟨a4, c4, rfl, HS7⟩
    · skip
      go_simp
      have HS4 := (H3.allocAt w3.heap.size [.int .u64 (x.ps.length : Int)] 100 rfl).drew
      refine hK.out _ _ ?_ (fun hH1 => ?_)
      · exact HS4.box 2 rfl
      clear hK K
      refine wpAnyH_ready (rs := [3]) (by kernel_rfl) (by simp) (AllReadyH.cons (o := _) rfl (fun K hK => ?_) AllReadyH.nil)
      refine Sep.appendSlStep etBytes rfl (.tmp 27) (.tmp 29) rfl HS4 1 rfl rfl 32 (byteVs x.p) _ rfl (HSV.out _ (HS4.box 2 rfl)) (by rw [byteVs_length, HDL.out]) (byteVs_one _) (by omega) ?_
      intro a3 c3 w5 HA5
      have HS6 : Sep w NoF [.box w3.heap.size [.int .u64 (x.ps.length : Int)] 100, .row 5 1 (.slice a3 (b0.length + 32) c3) (b0.length + 32) (byteVs b0 ++ byteVs x.p), .box w.heap.size (mfV x a c) 48] w5 := HA5.focus 1 rfl
      refine hK.out _ _ ?_ (fun hH2 => ?_)
      · exact HS6.box 2 rfl
      clear hK K
      refine wpAnyH_ready (rs := [9]) (by kernel_rfl) (by simp) (AllReadyH.cons (o := _) rfl (fun K hK => ?_) AllReadyH.nil)
      go_simp
      have hr := SlV.of_own (HS6.row 1 rfl)
      have hU := slv_box (HS6.box 0 rfl) 0 (uVs [x.ps.length]) 1 (by decide) (fun j u hu => by rw [Nat.zero_add]; exact hu)
      have hv := vPut_any (b0 ++ x.p) a3 c3 [x.ps.length] (some ⟨w3.heap.size, 0, none⟩) 1 _ (by unfold Bytes; rw [HLB.out, byteVs_append]; exact hr) hU (by simp; omega) (by rw [HLB.out]; omega) (by simp)
      rw [HLB.out, ← HPR2.out] at hv
      refine hv.mono ?_
      clear hv hr hU
      rintro e w6 ⟨a4, c4, rfl, ho6, hb6⟩
      have HS7 : Sep w NoF [.row 5 1 (.slice a4 x.pre.length c4) x.pre.length (byteVs x.pre), .box w.heap.size (mfV x a c) 48] w6 := ((HS6.drop 0).drop 0).belowRow hb6 ho6
      refine hK.out _ _ ?_ (fun hH3 => ?_)
      · exact HS7.box 1 rfl
      clear hK K
      refine wpAnyH_take (i := 10) (oi := _) (v := .slice a4 x.pre.length c4) rfl (by kernel_rfl) (by kernel_rfl) (by kernel_rfl) (fun _ _ _ h => h) (Or.inl ⟨by rfl, ?_⟩) hH3 ?_
      · intro w hSw; go_simp
      simp only [Act.put, List.getElem_toArray, List.getElem_cons_zero, List.getElem_cons_succ, List.setIfInBounds_toArray, List.set_cons_zero, List.set_cons_succ]
      refine wpAnyH_done (by kernel_rfl) ?_ _
      go_wp2_with fail
      go_meet
      exact ⟨a4, c4, rfl, HS7⟩
  case rest =>
  obtain ⟨a4, c4, rfl, H4⟩ := hcut
  clear H3 HLB HPR2 hb0l HSV
  have c36 := H4.cell 1 rfl 36 H36
  have hnl := H4.lt 1 rfl
  have hpl : x.pre.length ≤ 60000 := HPL.out
  go_wp2_with fail
  clear c36
  go_loopw [40, 5] (fun v40 v5 wr => ∃ (k : Nat) (t : List UInt8) (ta : Option Addr) (tc : Nat), v40 = .int .i64 k ∧ k ≤ x.ps.length ∧ v5 = .slice ta t.length tc ∧ Hid (t = x.pre ++ (x.ps.take k).flatMap partB) ∧ t.length ≤ 60000 + 52 * k ∧ Sep w NoF [.row 5 1 (.slice ta t.length tc) t.length (byteVs t), .box w.heap.size (mfV x a c) 48] wr) (fun v40 _ _ => x.ps.length - (intOf v40).toNat)
  case atStart => exact ⟨0, x.pre, a4, c4, rfl, Nat.zero_le _, rfl, Lib.hid' (by simp), by omega, H4⟩
  case round =>
    clear H4 hpl
    obtain ⟨k, t, ta, tc, rfl, hk, rfl, HT, htl, H5⟩ := hrel
    by_cases hlt : k < x.ps.length
    · have hlt' : (k : Int) < (x.ps.length : Int) := by omega
      obtain ⟨bb, off, rfl, hbb, hrg⟩ := PtsAt.at (HP.out.below (Nat.le_refl _) H5.toBelow) HO.out.ps hlt
      have HG := Lib.hid' hrg
      have hyo := HO.out.ps _ (List.getElem_mem hlt)
      have hyi := HPI.out _ (List.getElem_mem hlt)
      have HTN := Lib.hid' (show t ++ partB x.ps[k] = x.pre ++ (x.ps.take (k + 1)).flatMap partB by
        rw [List.take_succ_eq_append_getElem hlt, List.flatMap_append, ← List.append_assoc, HT.out]; simp only [List.flatMap_cons, List.flatMap_nil, List.append_nil])
      clear hrg HT
      generalize x.ps[k] = y at *
      have hpz : (Tryz.prog.info? 53).map (·.size) = some (ptV y).length := by rw [ptV_len hyo]; exact pt_size
      have hpl0 : zeroPt.length = (ptV y).length := by rw [ptV_len hyo]; rfl
      have hp1 : (ptV y).all (·.oneCell') = true := List.all_eq_true.2 ptV_one
      have HZ : Sep w NoF [.box wr.heap.size zeroPt 53, .row 5 1 (.slice ta t.length tc) t.length (byteVs t), .box w.heap.size (mfV x (some ⟨bb, off, none⟩) c) 48] (wr.alloc (.cells #[.int .i64 0, .int .i64 0, .int .i64 0, .int .u8 0, .int .u8 0, .int .u8 0, .int .u8 0, .int .u8 0, .int .u8 0, .int .u8 0, .int .u8 0, .int .u8 0, .int .u8 0, .int .u8 0, .int .u8 0, .int .u8 0, .int .u8 0, .int .u8 0, .int .u8 0, .int .u8 0, .int .u8 0, .int .u8 0, .int .u8 0, .int .u8 0, .int .u8 0, .int .u8 0, .int .u8 0, .int .u8 0, .int .u8 0, .int .u8 0, .int .u8 0, .int .u8 0, .int .u8 0, .int .u8 0, .int .u8 0] 53)) := H5.allocAt wr.heap.size zeroPt 53 rfl
      have HY : Sep w NoF [.box wr.heap.size (ptV y) 53, .row 5 1 (.slice ta t.length tc) t.length (byteVs t), .box w.heap.size (mfV x (some ⟨bb, off, none⟩) c) 48] _ := HZ.setRow 0 rfl (ptV y)
      go_upto_region 9 with (first | (refine wpList_load_at HG.out rfl 53 (.tmp 42) rfl rfl _ Tryz.underlying53 rfl hpz ?_) | (refine Sep.storeB HZ 0 rfl rfl 53 (.tmp 7) (.tmp 43) rfl (ptV y) rfl rfl hpz hpl0 hp1 ?_))
      generalize ((wr.alloc (.cells #[.int .i64 0, .int .i64 0, .int .i64 0, .int .u8 0, .int .u8 0, .int .u8 0, .int .u8 0, .int .u8 0, .int .u8 0, .int .u8 0, .int .u8 0, .int .u8 0, .int .u8 0, .int .u8 0, .int .u8 0, .int .u8 0, .int .u8 0, .int .u8 0, .int .u8 0, .int .u8 0, .int .u8 0, .int .u8 0, .int .u8 0, .int .u8 0, .int .u8 0, .int .u8 0, .int .u8 0, .int .u8 0, .int .u8 0, .int .u8 0, .int .u8 0, .int .u8 0, .int .u8 0, .int .u8 0, .int .u8 0] 53)).setRow wr.heap.size (ptV y).toArray) = w5 at *
      generalize wr.heap.size = NB at *
      clear HZ HG hpl0 hp1 H5 hpz
      obtain ⟨m, hm⟩ : ∃ n : Nat, y.m = n := ⟨y.m.toNat, by omega⟩
      obtain ⟨s, hs⟩ : ∃ n : Nat, y.s = n := ⟨y.s.toNat, by omega⟩
      have hm64 : m ≤ 64 := by omega
      have hs64 : s ≤ 65536 := by omega
      have HPY := Lib.hid' (show t ++ vbs [m, s] ++ y.d = t ++ partB y by unfold partB; rw [hm, hs]; simp [vbs])
      have hYm : (ptV y)[1]? = some (.int .i64 (m : Int)) := by rw [← hm]; rfl
      have hYs : (ptV y)[2]? = some (.int .i64 (s : Int)) := by rw [← hs]; rfl
      have HDL2 := Lib.hid' hyo.d
      have hv2 := vbs_len (l := [m, s]) (by simp; omega)
      have hv3 : (vbs [m, s]).length ≤ 20 := by simpa using hv2
      have HLT := Lib.hid' (show (t ++ vbs [m, s]).length + 32 = (t ++ partB y).length by rw [← HPY.out]; simp only [List.length_append, hyo.d])
      clear hyi hyo hm hs hv2
      refine wp_region_held_drew (S := (fun w' => BoxW NB (ptV y) 53 w')) (by kernel_rfl) (HY.box 0 rfl) (fun hH0 => ?_)
      refine wpAnyH_take (i := 0) (oi := _) (v := .slice ta t.length tc) rfl (by kernel_rfl) (by kernel_rfl) (by kernel_rfl) (fun _ _ _ h => h) (Or.inl ⟨by rfl, ?_⟩) hH0 ?_
      · intro w hSw; go_simp
      simp only [Act.put, List.getElem_toArray, List.getElem_cons_zero, List.getElem_cons_succ, List.setIfInBounds_toArray, List.set_cons_zero, List.set_cons_succ]
      refine wpAnyH_take (i := 1) (oi := _) (v := .pointer (some ⟨NB, 1, none⟩)) rfl (by kernel_rfl) (by kernel_rfl) (by kernel_rfl) (fun _ _ _ h => h) (Or.inl ⟨by rfl, ?_⟩) hH0 ?_
      · intro w hSw; go_simp
      simp only [Act.put, List.getElem_toArray, List.getElem_cons_zero, List.getElem_cons_succ, List.setIfInBounds_toArray, List.set_cons_zero, List.set_cons_succ]
      refine wpAnyH_take (i := 2) (oi := _) (v := .int .i64 (m : Int)) rfl (by kernel_rfl) (by kernel_rfl) (by kernel_rfl) (fun _ _ _ h => h) (Or.inl ⟨by rfl, ?_⟩) hH0 ?_
      · intro w hSw; have q1 := hSw.box.1 1 _ hYm; go_simp
      simp only [Act.put, List.getElem_toArray, List.getElem_cons_zero, List.getElem_cons_succ, List.setIfInBounds_toArray, List.set_cons_zero, List.set_cons_succ]
      refine wpAnyH_take (i := 3) (oi := _) (v := .int .u64 (m : Int)) rfl (by kernel_rfl) (by kernel_rfl) (by kernel_rfl) (fun _ _ _ h => h) (Or.inl ⟨by rfl, ?_⟩) hH0 ?_
      · intro w hSw; go_simp; exact u64_id _ (by omega)
      simp only [Act.put, List.getElem_toArray, List.getElem_cons_zero, List.getElem_cons_succ, List.setIfInBounds_toArray, List.set_cons_zero, List.set_cons_succ]
      refine wpAnyH_take (i := 4) (oi := _) (v := .pointer (some ⟨NB, 2, none⟩)) rfl (by kernel_rfl) (by kernel_rfl) (by kernel_rfl) (fun _ _ _ h => h) (Or.inl ⟨by rfl, ?_⟩) hH0 ?_
      · intro w hSw; go_simp
      simp only [Act.put, List.getElem_toArray, List.getElem_cons_zero, List.getElem_cons_succ, List.setIfInBounds_toArray, List.set_cons_zero, List.set_cons_succ]
      refine wpAnyH_take (i := 5) (oi := _) (v := .int .i64 (s : Int)) rfl (by kernel_rfl) (by kernel_rfl) (by kernel_rfl) (fun _ _ _ h => h) (Or.inl ⟨by rfl, ?_⟩) hH0 ?_
      · intro w hSw; have q1 := hSw.box.1 2 _ hYs; go_simp
      simp only [Act.put, List.getElem_toArray, List.getElem_cons_zero, List.getElem_cons_succ, List.setIfInBounds_toArray, List.set_cons_zero, List.set_cons_succ]
      refine wpAnyH_take (i := 6) (oi := _) (v := .int .u64 (s : Int)) rfl (by kernel_rfl) (by kernel_rfl) (by kernel_rfl) (fun _ _ _ h => h) (Or.inl ⟨by rfl, ?_⟩) hH0 ?_
      · intro w hSw; go_simp; exact u64_id _ (by omega)
      simp only [Act.put, List.getElem_toArray, List.getElem_cons_zero, List.getElem_cons_succ, List.setIfInBounds_toArray, List.set_cons_zero, List.set_cons_succ]
      refine wpAnyH_take (i := 9) (oi := _) (v := .pointer (some ⟨NB, 3, none⟩)) rfl (by kernel_rfl) (by kernel_rfl) (by kernel_rfl) (fun _ _ _ h => h) (Or.inl ⟨by rfl, ?_⟩) hH0 ?_
      · intro w hSw; go_simp
      simp only [Act.put, List.getElem_toArray, List.getElem_cons_zero, List.getElem_cons_succ, List.setIfInBounds_toArray, List.set_cons_zero, List.set_cons_succ]
      refine wpAnyH_take (i := 10) (oi := _) (v := .slice (some ⟨NB, 3, none⟩) 32 32) rfl (by kernel_rfl) (by kernel_rfl) (by kernel_rfl) (fun _ _ _ h => h) (Or.inl ⟨by rfl, ?_⟩) hH0 ?_
      · intro w hSw; go_simp
      simp only [Act.put, List.getElem_toArray, List.getElem_cons_zero, List.getElem_cons_succ, List.setIfInBounds_toArray, List.set_cons_zero, List.set_cons_succ]
      refine wpAnyH_ready (rs := [7]) (by kernel_rfl) (by simp) (AllReadyH.cons (o := _) rfl (fun K hK => ?_) AllReadyH.nil)
      go_simp
      have HS1 := (HY.allocAt w5.heap.size [.int .u64 (m : Int), .int .u64 (s : Int)] 100 rfl).drew
      refine hK.out _ _ ?_ (fun hH1 => ?_)
      · exact HS1.box 1 rfl
      clear hK K
      refine wpAnyH_ready (rs := [8]) (by kernel_rfl) (by simp) (AllReadyH.cons (o := _) rfl (fun K hK => ?_) AllReadyH.nil)
      go_simp
      have hr := SlV.of_own (HS1.row 2 rfl)
      have hU := slv_box (HS1.box 0 rfl) 0 (uVs [m, s]) 2 (by decide) (fun j u hu => by rw [Nat.zero_add]; exact hu)
      have hv := vPut_any t ta tc [m, s] (some ⟨w5.heap.size, 0, none⟩) 2 _ hr hU (by simp; omega) (by omega) (by simp)
      refine hv.mono ?_
      clear hv hr hU
      rintro e w6 ⟨a6, c6, rfl, ho6, hb6⟩
      have HS2 : Sep w NoF [.row 5 1 (.slice a6 (t ++ vbs [m, s]).length c6) (t ++ vbs [m, s]).length (byteVs (t ++ vbs [m, s])), .box NB (ptV y) 53, .box w.heap.size (mfV x (some ⟨bb, off, none⟩) c) 48] w6 := ((HS1.drop 0).drop 1).belowRow hb6 ho6
      refine hK.out _ _ ?_ (fun hH2 => ?_)
      · exact HS2.box 1 rfl
      clear hK K
      refine wpAnyH_ready (rs := [11]) (by kernel_rfl) (by simp) (AllReadyH.cons (o := _) rfl (fun K hK => ?_) AllReadyH.nil)
      refine Sep.appendSlStep etBytes rfl (.tmp 52) (.tmp 54) rfl HS2 0 rfl rfl 32 (byteVs y.d) _ rfl (slv_box (HS2.box 1 rfl) 3 (byteVs y.d) 32 (by decide) (fun j u hu => by unfold ptV; rw [List.getElem?_append_right (by simp)]; simpa using hu)) (by rw [byteVs_length, HDL2.out]) (byteVs_one _) (by rw [List.length_append]; omega) ?_
      intro a7 c7 w7 HA7
      have HS3 : Sep w NoF [.row 5 1 (.slice a7 (t ++ partB y).length c7) (t ++ partB y).length (byteVs (t ++ partB y)), .box NB (ptV y) 53, .box w.heap.size (mfV x (some ⟨bb, off, none⟩) c) 48] w7 := by
        have h7 := HA7
        rw [← byteVs_append, HPY.out, HLT.out] at h7
        exact h7
      refine hK.out _ _ ?_ (fun hH3 => ?_)
      · exact HS3.box 1 rfl
      clear hK K
      refine wpAnyH_take (i := 12) (oi := _) (v := .slice a7 ((t ++ vbs [m, s]).length + 32) c7) rfl (by kernel_rfl) (by kernel_rfl) (by kernel_rfl) (fun _ _ _ h => h) (Or.inl ⟨by rfl, ?_⟩) hH3 ?_
      · intro w hSw; go_simp
      simp only [Act.put, List.getElem_toArray, List.getElem_cons_zero, List.getElem_cons_succ, List.setIfInBounds_toArray, List.set_cons_zero, List.set_cons_succ]
      refine wpAnyH_done (by kernel_rfl) ?_ _
      obtain ⟨t2, ht2⟩ : ∃ t2, t2 = t ++ partB y := ⟨_, rfl⟩
      have htl2 : t2.length ≤ 60000 + 52 * (k + 1) := by rw [ht2, ← HLT.out, List.length_append]; omega
      rw [← ht2] at HTN HS3
      try rw [← ht2]
      have HS4 := HS3.drop 1
      clear HS3
      go_wp2_with fail
      go_roundw
      case rel => exact ⟨k + 1, t2, a7, c7, by go_num, by omega, by rw [ht2, ← HLT.out], HTN, htl2, HS4⟩
      case measure => simp [intOf]; omega
    · obtain rfl : k = x.ps.length := by omega
      have HTE := Lib.hid' (show t = x.text by rw [HT.out, List.take_length, text_pre])
      have htl6 : t.length ≤ 60000 := by rw [HTE.out]; exact HTL.out
      have hft : ¬ 65536 < t.length := by omega
      have HFP := Lib.hid' (fput_any [] t none ta 0 tc wr (SlV.empty _ _ _ (Nat.zero_le _) (fun _ => rfl)) (SlV.of_own (H5.row 0 rfl)) (by simp))
      have HE1 := Lib.hid' (show fputN t = 0 from if_neg hft)
      have HE2 := Lib.hid' (show fputB [] t = mputB x by unfold fputB; rw [if_neg hft, HPB.out, HTE.out]; rfl)
      clear HT htl htl6 hft
      go_wp2_with fail
      refine HFP.out.mono ?_
      clear HFP
      rintro e w6 ⟨fa, fc, rfl, ho6, hb6⟩
      rw [HE2.out] at ho6
      rw [HE1.out, HE2.out, errV_0]
      have HFIN := Lib.hid' (show MPutR x w (.returned (.tuple #[.slice fa (mputB x).length fc, .nilIface])) w6 from ⟨fa, fc, by rw [HCZ.out, errV_0], SlV.of_own ho6, (H5.below hb6).toBelow⟩)
      clear ho6 hb6 H5
      go_wp2
      refine bodyPost_ret (v := .tuple #[.slice fa (mputB x).length fc, .nilIface]) (by simp [results, Tryz.results56, go_sem]) rfl HFIN.out
end Go.Proofs.YtinbcehlpfnlaaaGreatDoor
