/- Layers 2, 4: Opened; frame.Put, Take, One. -/
import Derived.Test.YtkljeefncopodaaGreatCrc
import Derived.Test.YtkljeefncopodaaGreatVar
namespace Go.Proofs.YtkljeefncopodaaGreat
open Go.RowKit
set_option linter.unusedSimpArgs false
set_option linter.unusedVariables false
set_option maxRecDepth 100000

/-- bytes without their sum -/
def openB (b : List UInt8) : Nat × List UInt8 := if b.length < 4 then (2, []) else if four (crcOf 0 (b.take (b.length - 4))) = b.drop (b.length - 4) then (0, b.take (b.length - 4)) else (11, [])
def OpenR (r : Nat × List UInt8) (F : Nat → Prop) (w : World) (en : Ending) (w' : World) : Prop :=
  ∃ a c, en = .returned (.tuple #[.slice a r.2.length c, errV r.1]) ∧ w'.ownsRow w.heap.size 5 1 (.slice a r.2.length c) r.2.length (byteVs r.2) ∧ Fr F w w'
set_option maxHeartbeats 2000000 in
theorem opened_any (M : Nat) (a : Option Addr) (c : Nat) (b : List UInt8) (w : World) (h : BoxW M freshR 230 w) (hb : Bytes w (.slice a b.length c) b) (hl : b.length ≤ 1048576) :
    Calls Tryz.prog 150 #[.pointer (some ⟨M, 0, none⟩), .slice a b.length c] w (OpenR (openB b) (fun k => k = M) w) := by
  have HX := Lib.hid' h
  have HB := Lib.hid' hb
  have hcap : b.length ≤ c ∧ c ≤ maxLen := by obtain ⟨_, _, he, h1, h2, _⟩ := hb; cases he; exact ⟨h1, h2⟩
  have hcm : c ≤ 9223372036854775807 := by have := hcap.2; unfold maxLen at this; omega
  clear h hb
  by_cases hlen : b.length < 4
  · have HR := Lib.hid' (show openB b = (2, []) by unfold openB; rw [if_pos hlen])
    go_enter Tryz.func150, Tryz.ntmps150
    go_wp2_with fail
    refine (ask_any M _ _ _ 0 w HX.out).mono ?_
    rintro e w1 ⟨rfl, hx1, hf1⟩
    have HF1 := Lib.hid' hf1
    clear hx1 hf1
    go_wp2
    refine bodyPost_ret (v := .tuple #[.slice none 0 0, .iface 71 (.int .i64 2)]) (by simp [results, Tryz.results150, go_sem]) rfl ?_
    rw [HR.out]
    exact ⟨none, 0, rfl, own_nil _ _ _ _, HF1.out⟩
  obtain ⟨m, hm⟩ : ∃ m, b.length = m + 4 := ⟨b.length - 4, by omega⟩
  obtain ⟨bb, off, rfl, hbb, hcc⟩ := bytes_at HB.out (show 0 < b.length by omega)
  clear hcc
  have HT := Lib.hid' (bytes_take HB.out (k := m) (by omega))
  have HTL := Lib.hid' (show (b.take m).length = m by rw [List.length_take]; omega)
  have HD := Lib.hid' (bytes_drop HB.out (k := m) (by omega))
  rw [show b.length - m = 4 by omega] at HD
  have HDL := Lib.hid' (show (b.drop m).length = 4 by rw [List.length_drop]; omega)
  have HO := Lib.hid' (show openB b = if four (crcOf 0 (b.take m)) = b.drop m then (0, b.take m) else (11, []) by
    unfold openB; rw [if_neg hlen, show b.length - 4 = m by omega])
  have hml : m ≤ 1048576 := by omega
  have hmc : m < c := by omega
  have hmc4 : m + 4 ≤ c := by omega
  have hsum := sum_any M (some ⟨bb, off, none⟩) c (b.take m) w.drew HX.out (by rw [HTL.out]; exact HT.out)
  rw [HTL.out] at hsum
  have HSUM := Lib.hid' hsum
  have hcr := crcOf_lt (s := 0) (by decide) (b.take m)
  have hcl : ∀ w1 : World, Bytes w1 (.slice (some ⟨bb, off, none⟩) m c) (b.take m) → _ := fun w1 h1 => clone_any (.slice (some ⟨bb, off, none⟩) m c) (b.take m) w1 h1 (by rw [HTL.out]; omega)
  rw [HTL.out] at hcl
  have HCL := Lib.hid' hcl
  rw [hm]
  obtain ⟨x, hx⟩ : ∃ x, x = crcOf 0 (b.take m) := ⟨_, rfl⟩
  rw [← hx] at HSUM HO hcr
  clear hlen hm hcap hsum hcl hx
  obtain ⟨eq, heq⟩ : ∃ eq, eq = (four x == b.drop m) := ⟨_, rfl⟩
  have HEQ := Lib.hid' heq
  clear heq
  go_enter Tryz.func150, Tryz.ntmps150
  cases eq

  · go_wp2_with fail
    refine wp_region_held_drew (S := (fun _ => True)) (by kernel_rfl) trivial (fun hH0 => ?_)
    refine wpAnyH_take (i := 0) (oi := _) (v := .pointer (some ⟨M, 0, none⟩)) rfl (by kernel_rfl) (by kernel_rfl) (by kernel_rfl) (fun _ _ _ h => h) (Or.inl ⟨by rfl, ?_⟩) hH0 ?_
    · intro w hSw; go_simp
    simp only [Act.put, List.getElem_toArray, List.getElem_cons_zero, List.getElem_cons_succ, List.setIfInBounds_toArray, List.set_cons_zero, List.set_cons_succ]
    refine wpAnyH_take (i := 1) (oi := _) (v := .slice (some ⟨bb, off, none⟩) (m + 4) c) rfl (by kernel_rfl) (by kernel_rfl) (by kernel_rfl) (fun _ _ _ h => h) (Or.inl ⟨by rfl, ?_⟩) hH0 ?_
    · intro w hSw; go_simp
    simp only [Act.put, List.getElem_toArray, List.getElem_cons_zero, List.getElem_cons_succ, List.setIfInBounds_toArray, List.set_cons_zero, List.set_cons_succ]
    refine wpAnyH_take (i := 2) (oi := _) (v := .int .i64 (m : Int)) rfl (by kernel_rfl) (by kernel_rfl) (by kernel_rfl) (fun _ _ _ h => h) (Or.inl ⟨by rfl, ?_⟩) hH0 ?_
    · intro w hSw; go_simp
    simp only [Act.put, List.getElem_toArray, List.getElem_cons_zero, List.getElem_cons_succ, List.setIfInBounds_toArray, List.set_cons_zero, List.set_cons_succ]
    refine wpAnyH_take (i := 3) (oi := _) (v := .slice (some ⟨bb, off, none⟩) m c) rfl (by kernel_rfl) (by kernel_rfl) (by kernel_rfl) (fun _ _ _ h => h) (Or.inl ⟨by rfl, ?_⟩) hH0 ?_
    · intro w hSw; go_simp; (intro h; exfalso; omega)
    simp only [Act.put, List.getElem_toArray, List.getElem_cons_zero, List.getElem_cons_succ, List.setIfInBounds_toArray, List.set_cons_zero, List.set_cons_succ]
    refine wpAnyH_take (i := 6) (oi := _) (v := .slice (some ⟨bb, off, none⟩) (m + 4) c) rfl (by kernel_rfl) (by kernel_rfl) (by kernel_rfl) (fun _ _ _ h => h) (Or.inl ⟨by rfl, ?_⟩) hH0 ?_
    · intro w hSw; go_simp
    simp only [Act.put, List.getElem_toArray, List.getElem_cons_zero, List.getElem_cons_succ, List.setIfInBounds_toArray, List.set_cons_zero, List.set_cons_succ]
    refine wpAnyH_take (i := 7) (oi := _) (v := .int .i64 (m : Int)) rfl (by kernel_rfl) (by kernel_rfl) (by kernel_rfl) (fun _ _ _ h => h) (Or.inl ⟨by rfl, ?_⟩) hH0 ?_
    · intro w hSw; go_simp
    simp only [Act.put, List.getElem_toArray, List.getElem_cons_zero, List.getElem_cons_succ, List.setIfInBounds_toArray, List.set_cons_zero, List.set_cons_succ]
    refine wpAnyH_take (i := 8) (oi := _) (v := .slice (some ⟨bb, off + m, none⟩) 4 (c - m)) rfl (by kernel_rfl) (by kernel_rfl) (by kernel_rfl) (fun _ _ _ h => h) (Or.inl ⟨by rfl, ?_⟩) hH0 ?_
    · intro w hSw; go_simp; rw [if_pos (by omega), if_neg (by omega)]
    simp only [Act.put, List.getElem_toArray, List.getElem_cons_zero, List.getElem_cons_succ, List.setIfInBounds_toArray, List.set_cons_zero, List.set_cons_succ]
    refine wpAnyH_ready (rs := [4]) (by kernel_rfl) (by simp) (AllReadyH.cons (o := _) rfl (fun K hK => ?_) AllReadyH.nil)
    go_simp
    refine HSUM.out.mono ?_
    rintro e w1 ⟨rfl, hf1⟩
    have HF1 := Lib.hid' hf1
    have HT1 := Lib.hid' (show Bytes w1 (.slice (some ⟨bb, off, none⟩) m c) (b.take m) from HX.out.bytes (fun x => mkR_no _ _ _ _ _ x) HT.out ((Fr.of_below (F := fun k => k = M) (Below.drew (Below.refl _ w))).trans hf1 (fun i hi => .inl hi)))
    have HD1 := Lib.hid' (show Bytes w1 (.slice (some ⟨bb, off + m, none⟩) 4 (c - m)) (b.drop m) from HX.out.bytes (fun x => mkR_no _ _ _ _ _ x) HD.out ((Fr.of_below (F := fun k => k = M) (Below.drew (Below.refl _ w))).trans hf1 (fun i hi => .inl hi)))
    have HFW := Lib.hid' ((Fr.of_below (F := fun k => k = M) (Below.drew (Below.refl _ w))).trans hf1 (fun i hi => .inl hi))
    clear hf1
    refine hK.out _ _ ?_ (fun hH1 => ?_)
    · trivial
    clear hK K
    refine wpAnyH_ready (rs := [5]) (by kernel_rfl) (by simp) (AllReadyH.cons (o := _) rfl (fun K hK => ?_) AllReadyH.nil)
    go_simp
    refine (four_any x hcr w1).mono ?_
    rintro e w2 ⟨a2, c2, rfl, ho2, hb2⟩
    have HO2 := Lib.hid' ho2
    have HB2 := Lib.hid' hb2
    clear ho2 hb2
    refine hK.out _ _ ?_ (fun hH2 => ?_)
    · trivial
    clear hK K
    refine wpAnyH_ready (rs := [9]) (by kernel_rfl) (by simp) (AllReadyH.cons (o := _) rfl (fun K hK => ?_) AllReadyH.nil)
    go_simp
    refine (show Calls Tryz.prog 161 #[.slice a2 4 c2, .slice (some ⟨bb, off + m, none⟩) 4 (c - m)] w2 _ from by have := equalB_any (four x) (b.drop m) a2 (some ⟨bb, off + m, none⟩) c2 (c - m) w2 (SlV.of_own HO2.out) (by rw [HDL.out]; exact SlV.below HD1.out (Nat.le_refl _) HB2.out); rw [HDL.out, ← HEQ.out] at this; exact this).mono ?_
    rintro e w3 ⟨rfl, hb3⟩
    have HB3 := Lib.hid' hb3
    clear hb3
    refine hK.out _ _ ?_ (fun hH3 => ?_)
    · trivial
    clear hK K
    refine wpAnyH_take (i := 10) (oi := _) (v := .bool true) rfl (by kernel_rfl) (by kernel_rfl) (by kernel_rfl) (fun _ _ _ h => h) (Or.inl ⟨by rfl, ?_⟩) hH3 ?_
    · intro w hSw; go_simp
    simp only [Act.put, List.getElem_toArray, List.getElem_cons_zero, List.getElem_cons_succ, List.setIfInBounds_toArray, List.set_cons_zero, List.set_cons_succ]
    refine wpAnyH_done (by kernel_rfl) ?_ _
    have HF3 := Lib.hid' ((HFW.out.trans_below HB2.out).trans_below HB3.out)
    have HT3 := Lib.hid' (show Bytes w3 (.slice (some ⟨bb, off, none⟩) m c) (b.take m) from SlV.below (SlV.below HT1.out (Nat.le_refl _) HB2.out) (Nat.le_refl _) HB3.out)
    go_wp2_with fail
    have HR := Lib.hid' (show openB b = (11, []) by rw [HO.out, if_neg (by have := HEQ.out; rw [eq_comm, beq_eq_false_iff_ne] at this; exact this)])
    refine bodyPost_ret (v := .tuple #[.slice none 0 0, .iface 71 (.int .i64 11)]) (by simp [results, Tryz.results150, go_sem]) rfl ?_
    rw [HR.out]
    exact ⟨none, 0, rfl, own_nil _ _ _ _, HF3.out⟩

  · go_wp2_with fail
    refine wp_region_held_drew (S := (fun _ => True)) (by kernel_rfl) trivial (fun hH0 => ?_)
    refine wpAnyH_take (i := 0) (oi := _) (v := .pointer (some ⟨M, 0, none⟩)) rfl (by kernel_rfl) (by kernel_rfl) (by kernel_rfl) (fun _ _ _ h => h) (Or.inl ⟨by rfl, ?_⟩) hH0 ?_
    · intro w hSw; go_simp
    simp only [Act.put, List.getElem_toArray, List.getElem_cons_zero, List.getElem_cons_succ, List.setIfInBounds_toArray, List.set_cons_zero, List.set_cons_succ]
    refine wpAnyH_take (i := 1) (oi := _) (v := .slice (some ⟨bb, off, none⟩) (m + 4) c) rfl (by kernel_rfl) (by kernel_rfl) (by kernel_rfl) (fun _ _ _ h => h) (Or.inl ⟨by rfl, ?_⟩) hH0 ?_
    · intro w hSw; go_simp
    simp only [Act.put, List.getElem_toArray, List.getElem_cons_zero, List.getElem_cons_succ, List.setIfInBounds_toArray, List.set_cons_zero, List.set_cons_succ]
    refine wpAnyH_take (i := 2) (oi := _) (v := .int .i64 (m : Int)) rfl (by kernel_rfl) (by kernel_rfl) (by kernel_rfl) (fun _ _ _ h => h) (Or.inl ⟨by rfl, ?_⟩) hH0 ?_
    · intro w hSw; go_simp
    simp only [Act.put, List.getElem_toArray, List.getElem_cons_zero, List.getElem_cons_succ, List.setIfInBounds_toArray, List.set_cons_zero, List.set_cons_succ]
    refine wpAnyH_take (i := 3) (oi := _) (v := .slice (some ⟨bb, off, none⟩) m c) rfl (by kernel_rfl) (by kernel_rfl) (by kernel_rfl) (fun _ _ _ h => h) (Or.inl ⟨by rfl, ?_⟩) hH0 ?_
    · intro w hSw; go_simp; (intro h; exfalso; omega)
    simp only [Act.put, List.getElem_toArray, List.getElem_cons_zero, List.getElem_cons_succ, List.setIfInBounds_toArray, List.set_cons_zero, List.set_cons_succ]
    refine wpAnyH_take (i := 6) (oi := _) (v := .slice (some ⟨bb, off, none⟩) (m + 4) c) rfl (by kernel_rfl) (by kernel_rfl) (by kernel_rfl) (fun _ _ _ h => h) (Or.inl ⟨by rfl, ?_⟩) hH0 ?_
    · intro w hSw; go_simp
    simp only [Act.put, List.getElem_toArray, List.getElem_cons_zero, List.getElem_cons_succ, List.setIfInBounds_toArray, List.set_cons_zero, List.set_cons_succ]
    refine wpAnyH_take (i := 7) (oi := _) (v := .int .i64 (m : Int)) rfl (by kernel_rfl) (by kernel_rfl) (by kernel_rfl) (fun _ _ _ h => h) (Or.inl ⟨by rfl, ?_⟩) hH0 ?_
    · intro w hSw; go_simp
    simp only [Act.put, List.getElem_toArray, List.getElem_cons_zero, List.getElem_cons_succ, List.setIfInBounds_toArray, List.set_cons_zero, List.set_cons_succ]
    refine wpAnyH_take (i := 8) (oi := _) (v := .slice (some ⟨bb, off + m, none⟩) 4 (c - m)) rfl (by kernel_rfl) (by kernel_rfl) (by kernel_rfl) (fun _ _ _ h => h) (Or.inl ⟨by rfl, ?_⟩) hH0 ?_
    · intro w hSw; go_simp; rw [if_pos (by omega), if_neg (by omega)]
    simp only [Act.put, List.getElem_toArray, List.getElem_cons_zero, List.getElem_cons_succ, List.setIfInBounds_toArray, List.set_cons_zero, List.set_cons_succ]
    refine wpAnyH_ready (rs := [4]) (by kernel_rfl) (by simp) (AllReadyH.cons (o := _) rfl (fun K hK => ?_) AllReadyH.nil)
    go_simp
    refine HSUM.out.mono ?_
    rintro e w1 ⟨rfl, hf1⟩
    have HF1 := Lib.hid' hf1
    have HT1 := Lib.hid' (show Bytes w1 (.slice (some ⟨bb, off, none⟩) m c) (b.take m) from HX.out.bytes (fun x => mkR_no _ _ _ _ _ x) HT.out ((Fr.of_below (F := fun k => k = M) (Below.drew (Below.refl _ w))).trans hf1 (fun i hi => .inl hi)))
    have HD1 := Lib.hid' (show Bytes w1 (.slice (some ⟨bb, off + m, none⟩) 4 (c - m)) (b.drop m) from HX.out.bytes (fun x => mkR_no _ _ _ _ _ x) HD.out ((Fr.of_below (F := fun k => k = M) (Below.drew (Below.refl _ w))).trans hf1 (fun i hi => .inl hi)))
    have HFW := Lib.hid' ((Fr.of_below (F := fun k => k = M) (Below.drew (Below.refl _ w))).trans hf1 (fun i hi => .inl hi))
    clear hf1
    refine hK.out _ _ ?_ (fun hH1 => ?_)
    · trivial
    clear hK K
    refine wpAnyH_ready (rs := [5]) (by kernel_rfl) (by simp) (AllReadyH.cons (o := _) rfl (fun K hK => ?_) AllReadyH.nil)
    go_simp
    refine (four_any x hcr w1).mono ?_
    rintro e w2 ⟨a2, c2, rfl, ho2, hb2⟩
    have HO2 := Lib.hid' ho2
    have HB2 := Lib.hid' hb2
    clear ho2 hb2
    refine hK.out _ _ ?_ (fun hH2 => ?_)
    · trivial
    clear hK K
    refine wpAnyH_ready (rs := [9]) (by kernel_rfl) (by simp) (AllReadyH.cons (o := _) rfl (fun K hK => ?_) AllReadyH.nil)
    go_simp
    refine (show Calls Tryz.prog 161 #[.slice a2 4 c2, .slice (some ⟨bb, off + m, none⟩) 4 (c - m)] w2 _ from by have := equalB_any (four x) (b.drop m) a2 (some ⟨bb, off + m, none⟩) c2 (c - m) w2 (SlV.of_own HO2.out) (by rw [HDL.out]; exact SlV.below HD1.out (Nat.le_refl _) HB2.out); rw [HDL.out, ← HEQ.out] at this; exact this).mono ?_
    rintro e w3 ⟨rfl, hb3⟩
    have HB3 := Lib.hid' hb3
    clear hb3
    refine hK.out _ _ ?_ (fun hH3 => ?_)
    · trivial
    clear hK K
    refine wpAnyH_take (i := 10) (oi := _) (v := .bool false) rfl (by kernel_rfl) (by kernel_rfl) (by kernel_rfl) (fun _ _ _ h => h) (Or.inl ⟨by rfl, ?_⟩) hH3 ?_
    · intro w hSw; go_simp
    simp only [Act.put, List.getElem_toArray, List.getElem_cons_zero, List.getElem_cons_succ, List.setIfInBounds_toArray, List.set_cons_zero, List.set_cons_succ]
    refine wpAnyH_done (by kernel_rfl) ?_ _
    have HF3 := Lib.hid' ((HFW.out.trans_below HB2.out).trans_below HB3.out)
    have HT3 := Lib.hid' (show Bytes w3 (.slice (some ⟨bb, off, none⟩) m c) (b.take m) from SlV.below (SlV.below HT1.out (Nat.le_refl _) HB2.out) (Nat.le_refl _) HB3.out)
    go_wp2_with fail
    refine (HCL.out w3 HT3.out).mono ?_
    rintro e w4 ⟨a4, c4, rfl, ho4, hb4⟩
    have HR := Lib.hid' (show openB b = (0, b.take m) by rw [HO.out, if_pos (by have := HEQ.out; rw [eq_comm, beq_iff_eq] at this; exact this)])
    have HO4 := Lib.hid' (own_base (B' := w.heap.size) ho4 HF3.out.size)
    have HF4 := Lib.hid' (HF3.out.trans_below hb4)
    clear ho4 hb4
    go_wp2
    refine bodyPost_ret (v := .tuple #[.slice a4 m c4, .nilIface]) (by simp [results, Tryz.results150, go_sem]) rfl ?_
    rw [HR.out]
    exact ⟨a4, c4, by simp only [HTL.out]; rfl, by simp only [HTL.out]; exact HO4.out, HF4.out⟩

end Go.Proofs.YtkljeefncopodaaGreat
