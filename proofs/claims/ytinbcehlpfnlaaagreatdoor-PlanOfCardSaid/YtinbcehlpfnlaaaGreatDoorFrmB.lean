/- Layer 4 (frame): Put, Take, One. -/
import Derived.Test.YtinbcehlpfnlaaaGreatDoorFrmA
namespace Go.Proofs.YtinbcehlpfnlaaaGreatDoor
open Go.RowKit
set_option linter.unusedSimpArgs false
set_option linter.unusedVariables false
set_option maxRecDepth 100000

/-- a text's frame behind bytes; an error's number -/
def fputN (t : List UInt8) : Nat := if 65536 < t.length then 3 else 0
def fputB (b t : List UInt8) : List UInt8 := if 65536 < t.length then [] else b ++ frameB t
def FPutR (b t : List UInt8) (w : World) (en : Ending) (w' : World) : Prop :=
  ∃ a c, en = .returned (.tuple #[.slice a (fputB b t).length c, errV (fputN t)]) ∧ w'.ownsRow w.heap.size 5 1 (.slice a (fputB b t).length c) (fputB b t).length (byteVs (fputB b t)) ∧ Below w.heap.size w w'
set_option maxHeartbeats 2000000 in
theorem fput_any (b t : List UInt8) (a ta : Option Addr) (c tc : Nat) (w : World) (h : Bytes w (.slice a b.length c) b) (hT : Bytes w (.slice ta t.length tc) t) (hb : b.length ≤ 1073741824) :
    Calls Tryz.prog 72 #[.slice a b.length c, .slice ta t.length tc] w (FPutR b t w) := by
  have HB := Lib.hid' h
  have HT := Lib.hid' hT
  have htl := bytes_len hT
  clear h hT
  by_cases hl : 65536 < t.length
  · have H1 := Lib.hid' (show fputN t = 3 from if_pos hl)
    have H2 := Lib.hid' (show fputB b t = [] from if_pos hl)
    go_enter Tryz.func72, Tryz.ntmps72
    go_wp2
    refine bodyPost_ret (v := .tuple #[.slice none 0 0, .iface 59 (.int .i64 3)]) (by simp [results, Tryz.results72, go_sem]) rfl ?_
    exact ⟨none, 0, by rw [H1.out, H2.out]; rfl, by rw [H2.out]; exact own_nil _ _ _ _, Below.refl _ _⟩
  have H1 := Lib.hid' (show fputN t = 0 from if_neg hl)
  have H2 := Lib.hid' (show fputB b t = b ++ frameB t from if_neg hl)
  go_enter Tryz.func72, Tryz.ntmps72
  go_wp2_with fail
  refine (crcnew_any w).mono ?_
  rintro e w1 ⟨rfl, hx1, hb1, hz1⟩
  have HX1 := Lib.hid' (show BoxW w.heap.size freshR 166 w1 from hx1)
  have HB1 := Lib.hid' hb1
  have HT1 := Lib.hid' (show Bytes w1 (.slice ta t.length tc) t from SlV.below HT.out (Nat.le_refl _) hb1)
  clear hx1 hb1
  go_wp2_with fail
  refine (vPutText_any [] t none ta 0 tc w1 (SlV.empty _ _ _ (Nat.zero_le _) (fun _ => rfl)) HT1.out (by simp) (by omega)).mono ?_
  rintro e w2 ⟨a2, c2, rfl, ho2, hb2⟩
  rw [List.nil_append] at ho2 ⊢
  have HX2 := Lib.hid' (HX1.out.below (Nat.le_refl _) hb2)
  have HB2 := Lib.hid' (HB1.out.trans (hb2.mono (by omega)))
  have HO2 := Lib.hid' (show Bytes w2 (.slice a2 (headB t).length c2) (headB t) from SlV.of_own ho2)
  have hz2 : w.heap.size < w2.heap.size := by have := hb2.size; omega
  have hhl : (headB t).length ≤ 65556 := by
    have := vb_len10 (n := t.length) (by omega)
    unfold headB; rw [List.length_append]; omega
  clear ho2 hb2 HT1
  obtain ⟨hd, hhd⟩ : ∃ hd, hd = headB t := ⟨_, rfl⟩
  have HHD := Lib.hid' hhd
  rw [← hhd] at HO2 hhl ⊢
  clear hhd
  go_wp2_with fail
  refine (sealed_any w.heap.size a2 c2 hd w2 HX2.out HO2.out (by omega)).mono ?_
  rintro e w3 ⟨a3, c3, rfl, ho3, hf3⟩
  have HFR := Lib.hid' (show hd ++ four (crcOf 0 hd) = frameB t by unfold frameB; rw [HHD.out])
  rw [HFR.out] at ho3 ⊢
  have HB3 := Lib.hid' (HB2.out.trans (hf3.below (by omega) (fun k hk => by omega)))
  have HO3 := Lib.hid' (show Bytes w3 (.slice a3 (frameB t).length c3) (frameB t) from SlV.of_own ho3)
  have hz3 : w.heap.size < w3.heap.size := by have := hf3.size; omega
  have hfl : (frameB t).length ≤ 70000 := by rw [frameB_len]; have := vb_len10 (n := t.length) (by omega); omega
  clear ho3 hf3 HX1 HX2 HB1
  obtain ⟨fr, hfr⟩ : ∃ fr, fr = frameB t := ⟨_, rfl⟩
  have HFF := Lib.hid' hfr
  rw [← hfr] at HO3 hfl ⊢
  clear hfr HFR
  go_wp2_with fail
  have HBx := Lib.hid' (show Bytes w3 (.slice a b.length c) b from SlV.below HB.out (Nat.le_refl _) HB3.out)
  have hg : Below w3.heap.size w3 (w3.alloc (.cells #[.slice a b.length c, .slice a3 fr.length c3] 85)) := by go_grown
  have HCH := Lib.hid' (show Cbs (w3.alloc (.cells #[.slice a b.length c, .slice a3 fr.length c3] 85)) (some ⟨w3.heap.size, 0, none⟩) 2 [(b, a, c), (fr, a3, c3)] from
    ⟨SlV.of_own (slv_alloc w3 [.slice a b.length c, .slice a3 fr.length c3] 2 85 (by decide) rfl), fun y hy => by
      simp only [List.mem_cons, List.not_mem_nil, or_false] at hy
      rcases hy with rfl | rfl
      · exact SlV.below HBx.out (Nat.le_refl _) hg
      · exact SlV.below HO3.out (Nat.le_refl _) hg⟩)
  have hfb : flatB [(b, a, c), (fr, a3, c3)] = b ++ fr := by simp [flatB]
  have hcc := concatB_any [(b, a, c), (fr, a3, c3)] (some ⟨w3.heap.size, 0, none⟩) 2 _ HCH.out (by rw [hfb, List.length_append]; omega)
  rw [hfb] at hcc
  have HG := Lib.hid' (HB3.out.trans (hg.mono (by omega)))
  clear hg hfb
  refine hcc.mono ?_
  rintro e w4 ⟨a4, c4, rfl, ho4, hb4⟩
  have HO4 := Lib.hid' (own_base (B' := w.heap.size) ho4 (by simp; omega))
  have HB4 := Lib.hid' (HG.out.trans (hb4.mono (by simp; omega)))
  clear ho4 hb4 hcc
  obtain ⟨r, hr⟩ : ∃ r, r = b ++ fr := ⟨_, rfl⟩
  have HR := Lib.hid' (show fputB b t = r by rw [H2.out, ← HFF.out, hr])
  rw [← hr] at HO4 ⊢
  clear hr
  go_wp2
  refine bodyPost_ret (v := .tuple #[.slice a4 r.length c4, .nilIface]) (by simp [results, Tryz.results72, go_sem]) rfl ?_
  exact ⟨a4, c4, by rw [H1.out, HR.out]; rfl, by rw [HR.out]; exact HO4.out, HB4.out⟩
end Go.Proofs.YtinbcehlpfnlaaaGreatDoor
