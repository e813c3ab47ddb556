/- Layer 2 (crc): Sum, four, Sealed of a maker that is new. -/
import Derived.Test.YtkljeefncopodaaGreatCrcS
import Derived.Test.YtkljeefncopodaaGreatSlB
namespace Go.Proofs.YtkljeefncopodaaGreat
open Go.RowKit
set_option linter.unusedSimpArgs false
set_option linter.unusedVariables false
set_option maxRecDepth 100000

/-- a row of the call's own is handed back; F: what else was written -/
def OwnRF (B e size n : Nat) (xs : List Value) (F : Nat → Prop) (w : World) (en : Ending) (w' : World) : Prop := ∃ a c, en = .returned (.slice a n c) ∧ w'.ownsRow B e size (.slice a n c) n xs ∧ Fr F w w'
def freshR : List Value := mkR (.int .u32 0) (.int .i32 0) (.int .u32 0) 0 (.int .i64 0)
theorem fr2 {M : Nat} {a b c : World} (h : Fr (fun k => k = M) a b) (k : Fr (fun k => k = M) b c) : Fr (fun k => k = M) a c := h.trans k (fun i hi => .inl hi)
set_option maxHeartbeats 1000000 in
theorem extendM_any (M : Nat) (a : Option Addr) (c : Nat) (b : List UInt8) (w : World) (h : BoxW M freshR 230 w) (hb : Bytes w (.slice a b.length c) b) :
    Calls Tryz.prog 163 #[.pointer (some ⟨M, 0, none⟩), .int .u32 0, .slice a b.length c] w fun e w' => e = .returned (.int .u32 (crcOf 0 b)) ∧ Fr (fun k => k = M) w w' := by
  have HX := Lib.hid' h
  have HB := Lib.hid' hb
  clear h hb
  go_enter Tryz.func163, Tryz.ntmps163
  go_wp2_with fail
  refine (ask_any M _ _ _ 0 w HX.out).mono ?_
  rintro e w1 ⟨rfl, hx1, hf1⟩
  have HX1 := Lib.hid' hx1
  have HF1 := Lib.hid' hf1
  have HB1 := Lib.hid' (show Bytes w1 (.slice a b.length c) b from HX.out.bytes (fun x => mkR_no _ _ _ _ _ x) HB.out hf1)
  clear hx1 hf1
  go_wp2_with fail
  refine (extend_any M 0 1 0 (by decide) a c b w1 HX1.out HB1.out).mono ?_
  rintro e w2 ⟨rfl, hx2, hf2⟩
  have HF2 := Lib.hid' (fr2 HF1.out hf2)
  clear hx2 hf2
  go_wp2
  go_ret
  exact ⟨rfl, HF2.out⟩
set_option maxHeartbeats 1000000 in
theorem sum_any (M : Nat) (a : Option Addr) (c : Nat) (b : List UInt8) (w : World) (h : BoxW M freshR 230 w) (hb : Bytes w (.slice a b.length c) b) :
    Calls Tryz.prog 157 #[.pointer (some ⟨M, 0, none⟩), .slice a b.length c] w fun e w' => e = .returned (.int .u32 (crcOf 0 b)) ∧ Fr (fun k => k = M) w w' := by
  have HX := Lib.hid' h
  have HB := Lib.hid' hb
  clear h hb
  go_enter Tryz.func157, Tryz.ntmps157
  go_wp2_with fail
  refine (extendM_any M a c b w HX.out HB.out).mono ?_
  rintro e w2 ⟨rfl, hf2⟩
  have HF2 := Lib.hid' hf2
  clear hf2
  go_wp2
  go_ret
  exact ⟨rfl, HF2.out⟩
theorem four_any (x : Nat) (hx : x < 4294967296) (w : World) : Calls Tryz.prog 156 #[.int .u32 x] w (OwnR w.heap.size 5 1 4 (byteVs (four x)) w) := by
  go_enter Tryz.func156, Tryz.ntmps156
  go_wp2
  go_ret
  refine ⟨_, _, rfl, ?_, by go_grown⟩
  have := slv_alloc w (byteVs (four x)) 4 5 (by decide) rfl
  have e : byteVs (four x) = [.int .u8 ((x : Int) / 16777216), .int .u8 ((x : Int) / 65536 % 256), .int .u8 ((x : Int) / 256 % 256), .int .u8 ((x : Int) % 256)] := by
    simp [byteVs, four, byteV]
    omega
  rw [e] at this ⊢
  exact this

set_option maxHeartbeats 1000000 in
theorem sealed_any (M : Nat) (a : Option Addr) (c : Nat) (b : List UInt8) (w : World) (h : BoxW M freshR 230 w) (hb : Bytes w (.slice a b.length c) b) (hl : b.length ≤ 1048576) :
    Calls Tryz.prog 126 #[.pointer (some ⟨M, 0, none⟩), .slice a b.length c] w (OwnRF w.heap.size 5 1 (b ++ four (crcOf 0 b)).length (byteVs (b ++ four (crcOf 0 b))) (fun k => k = M) w) := by
  have HX := Lib.hid' h
  have HB := Lib.hid' hb
  have hcr := crcOf_lt (s := 0) (by decide) b
  clear h hb
  go_enter Tryz.func126, Tryz.ntmps126
  go_wp2_with fail
  refine (sum_any M a c b w HX.out HB.out).mono ?_
  rintro e w1 ⟨rfl, hf1⟩
  have HF1 := Lib.hid' hf1
  have HB1 := Lib.hid' (show Bytes w1 (.slice a b.length c) b from HX.out.bytes (fun x => mkR_no _ _ _ _ _ x) HB.out hf1)
  have hz1 := hf1.size
  clear hf1
  obtain ⟨x, hx⟩ : ∃ x, crcOf 0 b = x := ⟨_, rfl⟩
  rw [hx] at hcr ⊢
  have HXE := Lib.hid' hx
  clear hx
  go_wp2_with fail
  refine (four_any x hcr w1).mono ?_
  rintro e w2 ⟨a2, c2, rfl, ho2, hb2⟩
  have HF2 := Lib.hid' (HF1.out.trans_below hb2)
  have HB2 := Lib.hid' (show Bytes w2 (.slice a b.length c) b from SlV.below HB1.out (Nat.le_refl _) hb2)
  have HO2 := Lib.hid' ho2
  have hz2 := hb2.size
  clear ho2 hb2
  go_wp2_with fail
  have hg : Below w2.heap.size w2 (w2.alloc (.cells #[.slice a b.length c, .slice a2 4 c2] 22)) := by go_grown
  have HCH := Lib.hid' (show Cbs (w2.alloc (.cells #[.slice a b.length c, .slice a2 4 c2] 22)) (some ⟨w2.heap.size, 0, none⟩) 2 [(b, a, c), (four x, a2, c2)] from
    ⟨SlV.of_own (slv_alloc w2 [.slice a b.length c, .slice a2 4 c2] 2 22 (by decide) rfl), fun y hy => by
      simp only [List.mem_cons, List.not_mem_nil, or_false] at hy
      rcases hy with rfl | rfl
      · exact SlV.below HB2.out (Nat.le_refl _) hg
      · exact SlV.below (SlV.of_own HO2.out) (Nat.le_refl _) hg⟩)
  have hfb : flatB [(b, a, c), (four x, a2, c2)] = b ++ four x := by simp [flatB]
  have hcc := concatB_any [(b, a, c), (four x, a2, c2)] (some ⟨w2.heap.size, 0, none⟩) 2 _ HCH.out (by rw [hfb]; simp [four_length]; omega)
  rw [hfb] at hcc
  have HG := Lib.hid' (HF2.out.trans_below hg)
  clear hg hfb
  refine hcc.mono ?_
  rintro e w3 ⟨a3, c3, rfl, ho3, hb3⟩
  have HO3 := Lib.hid' (own_base (B' := w.heap.size) ho3 (by simp; omega))
  have HF3 := Lib.hid' (HG.out.trans_below hb3)
  clear ho3 hb3 hcc
  obtain ⟨r, hr⟩ : ∃ r, b ++ four x = r := ⟨_, rfl⟩
  have HR := Lib.hid' (show b ++ four (crcOf 0 b) = r by rw [HXE.out]; exact hr)
  rw [hr] at HO3 ⊢
  clear hr
  go_wp2
  go_ret
  exact ⟨a3, c3, ret_eq (by rw [HR.out]; rfl), by rw [HR.out]; exact HO3.out, HF3.out⟩
end Go.Proofs.YtkljeefncopodaaGreat
