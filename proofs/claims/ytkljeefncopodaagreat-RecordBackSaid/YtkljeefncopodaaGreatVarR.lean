/- Layer 1 (varint): the reader. -/
import Derived.Test.YtkljeefncopodaaGreatVarB
import Derived.Test.YtkljeefncopodaaGreatBase
import Derived.Laws.EntriesVeiled
namespace Go.Proofs.YtkljeefncopodaaGreat
open Go.RowKit
set_option linter.unusedSimpArgs false
set_option linter.unusedVariables false
set_option maxRecDepth 20000

/-- block b is a reader in the state r -/
def DLow (a : Option Addr) (n b : Nat) : Prop := n ≠ 0 → ∀ x, a = some x → x.block < b   -- what is left lies below the reader
theorem DLow.sub {a a2 : Option Addr} {n m b : Nat} (h : DLow a n b) (h1 : m ≠ 0 → n ≠ 0 ∧ ∃ bb o o2, a = some ⟨bb, o, none⟩ ∧ a2 = some ⟨bb, o2, none⟩) : DLow a2 m b := by
  intro hm x hx
  obtain ⟨hn, bb, o, o2, rfl, rfl⟩ := h1 hm
  cases hx
  exact h hn ⟨bb, o, none⟩ rfl
def RAt (w : World) (b : Nat) (r : RD) : Prop := ∃ a c, BoxW b [.slice a r.rest.length c, errV r.bad] 167 w ∧ Bytes w (.slice a r.rest.length c) r.rest ∧ DLow a r.rest.length b
def RR (v : Value) (b : Nat) (r : RD) (w : World) (e : Ending) (w' : World) : Prop := e = .returned v ∧ RAt w' b r ∧ Fr (fun k => k = b) w w'
theorem errV_no (n : Nat) (x : UInt8) : byteV x ≠ errV n := by unfold byteV errV; split <;> simp
theorem rat_no {a : Option Addr} {n c m : Nat} : ∀ x : UInt8, byteV x ∉ [Value.slice a n c, errV m] := by
  intro x h
  simp only [List.mem_cons, List.not_mem_nil, or_false] at h
  rcases h with h | h
  · simp [byteV] at h
  · exact errV_no m x h
theorem RAt.fr {F : Nat → Prop} {w w' : World} {b : Nat} {r : RD} (h : RAt w b r) (hf : Fr F w w') (hb : ¬ F b) (hd : ∀ a c, Bytes w (.slice a r.rest.length c) r.rest → Bytes w' (.slice a r.rest.length c) r.rest) : RAt w' b r := by
  obtain ⟨a, c, h1, h2, h3⟩ := h
  exact ⟨a, c, h1.fr hf hb, hd a c h2, h3⟩
/-- a write beyond the reader leaves it -/
theorem RAt.high {F : Nat → Prop} {w w' : World} {b : Nat} {r : RD} (h : RAt w b r) (hf : Fr F w w') (hb : ∀ k, F k → b < k) : RAt w' b r := by
  obtain ⟨a, c, h1, h2, h3⟩ := h
  refine ⟨a, c, h1.fr hf (fun h => by have := hb b h; omega), ?_, h3⟩
  by_cases hn : r.rest.length = 0
  · obtain ⟨rest, bad⟩ := r
    obtain rfl : rest = [] := List.eq_nil_of_length_eq_zero hn
    obtain ⟨a', c', he, k1, k2, k0, k3⟩ := h2
    exact ⟨a', c', he, k1, k2, k0, fun j u hu => by simp [byteVs] at hu⟩
  · obtain ⟨a', c', he, k1, k2, k0, k3⟩ := h2
    cases he
    refine ⟨_, _, rfl, k1, k2, k0, fun j u hu => ?_⟩
    obtain ⟨p, hp, hc⟩ := k3 j u hu
    refine ⟨p, hp, hf.cell hc (fun h => ?_)⟩
    have h5 := hb _ h
    have h4 := h3 hn p hp
    have h6 : (p.add j).block = p.block := by unfold Addr.add; split <;> rfl
    rw [h6] at h5
    omega
theorem RAt.below {w w' : World} {b : Nat} {r : RD} (h : RAt w b r) {B : Nat} (hB : w.heap.size ≤ B) (hb : Below B w w') : RAt w' b r := by
  obtain ⟨a, c, h1, h2, h3⟩ := h
  exact ⟨a, c, h1.below hB hb, SlV.below h2 hB hb, h3⟩
theorem RAt.lt {w : World} {b : Nat} {r : RD} (h : RAt w b r) : b < w.heap.size := by obtain ⟨a, c, h1, _⟩ := h; exact h1.lt
theorem vNew_any (l : List UInt8) (a : Option Addr) (c : Nat) (w : World) (h : Bytes w (.slice a l.length c) l) :
    Calls Tryz.prog 36 #[.slice a l.length c] w fun e w' => e = .returned (.pointer (some ⟨w.heap.size, 0, none⟩)) ∧ RAt w' w.heap.size ⟨l, 0⟩ ∧ Below w.heap.size w w' ∧ w'.heap.size = w.heap.size + 1 := by
  have HB := Lib.hid' h
  clear h
  go_enter Tryz.func36, Tryz.ntmps36
  go_wp2
  go_ret
  exact ⟨rfl, ⟨a, c, BoxW.start w [.slice a l.length c, errV 0] _, SlV.below HB.out (Nat.le_refl _) (by go_grown), fun hn x hx => by
    obtain ⟨bb, off, e, hbb, _⟩ := bytes_at (l := l) HB.out (show 0 < l.length by have : l.length ≠ 0 := hn; omega)
    rw [e] at hx; cases hx; exact hbb⟩, by go_grown, by simp⟩
theorem going_any (b : Nat) (r : RD) (w : World) (h : RAt w b r) : Calls Tryz.prog 99 #[.pointer (some ⟨b, 0, none⟩)] w fun e w' => e = .returned (.bool (decide (r.bad = 0))) ∧ w = w' := by
  obtain ⟨a, c, hx, _⟩ := h
  have c1 := hx.box.1 1 _ rfl
  have c0 := hx.box.1 0 _ rfl
  clear hx
  by_cases hb : r.bad = 0
  · have H := Lib.hid' hb
    rw [hb, errV_0] at c1
    clear hb
    go_enter Tryz.func99, Tryz.ntmps99
    go_wp2
    go_ret
    exact ⟨ret_eq (by rw [H.out]; rfl), rfl⟩
  · have H := Lib.hid' (show decide (r.bad = 0) = false from decide_eq_false hb)
    rw [errV_pos hb] at c1
    clear hb
    go_enter Tryz.func99, Tryz.ntmps99
    go_wp2
    go_ret
    exact ⟨ret_eq (by rw [H.out]; rfl), rfl⟩
set_option maxHeartbeats 1000000 in
theorem fail_any (b : Nat) (r : RD) (n : Nat) (hn : n ≠ 0) (w : World) (h : RAt w b r) : Calls Tryz.prog 39 #[.pointer (some ⟨b, 0, none⟩), .iface 71 (.int .i64 n)] w (RR (.tuple #[]) b (r.fail n) w) := by
  have H := Lib.hid' h
  have HG := Lib.hid' (going_any b r w h)
  obtain ⟨a, c, hx, hd, hlo⟩ := h
  have HLO := Lib.hid' hlo
  clear hlo
  have c1 := hx.box.1 1 _ rfl
  have f1 := hx.box.2.1 1
  have HX := Lib.hid' hx
  have HD := Lib.hid' hd
  have HN := Lib.hid' hn
  clear hx hd hn
  by_cases hb : r.bad = 0
  · have HR := Lib.hid' (show r.fail n = ⟨r.rest, n⟩ by unfold RD.fail; rw [if_pos hb])
    have hbd : decide (r.bad = 0) = true := decide_eq_true hb
    rw [hbd] at HG
    clear hb hbd
    go_enter Tryz.func39, Tryz.ntmps39
    go_wp2_with fail
    refine HG.out.mono ?_
    rintro e w1 ⟨rfl, rfl⟩
    clear HG
    go_wp2
    first | go_end0 | skip
    have hs := HX.out.set 1 (.iface 71 (.int .i64 n))
    refine ⟨rfl, ?_, fr_set _ _ _ _⟩
    rw [HR.out]
    exact ⟨a, c, by rw [errV_pos HN.out]; exact hs, HX.out.bytes rat_no HD.out (fr_set _ _ _ _), HLO.out⟩
  · have HR := Lib.hid' (show r.fail n = r by unfold RD.fail; rw [if_neg hb])
    have hbd : decide (r.bad = 0) = false := decide_eq_false hb
    rw [hbd] at HG
    clear hb hbd
    go_enter Tryz.func39, Tryz.ntmps39
    go_wp2_with fail
    refine HG.out.mono ?_
    rintro e w1 ⟨rfl, rfl⟩
    clear HG
    go_wp2
    first | go_end0 | skip
    exact ⟨rfl, by rw [HR.out]; exact H.out, Fr.refl _ _⟩
set_option maxHeartbeats 1000000 in
theorem number_any (b : Nat) (r : RD) (w : World) (h : RAt w b r) : Calls Tryz.prog 38 #[.pointer (some ⟨b, 0, none⟩)] w (RR (.int .u64 (r.num.1 : Nat)) b r.num.2 w) := by
  have H := Lib.hid' h
  have HG := Lib.hid' (going_any b r w h)
  obtain ⟨a, c, hx, hd, hlo⟩ := h
  have HLO := Lib.hid' hlo
  clear hlo
  have c0 := hx.box.1 0 _ rfl
  have c1 := hx.box.1 1 _ rfl
  have f0 := hx.box.2.1 0
  have f1 := hx.box.2.1 1
  have HX := Lib.hid' hx
  have HD := Lib.hid' hd
  have hlen := bytes_len hd
  have hcap : r.rest.length ≤ c ∧ c ≤ maxLen := by obtain ⟨_, _, he, h1, h2, _⟩ := hd; cases he; exact ⟨h1, h2⟩
  have hcm : c ≤ 9223372036854775807 := by have := hcap.2; unfold maxLen at this; omega
  have hT := vTake_any r.rest a c w hd
  clear hx hd
  by_cases hb : r.bad = 0
  rotate_left
  · have HR := Lib.hid' (show r.num = (0, r) from RD.num_bad hb)
    have hbd : decide (r.bad = 0) = false := decide_eq_false hb
    rw [hbd] at HG
    clear hb hbd hT
    go_enter Tryz.func38, Tryz.ntmps38
    go_wp2_with fail
    refine HG.out.mono ?_
    rintro e w1 ⟨rfl, rfl⟩
    clear HG
    go_wp2
    go_ret
    exact ⟨ret_eq (by rw [HR.out]; rfl), by rw [HR.out]; exact H.out, Fr.refl _ _⟩
  have hbd : decide (r.bad = 0) = true := decide_eq_true hb
  rw [hbd] at HG
  have HBD := Lib.hid' hb
  rw [hb] at HX c1
  clear hbd
  cases hv : vtake r.rest with
  | none =>
    rw [hv] at hT
    simp only [TakeR, errV_pos (n := 2) (by decide)] at hT
    have HT := Lib.hid' hT
    have HR := Lib.hid' (show r.num = (0, ⟨r.rest, 2⟩) by unfold RD.num; rw [if_neg (by simpa using hb), hv])
    clear hb hT hv
    go_enter Tryz.func38, Tryz.ntmps38
    go_wp2_with fail
    refine HG.out.mono ?_
    rintro e w1 ⟨rfl, rfl⟩
    clear HG
    go_wp2_with fail
    refine HT.out.mono ?_
    rintro e w1 ⟨rfl, rfl⟩
    clear HT
    go_wp2
    go_ret
    have hs := HX.out.set 1 (.iface 71 (.int .i64 2))
    refine ⟨ret_eq (by rw [HR.out]; rfl), ?_, fr_set _ _ _ _⟩
    rw [HR.out]
    exact ⟨a, c, by rw [errV_pos (n := 2) (by decide)]; exact hs, HX.out.bytes rat_no HD.out (fr_set _ _ _ _), HLO.out⟩
  | some p =>
    obtain ⟨n, k⟩ := p
    rw [hv] at hT
    simp only [TakeR] at hT
    have HT := Lib.hid' hT
    have HR := Lib.hid' (show r.num = (n, ⟨r.rest.drop k, 0⟩) by unfold RD.num; rw [if_neg (by simpa using hb), hv]; simp only [hb])
    obtain ⟨_, hn, hk10, hkl, hk0⟩ := vtake_some hv
    obtain ⟨bb, off, rfl, _, _⟩ := bytes_at HD.out (show 0 < r.rest.length by omega)
    have HLD := Lib.hid' (List.length_drop (i := k) (l := r.rest))
    have hkc' : k ≤ c := by omega
    clear hb hT hv
    by_cases hkc : c = k
    · have HS := Lib.hid' (show Bytes w (.slice (some ⟨bb, off, none⟩) (r.rest.drop k).length (c - k)) (r.rest.drop k) from bytes_sub HD.out hkl _ (.inr (by omega)) (by simp))
      subst hkc
      obtain rfl : c = r.rest.length := by omega
      go_enter Tryz.func38, Tryz.ntmps38
      go_wp2_with fail
      refine HG.out.mono ?_
      rintro e w1 ⟨rfl, rfl⟩
      clear HG
      go_wp2_with fail
      refine HT.out.mono ?_
      rintro e w1 ⟨rfl, rfl⟩
      clear HT
      go_wp2
      go_ret
      have hs := HX.out.set 0 (.slice (some ⟨bb, off, none⟩) (r.rest.drop r.rest.length).length (r.rest.length - r.rest.length))
      refine ⟨ret_eq (by rw [HR.out]; rfl), ?_, fr_set _ _ _ _⟩
      rw [HR.out]
      refine ⟨some ⟨bb, off, none⟩, r.rest.length - r.rest.length, ?_, ?_, HLO.out.sub (fun hm => ⟨fun h0 => hm (by simp [List.length_drop]), bb, off, off, rfl, rfl⟩)⟩
      · simp only [HLD.out, Nat.sub_self] at hs ⊢; exact hs
      · have := HX.out.bytes rat_no HS.out (fr_set w b 0 (.slice (some ⟨bb, off, none⟩) 0 0))
        simp only [HLD.out, Nat.sub_self] at this ⊢; exact this
    · have hlt : k < c := by omega
      have HS := Lib.hid' (show Bytes w (.slice (some ⟨bb, off + k, none⟩) (r.rest.drop k).length (c - k)) (r.rest.drop k) from bytes_sub HD.out hkl _ (.inl ⟨bb, off, rfl, rfl⟩) (by simp))
      go_enter Tryz.func38, Tryz.ntmps38
      go_wp2_with fail
      refine HG.out.mono ?_
      rintro e w1 ⟨rfl, rfl⟩
      clear HG
      go_wp2_with fail
      refine HT.out.mono ?_
      rintro e w1 ⟨rfl, rfl⟩
      clear HT
      go_wp2
      go_ret
      have hs := HX.out.set 0 (.slice (some ⟨bb, off + k, none⟩) (r.rest.drop k).length (c - k))
      refine ⟨ret_eq (by rw [HR.out]; rfl), ?_, fr_set _ _ _ _⟩
      rw [HR.out]
      refine ⟨some ⟨bb, off + k, none⟩, c - k, ?_, ?_, HLO.out.sub (fun hm => ⟨fun h0 => hm (by simp only [List.length_drop]; omega), bb, off, off + k, rfl, rfl⟩)⟩
      · simp only [HLD.out] at hs ⊢; exact hs
      · have := HX.out.bytes rat_no HS.out (fr_set w b 0 (.slice (some ⟨bb, off + k, none⟩) (r.rest.length - k) (c - k)))
        simp only [HLD.out] at this ⊢; exact this
end Go.Proofs.YtkljeefncopodaaGreat
