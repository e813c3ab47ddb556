/- Layer 1 (varint): the reader's List; layer 11 (proj): a chain out of a reader. -/
import Derived.Test.YtkljeefncopodaaGreatPrjO
import Derived.Test.YtkljeefncopodaaGreatVarS
namespace Go.Proofs.YtkljeefncopodaaGreat
open Go.RowKit
set_option linter.unusedSimpArgs false
set_option linter.unusedVariables false
set_option maxRecDepth 100000

/-- numbers are handed back in a row of the call's own -/
def ListR (l : List Nat) (b : Nat) (r : RD) (w : World) (e : Ending) (w' : World) : Prop :=
  ∃ a c, e = .returned (.slice a l.length c) ∧ w'.ownsRow w.heap.size 86 1 (.slice a l.length c) l.length (uVs l) ∧ RAt w' b r ∧ Fr (fun k => k = b) w w'
theorem nums_next {n k : Nat} {s : RD} {acc : List Nat} {p : List Nat × RD} (hk : k < n) (h : RD.nums (n - k) s acc = p) : (if s.num.2.bad ≠ 0 then ([], s.num.2) else RD.nums (n - (k + 1)) s.num.2 (acc ++ [s.num.1])) = p := by
  rw [show n - k = (n - (k + 1)) + 1 by omega] at h
  exact h
theorem count_le (r : RD) (most : Nat) : (r.count most).1 ≤ most := by
  unfold RD.count
  split
  · exact Nat.zero_le _
  · split
    · exact Nat.zero_le _
    · omega
set_option maxHeartbeats 1000000 in
theorem list_r_any (b : Nat) (r : RD) (most : Nat) (hm : most ≤ 1048576) (w : World) (h : RAt w b r) : Calls Tryz.prog 101 #[.pointer (some ⟨b, 0, none⟩), .int .i64 most] w (ListR (r.list most).1 b (r.list most).2 w) := by
  have HC := Lib.hid' (count_any b r most (by omega) w h)
  have hcl := count_le r most
  have hbl := h.lt
  obtain ⟨p, hp⟩ : ∃ p, p = r.list most := ⟨_, rfl⟩
  have HR := Lib.hid' (show RD.nums (r.count most).1 (r.count most).2 [] = p by rw [hp]; rfl)
  rw [← hp]
  clear h hp
  go_enter Tryz.func101, Tryz.ntmps101
  go_wp2_with fail
  refine HC.out.mono ?_
  rintro e w1 ⟨rfl, h1, hf1⟩
  have H1 := Lib.hid' h1
  have HF := Lib.hid' hf1
  clear h1 hf1 HC
  obtain ⟨n, hn⟩ : ∃ n, n = (r.count most).1 := ⟨_, rfl⟩
  obtain ⟨r2, hr2⟩ : ∃ r2, r2 = (r.count most).2 := ⟨_, rfl⟩
  rw [← hn] at hcl HR ⊢
  rw [← hr2] at H1 HR
  clear hn hr2
  go_wp2_with fail
  go_loopw [5, 9] (fun v5 v9 wr => ∃ (k : Nat) (s : RD) (acc : List Nat) (a' : Option Addr) (c' : Nat), v9 = .int .i64 k ∧ k ≤ n ∧ v5 = .slice a' acc.length c' ∧ Hid (acc.length = k) ∧ Hid (RD.nums (n - k) s acc = p) ∧ Hid (RAt wr b s) ∧ Hid (wr.ownsRow w.heap.size 86 1 (.slice a' acc.length c') acc.length (uVs acc)) ∧ Hid (Fr (fun k => k = b) w wr)) (fun _ v9 _ => n - (intOf v9).toNat)
  case atStart => exact ⟨0, r2, [], none, 0, rfl, Nat.zero_le _, rfl, Lib.hid' rfl, HR, H1, Lib.hid' (own_nil _ _ _ _), HF⟩
  case round =>
    clear HR H1 HF
    obtain ⟨k, s, acc, a', c', rfl, hk, rfl, HL, HN, HA, HO, HF⟩ := hrel
    have hzr := HF.out.size
    by_cases hlt : k < n
    · have HNX := Lib.hid' (nums_next hlt HN.out)
      have hacc : acc.length ≤ 1048576 := by have := HL.out; omega
      obtain ⟨x, hx⟩ : ∃ x, x = s.num.1 := ⟨_, rfl⟩
      obtain ⟨s2, hs2⟩ : ∃ s2, s2 = s.num.2 := ⟨_, rfl⟩
      have hnm := number_any b s wr HA.out
      rw [← hx, ← hs2] at hnm
      rw [← hx, ← hs2] at HNX
      have HNM := Lib.hid' hnm
      clear hnm hx hs2
      go_wp2_with fail
      refine HNM.out.mono ?_
      rintro e w2 ⟨rfl, h2, hf2⟩
      have H2 := Lib.hid' h2
      have hob : ∀ q, (Value.slice a' acc.length c').ownBlock = some q → ¬ q = b := fun q hq => by have := (own_blk HO.out hq).1; omega
      have HO2 := Lib.hid' (own_fr HO.out hf2 (own_slin HO.out hob))
      have HF2 := Lib.hid' (HF.out.trans hf2 (fun i hi => .inl hi))
      have hz2 : w.heap.size ≤ w2.heap.size := HF2.out.size
      clear h2 hf2 HNM hob
      go_wp2_with (at_builtin; refine append_one etU64 rfl (.tmp 11) (.tmp 14) rfl [.int .u64 (x : Int)] rfl w.heap.size acc.length (uVs acc) _ rfl HO2.out rfl (by simp [Value.oneCell']) (by omega) hz2 ?_)
      intro a9 c9 w9 ho9 hf9
      have HL9 := Lib.hid' (show (acc ++ [x]).length = acc.length + 1 by simp)
      have HO9 := Lib.hid' (show w9.ownsRow w.heap.size 86 1 (.slice a9 (acc ++ [x]).length c9) (acc ++ [x]).length (uVs (acc ++ [x])) by rw [HL9.out, uVs_append]; exact ho9)
      have HA9 := Lib.hid' (H2.out.high hf9 (fun q hq => by have := (own_blk HO2.out hq).1; omega))
      have HF9 := Lib.hid' (HF2.out.trans hf9 (fun i hi => .inr (own_blk HO2.out hi).1))
      clear ho9 hf9
      have HG := Lib.hid' (going_any b s2 w9 HA9.out)
      by_cases hb : s2.bad = 0
      · have HNN := Lib.hid' (show RD.nums (n - (k + 1)) s2 (acc ++ [x]) = p by have := HNX.out; rwa [if_neg (by simpa using hb)] at this)
        rw [decide_eq_true hb] at HG
        clear hb
        go_wp2_with fail
        refine HG.out.mono ?_
        rintro e w10 ⟨rfl, rfl⟩
        clear HG
        go_wp2_with fail
        go_roundw
        case rel => exact ⟨k + 1, s2, acc ++ [x], a9, c9, by go_num, by omega, by rw [HL9.out], Lib.hid' (by rw [HL9.out, HL.out]), HNN, HA9, HO9, HF9⟩
        case measure => simp [intOf]; omega
      · have HNN := Lib.hid' (show ([], s2) = p by have := HNX.out; rwa [if_pos hb] at this)
        rw [decide_eq_false hb] at HG
        clear hb
        go_wp2_with fail
        refine HG.out.mono ?_
        rintro e w10 ⟨rfl, rfl⟩
        clear HG
        go_wp2
        go_ret
        rw [← HNN.out]
        exact ⟨none, 0, rfl, own_nil _ _ _ _, HA9.out, HF9.out⟩
    · have HNN := Lib.hid' (show (acc, s) = p by have := HN.out; rwa [show n - k = 0 by omega] at this)
      go_wp2
      go_ret
      rw [← HNN.out]
      exact ⟨a', c', rfl, HO.out, HA.out, HF.out⟩

theorem nums_len {n : Nat} : ∀ {r : RD} {acc : List Nat}, (RD.nums n r acc).1.length ≤ acc.length + n := by
  induction n with
  | zero => intro r acc; exact Nat.le_refl _
  | succ n ih =>
    intro r acc
    unfold RD.nums
    split
    · simp
    · have := ih (r := r.num.2) (acc := acc ++ [r.num.1])
      simp only [List.length_append, List.length_cons, List.length_nil] at this
      omega
theorem nums_lt {n : Nat} : ∀ {r : RD} {acc : List Nat}, (∀ x ∈ acc, x < 18446744073709551616) → ∀ x ∈ (RD.nums n r acc).1, x < 18446744073709551616 := by
  induction n with
  | zero => intro r acc h; exact h
  | succ n ih =>
    intro r acc h
    unfold RD.nums
    split
    · simp
    · refine ih (fun x hx => ?_)
      rcases List.mem_append.1 hx with hx | hx
      · exact h x hx
      · simp only [List.mem_singleton] at hx; subst hx; exact RD.num_lt r
def ChainR (l : List Int) (b : Nat) (r : RD) (w : World) (e : Ending) (w' : World) : Prop :=
  ∃ a c, e = .returned (.slice a l.length c) ∧ w'.ownsRow w.heap.size 3 1 (.slice a l.length c) l.length (zVs l) ∧ RAt w' b r ∧ Fr (fun k => k = b) w w'
def m8 (l : List Nat) : List Int := l.map (fun n => ((min n 8 : Nat) : Int))
set_option maxHeartbeats 1000000 in
theorem pchain_any (b : Nat) (r : RD) (w : World) (h : RAt w b r) : Calls Tryz.prog 40 #[.pointer (some ⟨b, 0, none⟩)] w (ChainR r.chain.1 b r.chain.2 w) := by
  have HC := Lib.hid' (list_r_any b r 4 (by omega) w h)
  have hbl := h.lt
  obtain ⟨L, hL⟩ : ∃ L, L = (r.list 4).1 := ⟨_, rfl⟩
  obtain ⟨s, hs⟩ : ∃ s, s = (r.list 4).2 := ⟨_, rfl⟩
  have hl4 : L.length ≤ 4 := by
    rw [hL]
    have h1 := nums_len (n := (r.count 4).1) (r := (r.count 4).2) (acc := [])
    have h2 := count_le r 4
    simp only [List.length_nil] at h1
    unfold RD.list; omega
  have HLT := Lib.hid' (show ∀ x ∈ L, x < 18446744073709551616 from by rw [hL]; exact nums_lt (by simp))
  have HR := Lib.hid' (show r.chain = (m8 L, s) by unfold RD.chain m8; rw [hL, hs])
  rw [← hL, ← hs] at HC
  clear h hL hs
  go_enter Tryz.func40, Tryz.ntmps40
  go_wp2_with fail
  refine HC.out.mono ?_
  rintro e w2 ⟨a2, c2, rfl, ho2, h2, hf2⟩
  have HU := Lib.hid' (show Us w2 (.slice a2 L.length c2) L from SlV.of_own ho2)
  have HA := Lib.hid' h2
  have HF := Lib.hid' hf2
  have hz2 := hf2.size
  clear ho2 h2 hf2 HC
  go_wp2_with fail
  go_loopw [3, 9] (fun v3 v9 wr => ∃ (k : Nat) (a' : Option Addr) (c' : Nat), v9 = .int .i64 k ∧ k ≤ L.length ∧ v3 = .slice a' (m8 (L.take k)).length c' ∧ Hid (wr.ownsRow w2.heap.size 3 1 (.slice a' (m8 (L.take k)).length c') (m8 (L.take k)).length (zVs (m8 (L.take k)))) ∧ Hid (Below w2.heap.size w2 wr)) (fun _ v9 _ => L.length - (intOf v9).toNat)
  case atStart => exact ⟨0, none, 0, rfl, Nat.zero_le _, rfl, Lib.hid' (own_nil _ _ _ _), Lib.hid' (Below.refl _ _)⟩
  case round =>
    obtain ⟨k, a', c', rfl, hk, rfl, HO, HB⟩ := hrel
    have hzr := HB.out.size
    by_cases hlt : k < L.length
    · obtain ⟨bb, off, rfl, hbb, hc⟩ := us_at (show Us wr (.slice a2 L.length c2) L from SlV.below HU.out (Nat.le_refl _) HB.out) hlt
      have HTK := Lib.hid' (show m8 (L.take (k + 1)) = m8 (L.take k) ++ [((min L[k] 8 : Nat) : Int)] by rw [List.take_succ_eq_append_getElem hlt]; unfold m8; rw [List.map_append]; rfl)
      have hx := HLT.out _ (List.getElem_mem hlt)
      have hml : (m8 (L.take k)).length ≤ 4 := by unfold m8; rw [List.length_map, List.length_take]; omega
      generalize L[k] = x at *
      obtain ⟨R, hR⟩ : ∃ R, R = m8 (L.take k) := ⟨_, rfl⟩
      rw [← hR] at HO HTK hml ⊢
      clear hR
      rw [show ((min x 8 : Nat) : Int) = min (x : Int) 8 by omega] at HTK
      go_wp2_with (at_builtin; refine append_one etInts rfl (.tmp 13) (.tmp 17) rfl [.int .i64 (min (x : Int) 8)] rfl w2.heap.size R.length (zVs R) _ rfl HO.out rfl (by simp [Value.oneCell']) (by omega) hzr ?_)
      intro a9 c9 w9 ho9 hf9
      have HL9 := Lib.hid' (show (m8 (L.take (k + 1))).length = R.length + 1 by rw [HTK.out]; simp)
      have HO9 := Lib.hid' (show w9.ownsRow w2.heap.size 3 1 (.slice a9 (m8 (L.take (k + 1))).length c9) (m8 (L.take (k + 1))).length (zVs (m8 (L.take (k + 1)))) by rw [HL9.out, HTK.out, zVs_append]; exact ho9)
      have HB9 := Lib.hid' (hf9.row HO.out (Nat.le_refl _) hzr HB.out)
      clear ho9 hf9
      go_wp2_with fail
      go_roundw
      case rel => exact ⟨k + 1, a9, c9, by go_num, by omega, by rw [HL9.out], HO9, HB9⟩
      case measure => simp [intOf]; omega
    · obtain rfl : k = L.length := by omega
      have HTA := Lib.hid' (show m8 (L.take L.length) = m8 L by rw [List.take_length])
      rw [HTA.out] at HO ⊢
      obtain ⟨R, hR⟩ : ∃ R, R = m8 L := ⟨_, rfl⟩
      have HRR := Lib.hid' (show r.chain = (R, s) by rw [hR]; exact HR.out)
      rw [← hR] at HO ⊢
      clear hR
      have HAr := Lib.hid' (HA.out.below (Nat.le_refl _) HB.out)
      have HFr := Lib.hid' (HF.out.trans (Fr.of_below (F := fun _ => False) HB.out) (fun i hi => hi.elim))
      go_wp2
      go_ret
      rw [HRR.out]
      exact ⟨a', c', rfl, own_base HO.out hz2, HAr.out, HFr.out⟩
end Go.Proofs.YtkljeefncopodaaGreat
