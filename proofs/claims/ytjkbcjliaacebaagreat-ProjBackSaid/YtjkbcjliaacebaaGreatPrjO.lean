/- Layer 11 (proj): a projection's bytes (varint.PutList, proj.Put). -/
import Derived.Test.YtjkbcjliaacebaaGreatPrjC
import Derived.Test.YtjkbcjliaacebaaGreatPrjT
import Derived.Test.YtjkbcjliaacebaaGreatFrmB
namespace Go.Proofs.YtjkbcjliaacebaaGreat
open Go.RowKit
set_option linter.unusedSimpArgs false
set_option linter.unusedVariables false
set_option maxRecDepth 100000

theorem etU64 : ElemT Tryz.prog 96 95 1 8 := ElemT.mk' (z := .int .u64 0) Tryz.underlying96 (by kernel_rfl) rfl (by decide) (by decide)
theorem uVs_append (a b : List Nat) : uVs (a ++ b) = uVs a ++ uVs b := by simp [uVs]
set_option maxHeartbeats 1000000 in
theorem vPutList_any (b : List UInt8) (a : Option Addr) (c : Nat) (l : List Nat) (la : Option Addr) (lc : Nat) (w : World) (h : Bytes w (.slice a b.length c) b) (hU : Us w (.slice la l.length lc) l) (hl : ∀ n ∈ l, n < 18446744073709551616) (hb : b.length ≤ 1048576) (hln : l.length ≤ 1048576) :
    Calls Tryz.prog 48 #[.slice a b.length c, .slice la l.length lc] w (OwnR w.heap.size 5 1 (b ++ vbs (l.length :: l)).length (byteVs (b ++ vbs (l.length :: l))) w) := by
  have HB := Lib.hid' h
  have HU := Lib.hid' hU
  have HL := Lib.hid' hl
  clear h hU hl
  go_enter Tryz.func48, Tryz.ntmps48
  go_wp2_with fail
  have hg : Below w.heap.size w (w.alloc (.cells #[.int .u64 (l.length : Int)] 95)) := by go_grown
  have HC := Lib.hid' (vPut_any b a c [l.length] (some ⟨w.heap.size, 0, none⟩) 1 _ (show Bytes (w.alloc (.cells #[.int .u64 (l.length : Int)] 95)) (.slice a b.length c) b from SlV.below HB.out (Nat.le_refl _) hg) (us_one w l.length _) (by intro n hn; simp at hn; omega) (by omega) (by simp))
  have HU1 := Lib.hid' (show Us (w.alloc (.cells #[.int .u64 (l.length : Int)] 95)) (.slice la l.length lc) l from SlV.below HU.out (Nat.le_refl _) hg)
  have HG := Lib.hid' hg
  have hz : (w.alloc (.cells #[.int .u64 (l.length : Int)] 95)).heap.size = w.heap.size + 1 := by simp
  clear hg
  generalize (w.alloc (.cells #[.int .u64 (l.length : Int)] 95)) = w1 at *
  obtain ⟨r, hr⟩ : ∃ r, r = b ++ vbs [l.length] := ⟨_, rfl⟩
  have hrl : r.length ≤ 1073741824 := by
    have := vbs_len (l := [l.length]) (by intro n hn; simp at hn; omega)
    rw [hr]; simp only [List.length_append]; simp at this; omega
  obtain ⟨R, hR⟩ : ∃ R, R = b ++ vbs (l.length :: l) := ⟨_, rfl⟩
  have HR := Lib.hid' (show R = r ++ vbs l by rw [hR, hr]; simp [vbs])
  have HRR := Lib.hid' hR.symm
  rw [← hr] at HC
  clear hr hR
  refine HC.out.mono ?_
  rintro e w2 ⟨a2, c2, rfl, ho2, hb2⟩
  have hz1 := vPut_any r a2 c2 l la lc w2 (SlV.of_own ho2) (SlV.below HU1.out (Nat.le_refl _) hb2) HL.out hrl hln
  rw [← HR.out] at hz1
  have HZ := Lib.hid' hz1
  clear hz1
  have HB2 := Lib.hid' (HG.out.trans (hb2.mono (by omega)))
  have hz2 : w.heap.size ≤ w2.heap.size := by have := hb2.size; omega
  clear ho2 hb2 hz HC HU1
  go_wp2_with fail
  refine HZ.out.mono ?_
  rintro e w3 ⟨a3, c3, rfl, ho3, hb3⟩
  have HO3 := Lib.hid' (own_base (B' := w.heap.size) ho3 hz2)
  have HB3 := Lib.hid' (HB2.out.trans (hb3.mono hz2))
  clear ho3 hb3 HZ
  go_wp2
  go_ret
  rw [HRR.out]
  exact ⟨a3, c3, rfl, HO3.out, HB3.out⟩

def Pj.putB (p : Pj) : List UInt8 := if p.check ≠ 0 then [] else p.put
def PPutR (p : Pj) (w : World) (en : Ending) (w' : World) : Prop :=
  ∃ a c, en = .returned (.tuple #[.slice a p.putB.length c, errV p.check]) ∧ w'.ownsRow w.heap.size 5 1 (.slice a p.putB.length c) p.putB.length (byteVs p.putB) ∧ Below w.heap.size w w'
def textUp (e : Nat) (L : List (List Int)) (n k : Nat) : List UInt8 := vb e ++ vb n ++ ((L.take k).map chainB).flatten
theorem textUp_next {e n k : Nat} {L : List (List Int)} (hk : k < L.length) : textUp e L n (k + 1) = textUp e L n k ++ chainB L[k] := by
  unfold textUp
  rw [List.take_succ_eq_append_getElem hk, List.map_append, List.flatten_append, ← List.append_assoc]
  simp only [List.map_cons, List.map_nil, List.flatten_cons, List.flatten_nil, List.append_nil]
theorem textUp_le (e n k : Nat) (L : List (List Int)) : (textUp e L n k).length ≤ (textUp e L n L.length).length := by
  unfold textUp
  have h : (L.map chainB).flatten = ((L.take k).map chainB).flatten ++ ((L.drop k).map chainB).flatten := by rw [← List.flatten_append, ← List.map_append, List.take_append_drop]
  rw [List.take_length, h]
  simp only [List.length_append]; omega
theorem textUp_all (e : Nat) (L : List (List Int)) : textUp e L L.length L.length = Pj.text ⟨e, L⟩ := by
  unfold textUp Pj.text; rw [List.take_length]; rfl
theorem chainB_vbs (c : List Int) : chainB c = vbs (c.length :: c.map Int.toNat) := by
  unfold chainB vbs; simp [List.flatMap, Function.comp_def]
set_option maxHeartbeats 4000000 in
theorem pput_any (e : Int) (a : Option Addr) (c : Nat) (X : List Ch) (w : World) (h : Chs w a c X) (ht : (flatC X).length ≤ 1099511627776) :
    Calls Tryz.prog 14 #[pjV e a c X] w (PPutR (docJ e X) w) := by
  have HS := Lib.hid' h
  have hlen := h.len
  clear h
  have HV := Lib.hid' (show pjV e a c X = .agg #[.int .i64 e, .slice a X.length c] from rfl)
  rw [HV.out]
  go_enter Tryz.func14, Tryz.ntmps14
  go_wp2_with fail
  have hg : Below w.heap.size w (w.alloc (.cells #[.int .i64 e, .slice a X.length c] 24)) := by go_grown
  have k0 : (w.alloc (.cells #[.int .i64 e, .slice a X.length c] 24)).cell? ⟨w.heap.size, 0, none⟩ = some (.int .i64 e) := by simp [go_sem]
  have k1 : (w.alloc (.cells #[.int .i64 e, .slice a X.length c] 24)).cell? ⟨w.heap.size, 1, none⟩ = some (.slice a X.length c) := by simp [go_sem]
  have hl0 : w.heap.size < (w.alloc (.cells #[.int .i64 e, .slice a X.length c] 24)).heap.size := by simp
  have HG := Lib.hid' hg
  clear hg
  generalize (w.alloc (.cells #[.int .i64 e, .slice a X.length c] 24)) = w1 at *
  refine (pcheck_any e a c X w1 (HS.out.below (Nat.le_refl _) HG.out) ht).mono ?_
  rintro en w2 ⟨rfl, hb2⟩
  have HB2 := Lib.hid' (HG.out.trans (hb2.mono (by omega)))
  have c20 := (hb2.cell (p := ⟨w.heap.size, 0, none⟩) hl0).trans k0
  have c21 := (hb2.cell (p := ⟨w.heap.size, 1, none⟩) hl0).trans k1
  have hl2 := Nat.lt_of_lt_of_le hl0 hb2.size
  clear hb2 k0 k1 hl0 HG
  by_cases hc : (docJ e X).check = 0
  rotate_left
  · have HE := Lib.hid' (show PPutR (docJ e X) w (.returned (.tuple #[.slice none 0 0, errV (docJ e X).check])) w2 from by
      have hp : (docJ e X).putB = [] := by unfold Pj.putB; rw [if_pos hc]
      unfold PPutR; rw [hp]
      exact ⟨none, 0, rfl, own_nil _ _ _ _, HB2.out⟩)
    rw [errV_pos hc] at HE ⊢
    clear hc
    go_wp2
    refine bodyPost_ret (v := .tuple #[.slice none 0 0, .iface 48 (.int .i64 ((docJ e X).check))]) (by simp [results, Tryz.results14, go_sem]) rfl HE.out
  have HCK := Lib.hid' hc
  have HOK := Lib.hid' (Pj.ok_of hc)
  have hX4 : X.length ≤ 4 := by have := HOK.out.n1; unfold docJ at this; simpa using this
  have HX4 := Lib.hid' (show ∀ x ∈ X, x.1.length ≤ 4 ∧ ∀ u ∈ x.1, 0 ≤ u ∧ u < 8 from fun x hx => ⟨(HOK.out.c x.1 (List.mem_map_of_mem hx)).2, fun u hu => HOK.out.u u (List.mem_flatten.2 ⟨x.1, List.mem_map_of_mem hx, hu⟩)⟩)
  have he0 : 0 ≤ e := HOK.out.e0
  have he1 : e ≤ 1099511627776 := HOK.out.e1
  have HTL := Lib.hid' HOK.out.text_len
  have HPB := Lib.hid' (show (docJ e X).putB = frameB (docJ e X).text from by unfold Pj.putB; rw [if_neg (by simpa using hc)]; rfl)
  rw [hc, errV_0]
  clear hc
  obtain ⟨n, rfl⟩ : ∃ n : Nat, e = n := ⟨e.toNat, by omega⟩
  have hn1 : n ≤ 1099511627776 := by omega
  have HTA := Lib.hid' (textUp_all n (X.map (·.1)))
  rw [show Pj.text ⟨(n : Int), X.map (·.1)⟩ = (docJ n X).text from rfl] at HTA
  have HLM := Lib.hid' (show (X.map (·.1)).length = X.length from List.length_map _)
  go_wp2_with fail
  have hg : Below w2.heap.size w2 (w2.alloc (.cells #[.int .u64 (n : Int), .int .u64 (X.length : Int)] 95)) := by go_grown
  have HU := Lib.hid' (show Us (w2.alloc (.cells #[.int .u64 (n : Int), .int .u64 (X.length : Int)] 95)) (.slice (some ⟨w2.heap.size, 0, none⟩) 2 2) [n, X.length] from SlV.new w2 [.int .u64 (n : Int), .int .u64 (X.length : Int)] 2 _ (by decide))
  have HB3 := Lib.hid' (HB2.out.trans (hg.mono (by omega)))
  have c30 := (hg.cell (p := ⟨w.heap.size, 0, none⟩) hl2).trans c20
  have c31 := (hg.cell (p := ⟨w.heap.size, 1, none⟩) hl2).trans c21
  have hl3 := Nat.lt_of_lt_of_le hl2 hg.size
  clear hg c20 c21
  generalize w2.alloc (.cells #[.int .u64 (n : Int), .int .u64 (X.length : Int)] 95) = w3 at *
  have hv := vPut_any [] none 0 [n, X.length] (some ⟨w2.heap.size, 0, none⟩) 2 w3 (SlV.empty _ _ _ (Nat.zero_le _) (fun _ => rfl)) HU.out (by intro m hm; simp at hm; omega) (by simp) (by simp)
  rw [show ([] : List UInt8) ++ vbs [n, X.length] = textUp n (X.map (·.1)) X.length 0 by simp [vbs, textUp]] at hv
  refine hv.mono ?_
  clear hv
  rintro en w4 ⟨a4, c4, rfl, ho4, hb4⟩
  have HO4 := Lib.hid' (own_base (B' := w.heap.size) ho4 (by omega))
  have HB4 := Lib.hid' (HB3.out.trans (hb4.mono (by omega)))
  have c40 := (hb4.cell (p := ⟨w.heap.size, 0, none⟩) hl3).trans c30
  have c41 := (hb4.cell (p := ⟨w.heap.size, 1, none⟩) hl3).trans c31
  have hl4 := Nat.lt_of_lt_of_le hl3 hb4.size
  clear ho4 hb4 c30 c31 HU HB3 hl3 hl2
  go_wp2_with fail
  clear c40 c41
  go_loopw [5, 28] (fun v5 v28 wr => ∃ (k : Nat) (a' : Option Addr) (c' : Nat), v28 = .int .i64 k ∧ k ≤ X.length ∧ v5 = .slice a' (textUp n (X.map (·.1)) X.length k).length c' ∧ Hid (wr.ownsRow w.heap.size 5 1 (.slice a' (textUp n (X.map (·.1)) X.length k).length c') (textUp n (X.map (·.1)) X.length k).length (byteVs (textUp n (X.map (·.1)) X.length k))) ∧ Hid (Below w.heap.size w wr)) (fun _ v28 _ => X.length - (intOf v28).toNat)
  case atStart => exact ⟨0, a4, c4, rfl, Nat.zero_le _, rfl, HO4, HB4⟩
  case round =>
    clear HO4 HB4 hl4
    obtain ⟨k, a', c', rfl, hk, rfl, HO, HB⟩ := hrel
    by_cases hlt : k < X.length
    · obtain ⟨b, off, rfl, hb, hcc, hz⟩ := (HS.out.below (Nat.le_refl _) HB.out).at hlt
      have HZY := Lib.hid' hz
      have hy4 := HX4.out _ (List.getElem_mem hlt)
      have HNX := Lib.hid' (textUp_next (e := n) (n := X.length) (L := X.map (·.1)) (k := k) (by rw [HLM.out]; exact hlt))
      rw [List.getElem_map] at HNX
      have hTl : (textUp n (X.map (·.1)) X.length k).length ≤ 65536 := by
        have h1 := textUp_le n X.length k (X.map (·.1)); have h2 := HTL.out; rw [← HTA.out, HLM.out] at h2; rw [HLM.out] at h1; omega
      clear hz
      generalize X[k] = y at *
      obtain ⟨ys, ya, yc⟩ := y
      simp only at hcc hy4 HZY HNX
      have HYU := Lib.hid' hy4.2
      have hy4 := hy4.1
      obtain ⟨T, hT⟩ : ∃ T, T = textUp n (X.map (·.1)) X.length k := ⟨_, rfl⟩
      rw [← hT] at HO HNX hTl ⊢
      clear hT
      go_wp2_with fail
      have hzr := HB.out.size
      obtain ⟨wo, rfl⟩ : ∃ wo : World, wo = wr := ⟨_, rfl⟩
      obtain ⟨L0, hL0⟩ : ∃ L0, L0 = wo.heap.size := ⟨_, rfl⟩
      have HL0 := Lib.hid' hL0
      clear hL0
      go_loopw [8, 34] (fun v8 v34 ws => ∃ (j : Nat) (a2 : Option Addr) (c2 : Nat), v34 = .int .i64 j ∧ j ≤ ys.length ∧ v8 = .slice a2 ((ys.take j).map Int.toNat).length c2 ∧ Hid (ws.ownsRow L0 95 1 (.slice a2 ((ys.take j).map Int.toNat).length c2) ((ys.take j).map Int.toNat).length (uVs ((ys.take j).map Int.toNat))) ∧ Hid (Below L0 wo ws)) (fun _ v34 _ => ys.length - (intOf v34).toNat)
      case atStart => exact ⟨0, none, 0, rfl, Nat.zero_le _, rfl, Lib.hid' (own_nil _ _ _ _), Lib.hid' (by rw [HL0.out]; exact Below.refl _ _)⟩
      case round =>
        obtain ⟨j, a2, c2, rfl, hj, rfl, HO2, HBJ⟩ := hrel
        have hzs : L0 ≤ wr.heap.size := by rw [HL0.out]; exact HBJ.out.size
        by_cases hltj : j < ys.length
        · obtain ⟨b3, off3, rfl, hb3, hc3⟩ := (show Zs wr (.slice ya ys.length yc) ys from SlV.below HZY.out (by rw [← HL0.out]; exact Nat.le_refl _) HBJ.out).at hltj
          have HLT := Lib.hid' (show (ys.take (j + 1)).map Int.toNat = (ys.take j).map Int.toNat ++ [ys[j].toNat] by rw [List.take_succ_eq_append_getElem hltj, List.map_append]; rfl)
          have hu := HYU.out _ (List.getElem_mem hltj)
          generalize ys[j] = u at *
          obtain ⟨m, rfl⟩ : ∃ m : Nat, u = m := ⟨u.toNat, by omega⟩
          have hm8 : m < 8 := by omega
          have hll : ((ys.take j).map Int.toNat).length ≤ 4 := by rw [List.length_map, List.length_take]; omega
          obtain ⟨l, hl⟩ : ∃ l, l = (ys.take j).map Int.toNat := ⟨_, rfl⟩
          rw [← hl] at HO2 HLT hll ⊢
          rw [Int.toNat_natCast] at HLT
          clear hl hu
          go_wp2_with (at_builtin; refine append_one etU64 rfl (.tmp 38) (.tmp 41) rfl [.int .u64 (m : Int)] rfl L0 l.length (uVs l) _ rfl HO2.out rfl (by simp [Value.oneCell']) (by omega) hzs ?_)
          intro a5 c5 w8 ho8 hf8
          have HQL := Lib.hid' (show ((ys.take (j + 1)).map Int.toNat).length = l.length + 1 by rw [HLT.out]; simp)
          have HO8 := Lib.hid' (show w8.ownsRow L0 95 1 (.slice a5 ((ys.take (j + 1)).map Int.toNat).length c5) ((ys.take (j + 1)).map Int.toNat).length (uVs ((ys.take (j + 1)).map Int.toNat)) by rw [HQL.out, HLT.out, uVs_append]; exact ho8)
          have HB8 := Lib.hid' (hf8.row HO2.out (Nat.le_refl _) hzs HBJ.out)
          clear ho8 hf8
          go_wp2_with fail
          go_roundw
          case rel => exact ⟨j + 1, a5, c5, by go_num, by omega, by rw [HQL.out], HO8, HB8⟩
          case measure => simp [intOf]; omega
        · obtain rfl : j = ys.length := by omega
          have hTK : ys.take ys.length = ys := List.take_length
          rw [hTK] at HO2 ⊢
          clear hTK
          have hzL : w.heap.size ≤ L0 := by rw [HL0.out]; exact hzr
          have HBS := Lib.hid' (HB.out.trans (HBJ.out.mono hzL))
          have HOs := Lib.hid' (own_below HO.out (by rw [← HL0.out]; exact Nat.le_refl _) HBJ.out)
          obtain ⟨l, hl⟩ : ∃ l, l = ys.map Int.toNat := ⟨_, rfl⟩
          have hll : l.length = ys.length := by rw [hl, List.length_map]
          have HTN := Lib.hid' (show textUp n (X.map (·.1)) X.length (k + 1) = T ++ vbs (l.length :: l) by rw [HNX.out, chainB_vbs, hll, hl])
          have HLM8 := Lib.hid' (show ∀ m ∈ l, m < 18446744073709551616 by
            rw [hl]; intro m hm; obtain ⟨u, hu, rfl⟩ := List.mem_map.1 hm; have := HYU.out u hu; omega)
          have hl4 : l.length ≤ 4 := by omega
          rw [← hl] at HO2 ⊢
          clear hl hll
          have hpl := vPutList_any T a' c' l a2 c2 wr (SlV.of_own HOs.out) (SlV.of_own HO2.out) HLM8.out (by omega) (by omega)
          rw [← HTN.out] at hpl
          have HPL := Lib.hid' hpl
          clear hpl
          go_wp2_with fail
          refine HPL.out.mono ?_
          rintro en w9 ⟨a9, c9, rfl, ho9, hb9⟩
          have HO9 := Lib.hid' (own_base (B' := w.heap.size) ho9 HBS.out.size)
          have HB9 := Lib.hid' (HBS.out.trans (hb9.mono HBS.out.size))
          clear ho9 hb9 HPL
          go_wp2_with fail
          go_roundw
          case rel => exact ⟨k + 1, a9, c9, by go_num, by omega, rfl, HO9, HB9⟩
          case measure => simp [intOf]; omega
    · obtain rfl : k = X.length := by omega
      have HTX := Lib.hid' (show textUp n (X.map (·.1)) X.length X.length = (docJ n X).text by have := HTA.out; rwa [HLM.out] at this)
      rw [HTX.out] at HO ⊢
      obtain ⟨T, hT⟩ : ∃ T, T = (docJ n X).text := ⟨_, rfl⟩
      have HTT := Lib.hid' hT
      rw [← hT] at HO HTL HPB ⊢
      clear hT
      have hfp := fput_any [] T none a' 0 c' wr (SlV.empty _ _ _ (Nat.zero_le _) (fun _ => rfl)) (SlV.of_own HO.out) (by simp)
      have hfN : fputN T = 0 := by unfold fputN; rw [if_neg (by have := HTL.out; omega)]
      have hfB : fputB [] T = (docJ n X).putB := by unfold fputB; rw [if_neg (by have := HTL.out; omega), HPB.out]; rfl
      unfold FPutR at hfp
      rw [hfN, hfB] at hfp
      have HFP := Lib.hid' hfp
      have HCE := Lib.hid' (show errV (docJ n X).check = .nilIface by rw [HCK.out]; rfl)
      clear hfp hfN hfB
      go_wp2_with fail
      refine HFP.out.mono ?_
      rintro en w9 ⟨a9, c9, rfl, ho9, hb9⟩
      have HRET := Lib.hid' (show PPutR (docJ n X) w (.returned (.tuple #[.slice a9 (docJ n X).putB.length c9, .nilIface])) w9 from
        ⟨a9, c9, by rw [HCE.out], own_base ho9 HB.out.size, HB.out.trans (hb9.mono HB.out.size)⟩)
      clear ho9 hb9 HFP
      rw [errV_0]
      go_wp2
      refine bodyPost_ret (v := .tuple #[.slice a9 (docJ n X).putB.length c9, .nilIface]) (by simp [results, Tryz.results14, go_sem]) rfl HRET.out
end Go.Proofs.YtjkbcjliaacebaaGreat
