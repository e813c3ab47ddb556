/- The statement ProjBack: its walk. -/
import Derived.Test.YtjkbcjliaacebaaGreatPrjL
import Derived.Test.YtjkbcjliaacebaaGreatPrjG
namespace Go.Proofs.YtjkbcjliaacebaaGreat
open Go.RowKit
set_option linter.unusedSimpArgs false
set_option linter.unusedVariables false
set_option maxRecDepth 100000

theorem live_take {D l : List Int} {j : Nat} (hj : j < l.length) : liveC D (l.take (j + 1)) = if D.contains l[j] = true then liveC D (l.take j) else liveC D (l.take j) ++ [l[j]] := by
  unfold liveC
  rw [List.take_succ_eq_append_getElem hj, List.filter_append]
  by_cases h : D.contains l[j] = true
  · rw [if_pos h]; simp only [List.filter_cons, h, Bool.not_true, List.filter_nil, List.append_nil]; simp
  · have h' : D.contains l[j] = false := by simpa using h
    rw [if_neg h]; simp only [List.filter_cons, h', Bool.not_false, List.filter_nil, if_true]
theorem live_pre (D l : List Int) (j : Nat) : liveC D (l.take j) <+: liveC D l := by
  refine ⟨liveC D (l.drop j), ?_⟩
  unfold liveC
  rw [← List.filter_append, List.take_append_drop]
theorem pre_at {D ys xs : List Int} {j : Nat} (hp : liveC D ys <+: xs) (hj : j < ys.length) (hn : D.contains ys[j] = false) : ∃ hk : (liveC D (ys.take j)).length < xs.length, xs[(liveC D (ys.take j)).length] = ys[j] := by
  have h1 : liveC D (ys.take j) ++ [ys[j]] <+: xs := by
    have h2 := (live_pre D ys (j + 1)).trans hp
    rwa [live_take hj, if_neg (by rw [hn]; decide)] at h2
  obtain ⟨z, rfl⟩ := h1
  refine ⟨by simp, ?_⟩
  rw [List.getElem_append_left (by simp), List.getElem_append_right (by simp)]
  simp
theorem contains_next {D : List Int} {u : Int} {m : Nat} (hm : m < D.length) : (D.take (m + 1)).contains u = ((D.take m).contains u || (D[m] == u)) := by
  rw [List.take_succ_eq_append_getElem hm]
  rw [Bool.eq_iff_iff]
  simp only [List.contains_iff_mem, List.mem_append, List.mem_singleton, Bool.or_eq_true, beq_iff_eq]
  constructor
  · rintro (h | h)
    · exact .inl h
    · exact .inr h.symm
  · rintro (h | h)
    · exact .inl h
    · exact .inr h.symm
theorem next_err {p : Pj} {D S : List Int} {er : Nat} {pj : Pj} (h : p.next D S = (er, pj)) (he : er ≠ 0) : pj = Pj.zero := by
  unfold Pj.next at h
  repeat' split at h
  all_goals first
    | (simp only [Prod.mk.injEq] at h; exact h.2.symm)
    | (simp only [Prod.mk.injEq] at h; exact absurd h.1.symm he)
theorem sameJ_refl (p : Pj) : sameJ p p = true := by simp [sameJ]
set_option maxHeartbeats 8000000 in
theorem projBack_any (e : Int) (a : Option Addr) (c : Nat) (X : List Ch) (D S : List Int) (da sa : Option Addr) (dc sc : Nat) (w : World) (h : Chs w a c X)
    (hD : Zs w (.slice da D.length dc) D) (hS : Zs w (.slice sa S.length sc) S) :
    Calls Tryz.prog 5 #[pjV e a c X, .slice da D.length dc, .slice sa S.length sc] w fun en w' => en = .returned (.bool true) ∧ Below w.heap.size w w' := by
  have HS := Lib.hid' h
  have hlen := h.len
  have HD := Lib.hid' hD
  have HSP := Lib.hid' hS
  have hDl := hD.len
  have hSl := hS.len
  clear h hD hS
  have HV := Lib.hid' (show pjV e a c X = .agg #[.int .i64 e, .slice a X.length c] from rfl)
  rw [HV.out]
  go_enter Tryz.func5, Tryz.ntmps5
  go_wp2_with fail
  refine (alive11_any _).mono ?_
  rintro en w2 ⟨rfl, hb2⟩
  have HB2 := Lib.hid' (show Below w.heap.size w w2 from below_call (by go_grown) (by simp) hb2)
  have hz2 : w.heap.size < w2.heap.size := by have := hb2.size; simp at this; omega
  have c20 := ((bcell hb2).1 w.heap.size 0 (by simp)).trans (show _ = some (.int .i64 e) by simp [go_sem])
  have c21 := ((bcell hb2).1 w.heap.size 1 (by simp)).trans (show _ = some (.slice a X.length c) by simp [go_sem])
  clear hb2
  go_wp2_with fail
  refine (long11_any e a c X w2 (HS.out.below (Nat.le_refl _) HB2.out)).mono ?_
  rintro en w3 ⟨rfl, hb3⟩
  have HB3 := Lib.hid' (HB2.out.trans (hb3.mono (by omega)))
  have hz3 : w.heap.size < w3.heap.size := Nat.lt_of_lt_of_le hz2 hb3.size
  have c30 := (hb3.cell (p := ⟨w.heap.size, 0, none⟩) hz2).trans c20
  have c31 := (hb3.cell (p := ⟨w.heap.size, 1, none⟩) hz2).trans c21
  clear hb3 c20 c21
  cases hlo : long11 X with
  | true =>
    clear hlo
    go_wp2
    go_ret
    exact ⟨rfl, HB3.out⟩
  | false =>
  have HFL := Lib.hid' (long11_flat hlo)
  clear hlo
  by_cases hd20 : 20 < D.length
  · go_wp2
    go_ret
    exact ⟨rfl, HB3.out⟩
  by_cases hs20 : 20 < S.length
  · go_wp2
    go_ret
    exact ⟨rfl, HB3.out⟩
  obtain ⟨⟨er, pj⟩, hr⟩ : ∃ r, r = (docJ e X).next D S := ⟨_, rfl⟩
  have HR := Lib.hid' hr
  clear hr
  have hnx := pnext_any e a c X D S da sa dc sc w3 (HS.out.below (Nat.le_refl _) HB3.out) (by have := HFL.out.1; omega) (SlV.below HD.out (Nat.le_refl _) HB3.out) (SlV.below HSP.out (Nat.le_refl _) HB3.out)
  rw [← HR.out] at hnx
  have HNX := Lib.hid' hnx
  clear hnx
  go_wp2_with fail
  refine HNX.out.mono ?_
  clear HNX
  rintro en w6 ⟨e6, a6, c6, K6, rfl, hd6, ho6, hb6⟩
  have HD6 := Lib.hid' (show docJ e6 K6 = pj from hd6)
  have HJ6 := Lib.hid' ho6
  have HB6 := Lib.hid' (HB3.out.trans (hb6.mono (by omega)))
  have c60 := (hb6.cell (p := ⟨w.heap.size, 0, none⟩) hz3).trans c30
  have c61 := (hb6.cell (p := ⟨w.heap.size, 1, none⟩) hz3).trans c31
  have hz6 := Nat.lt_of_lt_of_le hz3 hb6.size
  clear hb6 ho6 hd6 c30 c31 HB3
  unfold pjV
  by_cases her : er = 0
  rotate_left
  · have HZ := Lib.hid' (show e6 = 0 ∧ K6 = [] from by
      have h1 := HD6.out
      rw [next_err HR.out.symm her] at h1
      unfold docJ Pj.zero at h1
      simp only [Pj.mk.injEq, List.map_eq_nil_iff] at h1
      exact h1)
    obtain ⟨rfl, rfl⟩ := HZ.out
    simp only [errV_pos her, List.length_nil]
    clear her
    go_wp2
    go_ret
    exact ⟨rfl, HB6.out.trans (Below.mono (by go_grown) HB6.out.size)⟩
  have HOKN := Lib.hid' (Pj.next_ok (p := docJ e X) (dead := D) (spares := S) (n := docJ e6 K6) (by rw [← HR.out, her, HD6.out]))
  subst her
  obtain rfl : e6 = e + 1 := HOKN.out.e
  have HN0 := Lib.hid' HOKN.out.ok.check
  have HL6 := Lib.hid' (show K6.length = X.length by have := HOKN.out.len; unfold docJ at this; simpa using this)
  have he1 : e + 1 ≤ 1099511627776 := HOKN.out.ok.e1
  have he0 : 0 ≤ e + 1 := HOKN.out.ok.e0
  have HF6 := Lib.hid' (show (flatC K6).length ≤ 1099511627776 by
    have h4 := flat_len4 (X := K6) (fun x hx => (HOKN.out.ok.c x.1 (List.mem_map_of_mem hx)).2)
    have := HOKN.out.ok.n1; unfold docJ at this; simp at this; omega)
  simp only [errV_0]
  go_wp2_with fail
  have HXN := Lib.hid' (show BoxW w6.heap.size [.int .i64 (e + 1), .slice a6 K6.length c6] 24 (w6.alloc (.cells #[.int .i64 (e + 1), .slice a6 K6.length c6] 24)) from BoxW.start _ _ _)
  have hg : Below w6.heap.size w6 (w6.alloc (.cells #[.int .i64 (e + 1), .slice a6 K6.length c6] 24)) := by go_grown
  have HJ7 := Lib.hid' (HJ6.out.below (Nat.le_refl _) hg)
  have HB7 := Lib.hid' (HB6.out.trans (hg.mono (by omega)))
  have c70 := (hg.cell (p := ⟨w.heap.size, 0, none⟩) hz6).trans c60
  have c71 := (hg.cell (p := ⟨w.heap.size, 1, none⟩) hz6).trans c61
  have hz7 := Nat.lt_of_lt_of_le hz6 hg.size
  clear hg c60 c61 HJ6 HB6 hz6
  generalize w6.alloc (.cells #[.int .i64 (e + 1), .slice a6 K6.length c6] 24) = w7 at *
  generalize w6.heap.size = Nn at *
  have hpp := pput_any (e + 1) a6 c6 K6 w7 HJ7.out.chs HF6.out
  unfold PPutR at hpp
  rw [HN0.out, show (docJ (e + 1) K6).putB = (docJ (e + 1) K6).put by unfold Pj.putB; rw [if_neg (by rw [HN0.out]; simp)]] at hpp
  obtain ⟨pb, hpb⟩ : ∃ l, l = (docJ (e + 1) K6).put := ⟨_, rfl⟩
  have HTK := Lib.hid' (show Pj.take pb = (0, docJ (e + 1) K6) by rw [hpb]; exact Pj.take_put HOKN.out.ok)
  rw [← hpb] at hpp
  clear hpb
  refine hpp.mono ?_
  clear hpp
  rintro en w8 ⟨a8, c8, rfl, ho8, hb8⟩
  have HY8 := Lib.hid' (show Bytes w8 (.slice a8 pb.length c8) pb from SlV.of_own ho8)
  have HX8 := Lib.hid' (HXN.out.below (Nat.le_refl _) hb8)
  have HJ8 := Lib.hid' (HJ7.out.below (Nat.le_refl _) hb8)
  have HB8 := Lib.hid' (HB7.out.trans (hb8.mono (by omega)))
  have c80 := (hb8.cell (p := ⟨w.heap.size, 0, none⟩) hz7).trans c70
  have c81 := (hb8.cell (p := ⟨w.heap.size, 1, none⟩) hz7).trans c71
  have hz8 := Nat.lt_of_lt_of_le hz7 hb8.size
  clear hb8 ho8 c70 c71 HXN HJ7 HB7 hz7
  simp only [errV_0]
  have hpt := ptake_any pb a8 c8 w8 HY8.out
  unfold PTakeR at hpt
  rw [HTK.out] at hpt
  have HPT := Lib.hid' hpt
  clear hpt
  go_wp2_with fail
  refine HPT.out.mono ?_
  clear HPT
  rintro en w9 ⟨e9, a9, c9, K9, rfl, hd9, ho9, hb9⟩
  have HD9 := Lib.hid' hd9
  have HJT := Lib.hid' ho9
  have HX9 := Lib.hid' (HX8.out.below (Nat.le_refl _) hb9)
  have HJ9 := Lib.hid' (HJ8.out.below (Nat.le_refl _) hb9)
  have HB9 := Lib.hid' (HB8.out.trans (hb9.mono (by omega)))
  have c90 := (hb9.cell (p := ⟨w.heap.size, 0, none⟩) hz8).trans c80
  have c91 := (hb9.cell (p := ⟨w.heap.size, 1, none⟩) hz8).trans c81
  have hz9 := Nat.lt_of_lt_of_le hz8 hb9.size
  clear hb9 ho9 hd9 c80 c81 HX8 HJ8 HB8 HY8 hz8
  simp only [errV_0]
  unfold pjV
  have n0 := HX9.out.box.1 0 _ rfl
  have n1 := HX9.out.box.1 1 _ rfl
  have hNl := HX9.out.lt
  go_wp2_with fail
  have hg : Below w9.heap.size w9 (w9.alloc (.cells #[.int .i64 e9, .slice a9 K9.length c9] 24)) := by go_grown
  have HXT := Lib.hid' (show BoxW w9.heap.size [.int .i64 e9, .slice a9 K9.length c9] 24 (w9.alloc (.cells #[.int .i64 e9, .slice a9 K9.length c9] 24)) from BoxW.start _ _ _)
  have HXa := Lib.hid' (HX9.out.below (Nat.le_refl _) hg)
  have HJa := Lib.hid' (HJ9.out.below (Nat.le_refl _) hg)
  have HJTa := Lib.hid' (HJT.out.below (Nat.le_refl _) hg)
  have HBa := Lib.hid' (HB9.out.trans (hg.mono (by omega)))
  have ca0 := (hg.cell (p := ⟨w.heap.size, 0, none⟩) hz9).trans c90
  have ca1 := (hg.cell (p := ⟨w.heap.size, 1, none⟩) hz9).trans c91
  have hza := Nat.lt_of_lt_of_le hz9 hg.size
  clear hg c90 c91 HX9 HJ9 HJT HB9 hz9 n0 n1 hNl
  generalize w9.alloc (.cells #[.int .i64 e9, .slice a9 K9.length c9] 24) = wa at *
  generalize w9.heap.size = Nt at *
  have hpc := pcheck_any (e + 1) a6 c6 K6 wa HJa.out.chs HF6.out
  rw [HN0.out] at hpc
  refine hpc.mono ?_
  clear hpc
  rintro en wb ⟨rfl, hbb⟩
  have HXT2 := Lib.hid' (HXT.out.below (Nat.le_refl _) hbb)
  have HXb := Lib.hid' (HXa.out.below (Nat.le_refl _) hbb)
  have HJb := Lib.hid' (HJa.out.below (Nat.le_refl _) hbb)
  have HJTb := Lib.hid' (HJTa.out.below (Nat.le_refl _) hbb)
  have HBb := Lib.hid' (HBa.out.trans (hbb.mono (by omega)))
  have cb0 := (hbb.cell (p := ⟨w.heap.size, 0, none⟩) hza).trans ca0
  have cb1 := (hbb.cell (p := ⟨w.heap.size, 1, none⟩) hza).trans ca1
  have hzb := Nat.lt_of_lt_of_le hza hbb.size
  clear hbb ca0 ca1 HXT HXa HJa HJTa HBa hza
  simp only [errV_0]
  have n0 := HXb.out.box.1 0 _ rfl
  have n1 := HXb.out.box.1 1 _ rfl
  have hNl := HXb.out.lt
  have t0 := HXT2.out.box.1 0 _ rfl
  have t1 := HXT2.out.box.1 1 _ rfl
  have hTl := HXT2.out.lt
  have hsm := psame_any e9 (e + 1) a9 a6 c9 c6 K9 K6 wb HJTb.out.chs HJb.out.chs
  rw [HD9.out, sameJ_refl] at hsm
  have HSM := Lib.hid' hsm
  clear hsm
  go_wp2_with fail
  refine HSM.out.mono ?_
  clear HSM
  rintro en wc ⟨rfl, hbc⟩
  have HXc := Lib.hid' (HXb.out.below (Nat.le_refl _) hbc)
  have HJc := Lib.hid' (HJb.out.below (Nat.le_refl _) hbc)
  have HBc := Lib.hid' (HBb.out.trans (hbc.mono (by omega)))
  have cc0 := (hbc.cell (p := ⟨w.heap.size, 0, none⟩) hzb).trans cb0
  have cc1 := (hbc.cell (p := ⟨w.heap.size, 1, none⟩) hzb).trans cb1
  have hzc := Nat.lt_of_lt_of_le hzb hbc.size
  clear hbc cb0 cb1 HXT2 HXb HJb HJTb HBb hzb n0 n1 hNl t0 t1 hTl
  have n0 := HXc.out.box.1 0 _ rfl
  have n1 := HXc.out.box.1 1 _ rfl
  have hNl := HXc.out.lt
  have hln : ((K6.length : Int) != (X.length : Int)) = false := by rw [bne_eq_false_iff_eq, HL6.out]
  have HSc := Lib.hid' (HS.out.below (Nat.le_refl _) HBc.out)
  have HDc := Lib.hid' (show Zs wc (.slice da D.length dc) D from SlV.below HD.out (Nat.le_refl _) HBc.out)
  go_wp2_with fail
  clear hln n0 cc0
  go_loop [99] (fun v99 => ∃ i : Nat, v99 = .int .i64 i ∧ i ≤ X.length) (fun v99 => X.length - (intOf v99).toNat)
  case atStart => exact ⟨0, rfl, Nat.zero_le _⟩
  case round =>
    obtain ⟨i, rfl, hi⟩ := hrel
    by_cases hlti : i < X.length
    rotate_left
    · go_wp2
      go_ret
      exact ⟨rfl, HBc.out⟩
    have hlt6 : i < K6.length := by have := HL6.out; omega
    obtain ⟨b1, off1, ha1, hb1, hc1, hz1⟩ := HSc.out.at hlti
    obtain ⟨b2, off2, ha2, hb2, hc2, hz2⟩ := HJc.out.chs.at hlt6
    subst ha1 ha2
    have HPRE := Lib.hid' (show liveC D X[i].1 <+: K6[i].1 by have := HOKN.out.pre i; unfold docJ at this; simpa [List.getD, hlti, hlt6] using this)
    have hmost : K6[i].1.length ≤ X[i].1.length := by have := HOKN.out.most i; unfold docJ at this; simpa [List.getD, hlti, hlt6] using this
    have HZ1 := Lib.hid' hz1
    have HZ2 := Lib.hid' hz2
    have hy12 := HFL.out.2.2 _ (List.getElem_mem hlti)
    clear hz1 hz2
    generalize X[i] = y at *
    generalize K6[i] = x at *
    obtain ⟨ys, ya, yc⟩ := y
    obtain ⟨xs, xa, xc⟩ := x
    simp only at hc1 hc2 HPRE hmost HZ1 HZ2 hy12
    go_wp2_with fail
    go_loop [14, 106] (fun v14 v106 => ∃ j : Nat, v106 = .int .i64 j ∧ j ≤ ys.length ∧ v14 = .int .i64 (liveC D (ys.take j)).length) (fun _ v106 => ys.length - (intOf v106).toNat)
    case atStart => exact ⟨0, rfl, Nat.zero_le _, by simp [liveC]⟩
    case round =>
      obtain ⟨j, rfl, hj, rfl⟩ := hrel
      by_cases hltj : j < ys.length
      rotate_left
      · go_wp2_with fail
        go_round
        case rel => exact ⟨i + 1, by go_num, by omega⟩
        case measure => simp [intOf]; omega
      obtain ⟨b3, off3, ha3, hb3, hc3⟩ := HZ1.out.at hltj
      have HLT := Lib.hid' (live_take (D := D) hltj)
      have HAT := Lib.hid' (fun hn => pre_at HPRE.out hltj hn)
      have hkl : (liveC D (ys.take j)).length ≤ 12 := by have := List.length_filter_le (fun u => !D.contains u) (ys.take j); rw [List.length_take] at this; unfold liveC; omega
      subst ha3
      generalize ys[j] = u at *
      obtain ⟨kk, hkk⟩ : ∃ kk, kk = (liveC D (ys.take j)).length := ⟨_, rfl⟩
      have HKK := Lib.hid' hkk
      rw [← hkk] at hkl ⊢
      clear hkk
      go_wp2_with fail
      go_loop [17, 112] (fun v17 v112 => ∃ m : Nat, v112 = .int .i64 m ∧ m ≤ D.length ∧ v17 = .bool ((D.take m).contains u)) (fun _ v112 => D.length - (intOf v112).toNat)
      case atStart => exact ⟨0, rfl, Nat.zero_le _, by simp⟩
      case round =>
        obtain ⟨m, rfl, hm, rfl⟩ := hrel
        by_cases hltm : m < D.length
        · obtain ⟨b4, off4, ha4, hb4, hc4⟩ := HDc.out.at hltm
          subst ha4
          have HCN := Lib.hid' (contains_next (u := u) hltm)
          generalize D[m] = d at *
          obtain ⟨g, hg⟩ : ∃ g, g = (D.take m).contains u := ⟨_, rfl⟩
          rw [← hg] at HCN ⊢
          clear hg
          cases g with
          | true =>
            go_wp2_with fail
            go_round
            case rel => exact ⟨m + 1, by go_num, by omega, by rw [HCN.out]; rfl⟩
            case measure => simp [intOf]; omega
          | false =>
            obtain ⟨q, hq⟩ : ∃ q, q = (d == u) := ⟨_, rfl⟩
            have hqd : (d == u) = q := hq.symm
            rw [hqd] at HCN
            clear hq
            cases q
            · go_wp2_with fail
              go_round
              case rel => exact ⟨m + 1, by go_num, by omega, by rw [HCN.out]; rfl⟩
              case measure => simp [intOf]; omega
            · go_wp2_with fail
              go_round
              case rel => exact ⟨m + 1, by go_num, by omega, by rw [HCN.out]; rfl⟩
              case measure => simp [intOf]; omega
        · obtain rfl : m = D.length := by omega
          obtain ⟨g, hg⟩ : ∃ g, g = D.contains u := ⟨_, rfl⟩
          have HG := Lib.hid' hg
          rw [show (D.take D.length).contains u = g by rw [List.take_length, hg]]
          clear hg
          cases g with
          | true =>
            have HQ := Lib.hid' (show (liveC D (ys.take (j + 1))).length = kk by rw [HLT.out, if_pos HG.out.symm, HKK.out])
            go_wp2_with fail
            go_round
            case rel => exact ⟨j + 1, by go_num, by omega, by rw [HQ.out]⟩
            case measure => simp [intOf]; omega
          | false =>
            have HQ := Lib.hid' (show (liveC D (ys.take (j + 1))).length = kk + 1 by rw [HLT.out, if_neg (by rw [← HG.out]; decide), HKK.out]; simp)
            obtain ⟨hkx, hxu⟩ := HAT.out HG.out.symm
            rw [← HKK.out] at hkx
            have hxk : xs[kk] = u := by rw [← hxu]; congr 1
            clear hxu
            obtain ⟨b5, off5, ha5, hb5, hc5⟩ := HZ2.out.at hkx
            subst ha5
            rw [hxk] at hc5
            clear hxk
            go_wp2_with fail
            go_round
            case rel => exact ⟨j + 1, by go_num, by omega, by rw [HQ.out]; go_num⟩
            case measure => simp [intOf]; omega
end Go.Proofs.YtjkbcjliaacebaaGreat
