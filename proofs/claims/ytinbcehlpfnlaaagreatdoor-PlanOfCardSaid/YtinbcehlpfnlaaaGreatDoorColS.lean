/- ref15.Put, holdfastref03.Of, law16.collides. -/
import Derived.Test.YtinbcehlpfnlaaaGreatDoorDocA
import Derived.Test.YtinbcehlpfnlaaaGreatDoorManD
import Derived.Test.YtinbcehlpfnlaaaGreatDoorRefV
import Derived.Test.YtinbcehlpfnlaaaGreatDoorRtT
namespace Go.Proofs.YtinbcehlpfnlaaaGreatDoor
open Go.RowKit
set_option linter.unusedSimpArgs false
set_option linter.unusedVariables false
set_option maxRecDepth 100000

theorem mput_0 {x : Mf} (h : x.check = 0) : mputB x = x.put := by unfold mputB; rw [if_pos h]
theorem take_flat {α : Type} (f : α → List UInt8) {l : List α} {k : Nat} (h : k < l.length) : (l.take (k + 1)).flatMap f = (l.take k).flatMap f ++ f l[k] := by
  rw [List.take_add_one, List.getElem?_eq_getElem h, List.flatMap_append]; simp
set_option maxHeartbeats 16000000 in
theorem rput_any (x : Mf) (a : Option Addr) (c : Nat) (w : World) (ho : x.ok) (hck : x.check = 0) (hp : PtsAt w a c x.ps) :
    Calls Tryz.prog 33 #[.agg (mfV x a c).toArray] w fun e w' => ∃ fa fc, e = .returned (.slice fa x.put.length fc) ∧ Bytes w' (.slice fa x.put.length fc) x.put ∧ Below w.heap.size w w' := by
  have HP := Lib.hid' hp
  have HO := Lib.hid' ho
  have H36 := mfV_36 ho a c
  obtain ⟨q1, q2, q3, q4, _, _, q5, q6⟩ := mcheck_0 hck
  have HTL := Lib.hid' (text_len hck ho)
  have hpl := pre_len hck ho
  have HPI := Lib.hid' (parts_in q6)
  have hps : x.ps.length ≤ 1024 := q5
  have HSV := Lib.hid' (fun (wq : World) (hq : BoxW w.heap.size (mfV x a c) 67 wq) => (show SlV wq (.slice (some ⟨w.heap.size, 4, none⟩) 32 32) 32 (byteVs x.p) from
    slv_box hq 4 (byteVs x.p) 32 (by decide) (fun j u hu => by
      unfold mfV
      have hj : j < (byteVs x.p).length := (List.getElem?_eq_some_iff.1 hu).1
      rw [List.append_assoc, List.getElem?_append_right (by simp)]
      simp only [List.length_cons, List.length_nil, Nat.zero_add, Nat.reduceAdd, Nat.add_sub_cancel_left]
      rw [List.getElem?_append_left hj]; exact hu)))
  have hp32 : (byteVs x.p).length = 32 := by rw [byteVs_length, ho.p]
  have HP32 := Lib.hid' ho.p
  clear hp q5 q6 ho hck
  go_enter Tryz.func33, Tryz.ntmps33
  go_upto_region 1 with fail
  have H0 : Sep w NoF [.box w.heap.size (mfV x a c) 67] (w.alloc (.cells (mfV x a c).toArray 67)) := (Sep.start w).allocAt w.heap.size (mfV x a c) 67 rfl
  generalize w.alloc (.cells (mfV x a c).toArray 67) = w1 at *
  go_upto_region 2 with fail
  have H1 := H0.newRow 5 1
  generalize hw2 : w1.alloc (.cells #[] 5) = w2 at *
  clear hw2
  have c0 := H1.cell 1 rfl 0 (v := .int .i64 x.n) rfl
  have c1 := H1.cell 1 rfl 1 (v := .int .i64 x.f) rfl
  have c2 := H1.cell 1 rfl 2 (v := .int .i64 x.t) rfl
  have c3 := H1.cell 1 rfl 3 (v := .int .i64 x.r) rfl
  have HPR := Lib.hid' (show x.pre = vb x.n.toNat ++ vb x.f.toNat ++ vb x.t.toNat ++ vb x.r.toNat ++ x.p ++ vb x.ps.length from rfl)
  obtain ⟨n0, e0⟩ : ∃ n : Nat, x.n = n := ⟨x.n.toNat, by omega⟩
  obtain ⟨n1, e1⟩ : ∃ n : Nat, x.f = n := ⟨x.f.toNat, by omega⟩
  obtain ⟨n2, e2⟩ : ∃ n : Nat, x.t = n := ⟨x.t.toNat, by omega⟩
  obtain ⟨n3, e3⟩ : ∃ n : Nat, x.r = n := ⟨x.r.toNat, by omega⟩
  rw [e0] at c0 q1 HPR
  rw [e1] at c1 q2 HPR
  rw [e2] at c2 q3 HPR
  rw [e3] at c3 q4 HPR
  simp only [Int.toNat_natCast] at HPR
  clear e0 e1 e2 e3
  obtain ⟨ns, hns⟩ : ∃ ns : List Nat, ns = [n0, n1, n2, n3] := ⟨_, rfl⟩
  have HNL := Lib.hid' (show ns.length = 4 by rw [hns]; rfl)
  have HNB := Lib.hid' (show ∀ n ∈ ns, n ≤ 1048576 by rw [hns]; intro n hn; simp only [List.mem_cons, List.not_mem_nil, or_false] at hn; omega)
  have HPR2 := Lib.hid' (show x.pre = ns.flatMap vb ++ x.p ++ vb x.ps.length by rw [HPR.out, hns]; simp)
  have HNV := Lib.hid' (show ns.map (fun n : Nat => Value.int .i64 (n : Int)) = [.int .i64 (n0 : Int), .int .i64 (n1 : Int), .int .i64 (n2 : Int), .int .i64 (n3 : Int)] by rw [hns]; rfl)
  have H2 : Sep w NoF [.box w2.heap.size (ns.map (fun n : Nat => Value.int .i64 (n : Int))) 3, .row 5 1 (.slice (some ⟨w1.heap.size, 0, none⟩) 0 0) 0 [], .box w.heap.size (mfV x a c) 67] (w2.alloc (.cells #[.int .i64 (n0 : Int), .int .i64 (n1 : Int), .int .i64 (n2 : Int), .int .i64 (n3 : Int)] 3)) := by
    rw [HNV.out]; exact H1.allocAt w2.heap.size [.int .i64 (n0 : Int), .int .i64 (n1 : Int), .int .i64 (n2 : Int), .int .i64 (n3 : Int)] 3 rfl
  clear hns HPR HNV
  go_wp2_with fail
  generalize w2.alloc (.cells #[.int .i64 (n0 : Int), .int .i64 (n1 : Int), .int .i64 (n2 : Int), .int .i64 (n3 : Int)] 3) = w3 at *
  generalize w2.heap.size = N4 at *
  clear H0 H1 c0 c1 c2 c3 q1 q2 q3 q4
  go_loopw [19, 3] (fun v19 v3 wr => ∃ (k : Nat) (t : List UInt8) (ta : Option Addr) (tc : Nat), v19 = .int .i64 k ∧ k ≤ 4 ∧ v3 = .slice ta t.length tc ∧ Hid (t = (ns.take k).flatMap vb) ∧ t.length ≤ 10 * k ∧ Sep w NoF [.row 5 1 (.slice ta t.length tc) t.length (byteVs t), .box N4 (ns.map (fun n : Nat => Value.int .i64 (n : Int))) 3, .box w.heap.size (mfV x a c) 67] wr) (fun v19 _ _ => 4 - (intOf v19).toNat)
  case atStart => exact ⟨0, [], _, _, rfl, by decide, rfl, Lib.hid' rfl, by decide, H2.focus 1 rfl⟩
  case round =>
    clear H2
    obtain ⟨k, t, ta, tc, rfl, hk, rfl, HT, htl, H0⟩ := hrel
    by_cases hlt : k < 4
    · have hkl : k < ns.length := by rw [HNL.out]; exact hlt
      have z := H0.cell 1 rfl k (show (ns.map (fun n : Nat => Value.int .i64 (n : Int)))[k]? = some (.int .i64 (ns[k] : Int)) by simp [hkl])
      have hnb := HNB.out _ (List.getElem_mem hkl)
      have HT2 := Lib.hid' (show t ++ vb ns[k] = (ns.take (k + 1)).flatMap vb by rw [take_flat vb hkl, HT.out])
      have hlt' : (k : Int) < 4 := by omega
      clear HT
      generalize ns[k] = n at *
      have un := u64_id n (by omega)
      have HRB := Lib.hid' (fun wq => rBytes_any n (by omega) wq)
      have hv10 := vb_len10 (n := n) (by omega)
      have hbv := byteVs_length (vb n)
      go_wp2_with (first | (go_at_call 43; refine (HRB.out _).mono ?_; rintro e wx ⟨ra, rc, rfl, hro, hrb⟩; have HX := H0.below hrb; have hsr := SlV.of_own hro) | (at_builtin; refine Sep.appendSl etBytes rfl (.tmp 23) (.tmp 26) rfl HX 0 rfl rfl (vb n).length (byteVs (vb n)) _ rfl hsr (by rw [hbv]; omega) (byteVs_one _) (by omega) ?_; intro a9 c9 w9 HA))
      have HA2 : Sep w NoF [.row 5 1 (.slice a9 (t ++ vb n).length c9) (t ++ vb n).length (byteVs (t ++ vb n)), .box N4 (ns.map (fun n : Nat => Value.int .i64 (n : Int))) 3, .box w.heap.size (mfV x a c) 67] w9 := by rw [byteVs_append, List.length_append]; exact HA
      have HLN := Lib.hid' (show t.length + (vb n).length = (t ++ vb n).length from (List.length_append ..).symm)
      have htl2 : (t ++ vb n).length ≤ 10 * (k + 1) := by rw [← HLN.out]; omega
      clear HA HX H0 hsr hro hrb z un HRB hbv
      rw [HLN.out]
      generalize t ++ vb n = t2 at *
      go_wp2_with fail
      go_roundw
      case rel => exact ⟨k + 1, t2, a9, c9, by go_num, by omega, rfl, HT2, htl2, HA2⟩
      case measure => simp [intOf]; omega
    · obtain rfl : k = 4 := by omega
      rw [show ((4 : Nat) : Int) = 4 from rfl]
      have HT2 := Lib.hid' (show t = ns.flatMap vb by rw [HT.out, ← HNL.out, List.take_length])
      have H1 := H0.drop 1
      clear HT H0 HNB hlt hk
      go_upto_region 8 with (at_builtin; refine Sep.appendSl etBytes rfl (.tmp 29) (.tmp 31) rfl H1 0 rfl rfl 32 (byteVs x.p) _ rfl (HSV.out _ (H1.box 1 rfl)) (by rw [hp32]) (byteVs_one _) (by omega) ?_; intro a9 c9 w9 HA)
      have HLN := Lib.hid' (show t.length + 32 = (t ++ x.p).length by rw [List.length_append, HP32.out])
      have HA2 : Sep w NoF [.row 5 1 (.slice a9 (t ++ x.p).length c9) (t ++ x.p).length (byteVs (t ++ x.p)), .box w.heap.size (mfV x a c) 67] w9 := by rw [byteVs_append, ← HLN.out]; exact HA
      have HT3 := Lib.hid' (show x.pre = (t ++ x.p) ++ vb x.ps.length by rw [HPR2.out, HT2.out])
      have htl3 : (t ++ x.p).length ≤ 72 := by rw [← HLN.out]; omega
      clear HA H1 HT2 htl HPR2
      rw [HLN.out]
      clear HLN
      generalize t ++ x.p = t3 at *
      have c36 := HA2.cell 1 rfl 36 H36
      have un := u64_id x.ps.length (by omega)
      have HRB := Lib.hid' (fun wq => rBytes_any x.ps.length (by omega) wq)
      have hbv := byteVs_length (vb x.ps.length)
      have hv10 := vb_len10 (n := x.ps.length) (by omega)
      go_upto_region 9 with (first | (go_at_call 43; refine (HRB.out _).mono ?_; rintro e wx ⟨ra, rc, rfl, hro, hrb⟩; have HX := HA2.below hrb; have hsr := SlV.of_own hro) | (at_builtin; refine Sep.appendSl etBytes rfl (.tmp 33) (.tmp 38) rfl HX 0 rfl rfl (vb x.ps.length).length (byteVs (vb x.ps.length)) _ rfl hsr (by rw [hbv]; omega) (byteVs_one _) (by omega) ?_; intro a8 c8 w8 HB))
      have HB2 : Sep w NoF [.row 5 1 (.slice a8 x.pre.length c8) x.pre.length (byteVs x.pre), .box w.heap.size (mfV x a c) 67] w8 := by rw [HT3.out, byteVs_append, List.length_append]; exact HB
      have HLN := Lib.hid' (show t3.length + (vb x.ps.length).length = x.pre.length by rw [HT3.out, List.length_append])
      clear HB HX HA2 hsr hro hrb c36 un HRB hbv
      rw [HLN.out]
      clear HLN HT3 htl3 hv10
      go_wp2_with fail
      go_loopw [6, 3] (fun v6 v3 wr => ∃ (k : Nat) (t : List UInt8) (ta : Option Addr) (tc : Nat), v6 = .int .i64 k ∧ k ≤ x.ps.length ∧ v3 = .slice ta t.length tc ∧ Hid (t = x.pre ++ (x.ps.take k).flatMap partB) ∧ t.length ≤ 60000 + 52 * k ∧ Sep w NoF [.row 5 1 (.slice ta t.length tc) t.length (byteVs t), .box w.heap.size (mfV x a c) 67] wr) (fun v6 _ _ => x.ps.length - (intOf v6).toNat)
      case atStart => exact ⟨0, x.pre, a8, c8, rfl, Nat.zero_le _, rfl, Lib.hid' (by simp), by omega, HB2⟩
      case round =>
        clear HB2 hpl
        obtain ⟨k, t, ta, tc, rfl, hk, rfl, HT, htl, H5⟩ := hrel
        have c36 := H5.cell 1 rfl 36 H36
        by_cases hlt : k < x.ps.length
        · have hlt' : (k : Int) < (x.ps.length : Int) := by omega
          obtain ⟨bb, off, rfl, hbb, hrg⟩ := PtsAt.at (HP.out.below (Nat.le_refl _) H5.toBelow) HO.out.ps hlt
          have HG := Lib.hid' hrg
          have hyo := HO.out.ps _ (List.getElem_mem hlt)
          have hyi := HPI.out _ (List.getElem_mem hlt)
          have HTN := Lib.hid' (show t ++ partB x.ps[k] = x.pre ++ (x.ps.take (k + 1)).flatMap partB by
            rw [take_flat partB hlt, ← List.append_assoc, HT.out])
          clear hrg HT
          generalize x.ps[k] = y at *
          have hpz : (Tryz.prog.info? 69).map (·.size) = some (ptV y).length := by rw [ptV_len hyo]; exact rp_size
          have hpl0 : zeroPt.length = (ptV y).length := by rw [ptV_len hyo]; rfl
          have hp1 : (ptV y).all (·.oneCell') = true := List.all_eq_true.2 ptV_one
          have HZ : Sep w NoF [.box wr.heap.size zeroPt 69, .row 5 1 (.slice ta t.length tc) t.length (byteVs t), .box w.heap.size (mfV x (some ⟨bb, off, none⟩) c) 67] (wr.alloc (.cells #[.int .i64 0, .int .i64 0, .int .i64 0, .int .u8 0, .int .u8 0, .int .u8 0, .int .u8 0, .int .u8 0, .int .u8 0, .int .u8 0, .int .u8 0, .int .u8 0, .int .u8 0, .int .u8 0, .int .u8 0, .int .u8 0, .int .u8 0, .int .u8 0, .int .u8 0, .int .u8 0, .int .u8 0, .int .u8 0, .int .u8 0, .int .u8 0, .int .u8 0, .int .u8 0, .int .u8 0, .int .u8 0, .int .u8 0, .int .u8 0, .int .u8 0, .int .u8 0, .int .u8 0, .int .u8 0, .int .u8 0] 69)) := H5.allocAt wr.heap.size zeroPt 69 rfl
          have HY : Sep w NoF [.box wr.heap.size (ptV y) 69, .row 5 1 (.slice ta t.length tc) t.length (byteVs t), .box w.heap.size (mfV x (some ⟨bb, off, none⟩) c) 67] _ := HZ.setRow 0 rfl (ptV y)
          go_upto_region 13 with (first | (refine wpList_load_at HG.out rfl 69 (.tmp 50) rfl rfl _ Tryz.underlying69 rfl hpz ?_) | (refine Sep.storeB HZ 0 rfl rfl 69 (.tmp 7) (.tmp 51) rfl (ptV y) rfl rfl hpz hpl0 hp1 ?_))
          generalize ((wr.alloc (.cells #[.int .i64 0, .int .i64 0, .int .i64 0, .int .u8 0, .int .u8 0, .int .u8 0, .int .u8 0, .int .u8 0, .int .u8 0, .int .u8 0, .int .u8 0, .int .u8 0, .int .u8 0, .int .u8 0, .int .u8 0, .int .u8 0, .int .u8 0, .int .u8 0, .int .u8 0, .int .u8 0, .int .u8 0, .int .u8 0, .int .u8 0, .int .u8 0, .int .u8 0, .int .u8 0, .int .u8 0, .int .u8 0, .int .u8 0, .int .u8 0, .int .u8 0, .int .u8 0, .int .u8 0, .int .u8 0, .int .u8 0] 69)).setRow wr.heap.size (ptV y).toArray) = w5 at *
          generalize wr.heap.size = NB at *
          clear HZ HG hpl0 hp1 H5 hpz c36
          obtain ⟨m, hm⟩ : ∃ n : Nat, y.m = n := ⟨y.m.toNat, by omega⟩
          obtain ⟨s, hs⟩ : ∃ n : Nat, y.s = n := ⟨y.s.toNat, by omega⟩
          have hm64 : m ≤ 64 := by omega
          have hs64 : s ≤ 65536 := by omega
          have HPY := Lib.hid' (show t ++ vb m ++ vb s ++ y.d = t ++ partB y by unfold partB; rw [hm, hs]; simp)
          have hYm : (ptV y)[1]? = some (.int .i64 (m : Int)) := by rw [← hm]; rfl
          have hYs : (ptV y)[2]? = some (.int .i64 (s : Int)) := by rw [← hs]; rfl
          have HDL := Lib.hid' hyo.d
          have HSY := Lib.hid' (fun (wq : World) (hq : BoxW NB (ptV y) 69 wq) => (show SlV wq (.slice (some ⟨NB, 3, none⟩) 32 32) 32 (byteVs y.d) from
            slv_box hq 3 (byteVs y.d) 32 (by decide) (fun j u hu => by unfold ptV; rw [List.getElem?_append_right (by simp)]; simpa using hu)))
          have hvm := vb_len10 (n := m) (by omega)
          have hvs := vb_len10 (n := s) (by omega)
          have HRM := Lib.hid' (fun wq => rBytes_any m (by omega) wq)
          have HRS := Lib.hid' (fun wq => rBytes_any s (by omega) wq)
          have um := u64_id m (by omega)
          have us := u64_id s (by omega)
          have hbm := byteVs_length (vb m)
          have hbs := byteVs_length (vb s)
          have hbd : (byteVs y.d).length = 32 := by rw [byteVs_length, hyo.d]
          have hbd1 : ∀ u ∈ byteVs y.d, u.oneCell' = true := byteVs_one _
          have htl1 : t.length ≤ 200000 := by omega
          clear hyi hyo hm hs
          generalize ptV y = PV at *
          have y1 := HY.cell 0 rfl 1 hYm
          go_upto_region 14 with (first | (go_at_call 43; refine (HRM.out _).mono ?_; rintro e wx ⟨ra, rc, rfl, hro, hrb⟩; have HX := HY.below hrb; have hsr := SlV.of_own hro) | (at_builtin; refine Sep.appendSl etBytes rfl (.tmp 52) (.tmp 56) rfl HX 1 rfl rfl (vb m).length (byteVs (vb m)) _ rfl hsr (by rw [hbm]; omega) (byteVs_one _) (by omega) ?_; intro a9 c9 w9 HA))
          clear HX HY hsr hro hrb y1 HRM hbm um
          have y2 := HA.cell 1 rfl 2 hYs
          go_upto_region 15 with (first | (go_at_call 43; refine (HRS.out _).mono ?_; rintro e wx ⟨ra, rc, rfl, hro, hrb⟩; have HX := HA.below hrb; have hsr := SlV.of_own hro) | (at_builtin; refine Sep.appendSl etBytes rfl (.tmp 58) (.tmp 62) rfl HX 0 rfl rfl (vb s).length (byteVs (vb s)) _ rfl hsr (by rw [hbs]; omega) (byteVs_one _) (by omega) ?_; intro a8 c8 w8 HB))
          clear HX HA hsr hro hrb y2 HRS hbs us
          go_upto_region 11 with (at_builtin; refine Sep.appendSl etBytes rfl (.tmp 64) (.tmp 66) rfl HB 0 rfl rfl 32 (byteVs y.d) _ rfl (HSY.out _ (HB.box 1 rfl)) (by rw [hbd]) hbd1 (by omega) ?_; intro a7 c7 w7 HC)
          have HLT := Lib.hid' (show t.length + (vb m).length + (vb s).length + 32 = (t ++ partB y).length by rw [← HPY.out]; simp only [List.length_append, HDL.out])
          have HC2 : Sep w NoF [.row 5 1 (.slice a7 (t ++ partB y).length c7) (t ++ partB y).length (byteVs (t ++ partB y)), .box w.heap.size (mfV x (some ⟨bb, off, none⟩) c) 67] w7 := by
            have h7 := HC.drop 1
            rw [← byteVs_append, ← byteVs_append, ← byteVs_append, HPY.out, HLT.out] at h7
            exact h7
          have htl2 : (t ++ partB y).length ≤ 60000 + 52 * (k + 1) := by rw [← HLT.out]; omega
          clear HC HB HPY HSY
          rw [HLT.out]
          clear HLT hbd hbd1
          generalize t ++ partB y = t2 at *
          go_wp2_with fail
          go_roundw
          case rel => exact ⟨k + 1, t2, a7, c7, by go_num, by omega, rfl, HTN, htl2, HC2⟩
          case measure => simp [intOf]; omega
        · obtain rfl : k = x.ps.length := by omega
          have HTE := Lib.hid' (show t = x.text by rw [HT.out, List.take_length, text_pre])
          have htl6 : t.length ≤ 60000 := by rw [HTE.out]; exact HTL.out
          have HFR := Lib.hid' (fun (wq : World) (h : Bytes wq (.slice ta t.length tc) t) => rFrame_any t ta tc wq h (by omega))
          have HPU := Lib.hid' (show frameB t = x.put by rw [HTE.out]; rfl)
          have hbt : Bytes wr (.slice ta t.length tc) t := SlV.of_own (H5.row 0 rfl)
          have hnl : ¬ ((x.ps.length : Int) < (x.ps.length : Int)) := by omega
          clear HT HTE
          go_wp2_with (go_at_call 44; refine (HFR.out _ hbt).mono ?_; rintro e wx ⟨ra, rc, rfl, hro, hrb⟩)
          rw [HPU.out] at hro
          go_ret
          exact ⟨ra, rc, ret_eq (by rw [HPU.out]; rfl), SlV.of_own hro, (H5.below hrb).toBelow⟩
end Go.Proofs.YtinbcehlpfnlaaaGreatDoor

namespace Go.Proofs.YtinbcehlpfnlaaaGreatDoor
open Go.RowKit
set_option linter.unusedSimpArgs false
set_option linter.unusedVariables false
set_option maxRecDepth 100000

def RSumLaw : Prop := ∀ (t : List UInt8) (ta : Option Addr) (tc : Nat) (ka : Option Addr) (kc : Nat) (fa : Option Addr) (fc : Nat) (w : World), Bytes w (.slice ta t.length tc) t → t.length ≤ 1073741824 →
    SlV w (.slice ka 64 kc) 64 (shaK.map wV) → SlV w (.slice fa 8 fc) 8 (shaH.list.map wV) →
    Calls Tryz.prog 42 #[.slice ta t.length tc, .slice ka 64 kc, .slice fa 8 fc] w fun e w' => e = .returned (.agg (byteVs (shaB t)).toArray) ∧ Below w.heap.size w w'
theorem rd_size : (Tryz.prog.info? 64).map (·.size) = some 32 := by kernel_rfl
set_option maxHeartbeats 4000000 in
theorem rof_any (HS : RSumLaw) (t : List UInt8) (ta : Option Addr) (tc : Nat) (w : World) (hT : Bytes w (.slice ta t.length tc) t) (hl : t.length ≤ 1073741824) :
    Calls Tryz.prog 32 #[.slice ta t.length tc] w fun e w' => e = .returned (.agg (byteVs (shaB t)).toArray) ∧ Below w.heap.size w w' := by
  have hs32 : (byteVs (shaB t)).length = 32 := by rw [byteVs_length, shaB_len]
  have hz : (Tryz.prog.info? 64).map (·.size) = some (byteVs (shaB t)).length := by rw [hs32]; exact rd_size
  have hz0 : zeroD.length = (byteVs (shaB t)).length := by rw [hs32]; rfl
  have h1 : (byteVs (shaB t)).all (·.oneCell') = true := List.all_eq_true.2 (byteVs_one _)
  have HSM := Lib.hid' (fun ka kc fa fc wq (hb : Below w.heap.size w wq) (h3 : SlV wq (.slice ka 64 kc) 64 (shaK.map wV)) (h4 : SlV wq (.slice fa 8 fc) 8 (shaH.list.map wV)) => HS t ta tc ka kc fa fc wq (SlV.below hT (Nat.le_refl _) hb) hl h3 h4)
  clear hT HS hs32
  generalize byteVs (shaB t) = DV at *
  go_enter Tryz.func32, Tryz.ntmps32
  go_upto_region 1 with fail
  have H0 : Sep w NoF [.box w.heap.size zeroD 64] (w.alloc (.cells #[.int .u8 0, .int .u8 0, .int .u8 0, .int .u8 0, .int .u8 0, .int .u8 0, .int .u8 0, .int .u8 0, .int .u8 0, .int .u8 0, .int .u8 0, .int .u8 0, .int .u8 0, .int .u8 0, .int .u8 0, .int .u8 0, .int .u8 0, .int .u8 0, .int .u8 0, .int .u8 0, .int .u8 0, .int .u8 0, .int .u8 0, .int .u8 0, .int .u8 0, .int .u8 0, .int .u8 0, .int .u8 0, .int .u8 0, .int .u8 0, .int .u8 0, .int .u8 0] 64)) := (Sep.start w).allocAt w.heap.size zeroD 64 rfl
  generalize w.alloc (.cells #[.int .u8 0, .int .u8 0, .int .u8 0, .int .u8 0, .int .u8 0, .int .u8 0, .int .u8 0, .int .u8 0, .int .u8 0, .int .u8 0, .int .u8 0, .int .u8 0, .int .u8 0, .int .u8 0, .int .u8 0, .int .u8 0, .int .u8 0, .int .u8 0, .int .u8 0, .int .u8 0, .int .u8 0, .int .u8 0, .int .u8 0, .int .u8 0, .int .u8 0, .int .u8 0, .int .u8 0, .int .u8 0, .int .u8 0, .int .u8 0, .int .u8 0, .int .u8 0] 64) = w1 at *
  go_upto_region 2 with (go_at_call 41; refine (tables_any _).mono ?_; rintro e w2 ⟨ka, kc, fa, fc, rfl, hk, hf, hb2⟩)
  have H2 := H0.below hb2
  have HC := Lib.hid' (HSM.out ka kc fa fc w2 H2.toBelow hk hf)
  clear HSM hk hf hb2 H0
  go_wp2_with (first | (go_at_call 42; refine HC.out.mono ?_; rintro e w3 ⟨rfl, hb3⟩; have H3 := H2.below hb3) | (refine Sep.storeB H3 0 rfl rfl 64 (.tmp 2) (.tmp 12) rfl DV rfl rfl hz hz0 h1 ?_))
  have H4 := H3.setRow 0 rfl DV
  refine bodyPost_ret (box_result Tryz.results32 (H4.box 0 rfl) _ rfl _ Tryz.underlying64 rfl hz) rfl ?_
  exact ⟨rfl, H4.toBelow⟩
end Go.Proofs.YtinbcehlpfnlaaaGreatDoor

namespace Go.Proofs.YtinbcehlpfnlaaaGreatDoor
open Go.RowKit
set_option linter.unusedSimpArgs false
set_option linter.unusedVariables false
set_option maxRecDepth 100000

def colM : List MfP → List MfP → Bool
  | x :: X, y :: Y => (x.1.put != y.1.put && shaB x.1.put == shaB y.1.put) || colM X Y
  | _, _ => false
theorem col_no {X Y : List MfP} {k : Nat} (hx : k < X.length) (hy : k < Y.length) (h : (X[k].1.put != Y[k].1.put && shaB X[k].1.put == shaB Y[k].1.put) = false) : colM (X.drop k) (Y.drop k) = colM (X.drop (k + 1)) (Y.drop (k + 1)) := by
  rw [List.drop_eq_getElem_cons hx, List.drop_eq_getElem_cons hy, colM, h, Bool.false_or]
theorem col_yes {X Y : List MfP} {k : Nat} (hx : k < X.length) (hy : k < Y.length) (h : (X[k].1.put != Y[k].1.put && shaB X[k].1.put == shaB Y[k].1.put) = true) : colM (X.drop k) (Y.drop k) = true := by
  rw [List.drop_eq_getElem_cons hx, List.drop_eq_getElem_cons hy, colM, h, Bool.true_or]
theorem put_len {x : Mf} (h : x.check = 0) (ho : x.ok) : x.put.length ≤ 1073741824 := by
  have h1 := text_len h ho
  have h2 := vb_len10 (n := x.text.length) (by omega)
  unfold Mf.put
  rw [frameB_len]
  omega
theorem eqD3 (a b : List UInt8) (ha : a.length = 32) (hb : b.length = 32) (w : World) : (Op.equalIn 10000 64 (.agg (byteVs a).toArray) (.agg (byteVs b).toArray)).run Tryz.prog w = .ok (a == b) w :=
  run_equalIn_bytes w 9998 32 64 5 Tryz.underlying64 Tryz.underlying5 u8_size a b ha hb
end Go.Proofs.YtinbcehlpfnlaaaGreatDoor
