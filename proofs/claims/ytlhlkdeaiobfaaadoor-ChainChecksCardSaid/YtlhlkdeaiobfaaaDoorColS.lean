/- ref15.Put, holdfastref03.Of, law16.collides. -/
import Derived.Test.YtlhlkdeaiobfaaaDoorDocA
import Derived.Test.YtlhlkdeaiobfaaaDoorManD
import Derived.Test.YtlhlkdeaiobfaaaDoorRefV
import Derived.Test.YtlhlkdeaiobfaaaDoorRtT
namespace Go.Proofs.YtlhlkdeaiobfaaaDoor
open Go.RowKit
set_option linter.unusedSimpArgs false
set_option linter.unusedVariables false
set_option maxRecDepth 100000

theorem mput_0 {x : Mf} (h : x.check = 0) : mputB x = x.put := by unfold mputB; rw [if_pos h]
theorem take_flat {α : Type} (f : α → List UInt8) {l : List α} {k : Nat} (h : k < l.length) : (l.take (k + 1)).flatMap f = (l.take k).flatMap f ++ f l[k] := by
  rw [List.take_add_one, List.getElem?_eq_getElem h, List.flatMap_append]; simp
set_option maxHeartbeats 16000000 in
theorem rput_any (x : Mf) (a : Option Addr) (c : Nat) (w : World) (ho : x.ok) (hck : x.check = 0) (hp : PtsAt w a c x.ps) :
    Calls Tryd.prog 31 #[.agg (mfV x a c).toArray] w fun e w' => ∃ fa fc, e = .returned (.slice fa x.put.length fc) ∧ Bytes w' (.slice fa x.put.length fc) x.put ∧ Below w.heap.size w w' := by
  have HP := Lib.hid' hp
  have HO := Lib.hid' ho
  have H36 := mfV_36 ho a c
  obtain ⟨q1, q2, q3, q4, _, _, q5, q6⟩ := mcheck_0 hck
  have HTL := Lib.hid' (text_len hck ho)
  have hpl := pre_len hck ho
  have HPI := Lib.hid' (parts_in q6)
  have hps : x.ps.length ≤ 1024 := q5
  have HSV := Lib.hid' (fun (wq : World) (hq : BoxW w.heap.size (mfV x a c) 76 wq) => (show SlV wq (.slice (some ⟨w.heap.size, 4, none⟩) 32 32) 32 (byteVs x.p) from
    slv_box hq 4 (byteVs x.p) 32 (by decide) (fun j u hu => by
      unfold mfV
      have hj : j < (byteVs x.p).length := (List.getElem?_eq_some_iff.1 hu).1
      rw [List.append_assoc, List.getElem?_append_right (by simp)]
      simp only [List.length_cons, List.length_nil, Nat.zero_add, Nat.reduceAdd, Nat.add_sub_cancel_left]
      rw [List.getElem?_append_left hj]; exact hu)))
  have hp32 : (byteVs x.p).length = 32 := by rw [byteVs_length, ho.p]
  have HP32 := Lib.hid' ho.p
  clear hp q5 q6 ho hck
  go_enter Tryd.func31, Tryd.ntmps31
  go_upto_region 1 with fail
  have H0 : Sep w NoF [.box w.heap.size (mfV x a c) 76] (w.alloc (.cells (mfV x a c).toArray 76)) := (Sep.start w).allocAt w.heap.size (mfV x a c) 76 rfl
  generalize w.alloc (.cells (mfV x a c).toArray 76) = w1 at *
  go_upto_region 2 with fail
  have H1 := H0.newRow 5 1
  generalize hw2 : w1.alloc (.cells #[] 5) = w2 at *
  clear hw2
  have c0 := H1.cell 1 rfl 0 (v := .int .i64 x.n) rfl
  have c1 := H1.cell 1 rfl 1 (v := .int .i64 x.f) rfl
  have c2 := H1.cell 1 rfl 2 (v := .int .i64 x.t) rfl
  have c3 := H1.cell 1 rfl 3 (v := .int .i64 x.r) rfl
  have HPR := Lib.hid' (show x.pre = vb x.n.toNat ++ vb x.f.toNat ++ vb x.t.toNat ++ vb x.r.toNat ++ x.p ++ vb x.ps.length from rfl)
  obtain ⟨n0, e0⟩ : ∃ n : Nat, x.n = n := ⟨x.n.toNat, by omega⟩
  obtain ⟨n1, e1⟩ : ∃ n : Nat, x.f = n := ⟨x.f.toNat, by omega⟩
  obtain ⟨n2, e2⟩ : ∃ n : Nat, x.t = n := ⟨x.t.toNat, by omega⟩
  obtain ⟨n3, e3⟩ : ∃ n : Nat, x.r = n := ⟨x.r.toNat, by omega⟩
  rw [e0] at c0 q1 HPR
  rw [e1] at c1 q2 HPR
  rw [e2] at c2 q3 HPR
  rw [e3] at c3 q4 HPR
  simp only [Int.toNat_natCast] at HPR
  clear e0 e1 e2 e3
  obtain ⟨ns, hns⟩ : ∃ ns : List Nat, ns = [n0, n1, n2, n3] := ⟨_, rfl⟩
  have HNL := Lib.hid' (show ns.length = 4 by rw [hns]; rfl)
  have HNB := Lib.hid' (show ∀ n ∈ ns, n ≤ 1048576 by rw [hns]; intro n hn; simp only [List.mem_cons, List.not_mem_nil, or_false] at hn; omega)
  have HPR2 := Lib.hid' (show x.pre = ns.flatMap vb ++ x.p ++ vb x.ps.length by rw [HPR.out, hns]; simp)
  have HNV := Lib.hid' (show ns.map (fun n : Nat => Value.int .i64 (n : Int)) = [.int .i64 (n0 : Int), .int .i64 (n1 : Int), .int .i64 (n2 : Int), .int .i64 (n3 : Int)] by rw [hns]; rfl)
  have H2 : Sep w NoF [.box w2.heap.size (ns.map (fun n : Nat => Value.int .i64 (n : Int))) 3, .row 5 1 (.slice (some ⟨w1.heap.size, 0, none⟩) 0 0) 0 [], .box w.heap.size (mfV x a c) 76] (w2.alloc (.cells #[.int .i64 (n0 : Int), .int .i64 (n1 : Int), .int .i64 (n2 : Int), .int .i64 (n3 : Int)] 3)) := by
    rw [HNV.out]; exact H1.allocAt w2.heap.size [.int .i64 (n0 : Int), .int .i64 (n1 : Int), .int .i64 (n2 : Int), .int .i64 (n3 : Int)] 3 rfl
  clear hns HPR HNV
  go_wp2_with fail
  generalize w2.alloc (.cells #[.int .i64 (n0 : Int), .int .i64 (n1 : Int), .int .i64 (n2 : Int), .int .i64 (n3 : Int)] 3) = w3 at *
  generalize w2.heap.size = N4 at *
  clear H0 H1 c0 c1 c2 c3 q1 q2 q3 q4
  go_loopw [19, 3] (fun v19 v3 wr => ∃ (k : Nat) (t : List UInt8) (ta : Option Addr) (tc : Nat), v19 = .int .i64 k ∧ k ≤ 4 ∧ v3 = .slice ta t.length tc ∧ Hid (t = (ns.take k).flatMap vb) ∧ t.length ≤ 10 * k ∧ Sep w NoF [.row 5 1 (.slice ta t.length tc) t.length (byteVs t), .box N4 (ns.map (fun n : Nat => Value.int .i64 (n : Int))) 3, .box w.heap.size (mfV x a c) 76] wr) (fun v19 _ _ => 4 - (intOf v19).toNat)
  case atStart => exact ⟨0, [], _, _, rfl, by decide, rfl, Lib.hid' rfl, by decide, H2.focus 1 rfl⟩
  case round =>
    clear H2
    obtain ⟨k, t, ta, tc, rfl, hk, rfl, HT, htl, H0⟩ := hrel
    by_cases hlt : k < 4
    · have hkl : k < ns.length := by rw [HNL.out]; exact hlt
      have z := H0.cell 1 rfl k (show (ns.map (fun n : Nat => Value.int .i64 (n : Int)))[k]? = some (.int .i64 (ns[k] : Int)) by simp [hkl])
      have hnb := HNB.out _ (List.getElem_mem hkl)
      have HT2 := Lib.hid' (show t ++ vb ns[k] = (ns.take (k + 1)).flatMap vb by rw [take_flat vb hkl, HT.out])
      have hlt' : (k : Int) < 4 := by omega
      clear HT
      generalize ns[k] = n at *
      have un := u64_id n (by omega)
      have HRB := Lib.hid' (fun wq => rBytes_any n (by omega) wq)
      have hv10 := vb_len10 (n := n) (by omega)
      have hbv := byteVs_length (vb n)
      go_wp2_with (first | (go_at_call 44; refine (HRB.out _).mono ?_; rintro e wx ⟨ra, rc, rfl, hro, hrb⟩; have HX := H0.below hrb; have hsr := SlV.of_own hro) | (at_builtin; refine Sep.appendSl etBytes rfl (.tmp 23) (.tmp 26) rfl HX 0 rfl rfl (vb n).length (byteVs (vb n)) _ rfl hsr (by rw [hbv]; omega) (byteVs_one _) (by omega) ?_; intro a9 c9 w9 HA))
      have HA2 : Sep w NoF [.row 5 1 (.slice a9 (t ++ vb n).length c9) (t ++ vb n).length (byteVs (t ++ vb n)), .box N4 (ns.map (fun n : Nat => Value.int .i64 (n : Int))) 3, .box w.heap.size (mfV x a c) 76] w9 := by rw [byteVs_append, List.length_append]; exact HA
      have HLN := Lib.hid' (show t.length + (vb n).length = (t ++ vb n).length from (List.length_append ..).symm)
      have htl2 : (t ++ vb n).length ≤ 10 * (k + 1) := by rw [← HLN.out]; omega
      clear HA HX H0 hsr hro hrb z un HRB hbv
      rw [HLN.out]
      generalize t ++ vb n = t2 at *
      go_wp2_with fail
      go_roundw
      case rel => exact ⟨k + 1, t2, a9, c9, by go_num, by omega, rfl, HT2, htl2, HA2⟩
      case measure => simp [intOf]; omega
    · obtain rfl : k = 4 := by omega
      rw [show ((4 : Nat) : Int) = 4 from rfl]
      have HT2 := Lib.hid' (show t = ns.flatMap vb by rw [HT.out, ← HNL.out, List.take_length])
      have H1 := H0.drop 1
      clear HT H0 HNB hlt hk
      go_upto_region 8 with (at_builtin; refine Sep.appendSl etBytes rfl (.tmp 29) (.tmp 31) rfl H1 0 rfl rfl 32 (byteVs x.p) _ rfl (HSV.out _ (H1.box 1 rfl)) (by rw [hp32]) (byteVs_one _) (by omega) ?_; intro a9 c9 w9 HA)
      have HLN := Lib.hid' (show t.length + 32 = (t ++ x.p).length by rw [List.length_append, HP32.out])
      have HA2 : Sep w NoF [.row 5 1 (.slice a9 (t ++ x.p).length c9) (t ++ x.p).length (byteVs (t ++ x.p)), .box w.heap.size (mfV x a c) 76] w9 := by rw [byteVs_append, ← HLN.out]; exact HA
      have HT3 := Lib.hid' (show x.pre = (t ++ x.p) ++ vb x.ps.length by rw [HPR2.out, HT2.out])
      have htl3 : (t ++ x.p).length ≤ 72 := by rw [← HLN.out]; omega
      clear HA H1 HT2 htl HPR2
      rw [HLN.out]
      clear HLN
      generalize t ++ x.p = t3 at *
      have c36 := HA2.cell 1 rfl 36 H36
      have un := u64_id x.ps.length (by omega)
      have HRB := Lib.hid' (fun wq => rBytes_any x.ps.length (by omega) wq)
      have hbv := byteVs_length (vb x.ps.length)
      have hv10 := vb_len10 (n := x.ps.length) (by omega)
      go_upto_region 9 with (first | (go_at_call 44; refine (HRB.out _).mono ?_; rintro e wx ⟨ra, rc, rfl, hro, hrb⟩; have HX := HA2.below hrb; have hsr := SlV.of_own hro) | (at_builtin; refine Sep.appendSl etBytes rfl (.tmp 33) (.tmp 38) rfl HX 0 rfl rfl (vb x.ps.length).length (byteVs (vb x.ps.length)) _ rfl hsr (by rw [hbv]; omega) (byteVs_one _) (by omega) ?_; intro a8 c8 w8 HB))
      have HB2 : Sep w NoF [.row 5 1 (.slice a8 x.pre.length c8) x.pre.length (byteVs x.pre), .box w.heap.size (mfV x a c) 76] w8 := by rw [HT3.out, byteVs_append, List.length_append]; exact HB
      have HLN := Lib.hid' (show t3.length + (vb x.ps.length).length = x.pre.length by rw [HT3.out, List.length_append])
      clear HB HX HA2 hsr hro hrb c36 un HRB hbv
      rw [HLN.out]
      clear HLN HT3 htl3 hv10
      go_wp2_with fail
      go_loopw [6, 3] (fun v6 v3 wr => ∃ (k : Nat) (t : List UInt8) (ta : Option Addr) (tc : Nat), v6 = .int .i64 k ∧ k ≤ x.ps.length ∧ v3 = .slice ta t.length tc ∧ Hid (t = x.pre ++ (x.ps.take k).flatMap partB) ∧ t.length ≤ 60000 + 52 * k ∧ Sep w NoF [.row 5 1 (.slice ta t.length tc) t.length (byteVs t), .box w.heap.size (mfV x a c) 76] wr) (fun v6 _ _ => x.ps.length - (intOf v6).toNat)
      case atStart => exact ⟨0, x.pre, a8, c8, rfl, Nat.zero_le _, rfl, Lib.hid' (by simp), by omega, HB2⟩
      case round =>
        clear HB2 hpl
        obtain ⟨k, t, ta, tc, rfl, hk, rfl, HT, htl, H5⟩ := hrel
        have c36 := H5.cell 1 rfl 36 H36
        by_cases hlt : k < x.ps.length
        · have hlt' : (k : Int) < (x.ps.length : Int) := by omega
          obtain ⟨bb, off, rfl, hbb, hrg⟩ := PtsAt.at (HP.out.below (Nat.le_refl _) H5.toBelow) HO.out.ps hlt
          have HG := Lib.hid' hrg
          have hyo := HO.out.ps _ (List.getElem_mem hlt)
          have hyi := HPI.out _ (List.getElem_mem hlt)
          have HTN := Lib.hid' (show t ++ partB x.ps[k] = x.pre ++ (x.ps.take (k + 1)).flatMap partB by
            rw [take_flat partB hlt, ← List.append_assoc, HT.out])
          clear hrg HT
          generalize x.ps[k] = y at *
          have hpz : (Tryd.prog.info? 94).map (·.size) = some (ptV y).length := by rw [ptV_len hyo]; exact rp_size
          have hpl0 : zeroPt.length = (ptV y).length := by rw [ptV_len hyo]; rfl
          have hp1 : (ptV y).all (·.oneCell') = true := List.all_eq_true.2 ptV_one
          have HZ : Sep w NoF [.box wr.heap.size zeroPt 94, .row 5 1 (.slice ta t.length tc) t.length (byteVs t), .box w.heap.size (mfV x (some ⟨bb, off, none⟩) c) 76] (wr.alloc (.cells #[.int .i64 0, .int .i64 0, .int .i64 0, .int .u8 0, .int .u8 0, .int .u8 0, .int .u8 0, .int .u8 0, .int .u8 0, .int .u8 0, .int .u8 0, .int .u8 0, .int .u8 0, .int .u8 0, .int .u8 0, .int .u8 0, .int .u8 0, .int .u8 0, .int .u8 0, .int .u8 0, .int .u8 0, .int .u8 0, .int .u8 0, .int .u8 0, .int .u8 0, .int .u8 0, .int .u8 0, .int .u8 0, .int .u8 0, .int .u8 0, .int .u8 0, .int .u8 0, .int .u8 0, .int .u8 0, .int .u8 0] 94)) := H5.allocAt wr.heap.size zeroPt 94 rfl
          have HY : Sep w NoF [.box wr.heap.size (ptV y) 94, .row 5 1 (.slice ta t.length tc) t.length (byteVs t), .box w.heap.size (mfV x (some ⟨bb, off, none⟩) c) 76] _ := HZ.setRow 0 rfl (ptV y)
          go_upto_region 13 with (first | (refine wpList_load_at HG.out rfl 94 (.tmp 50) rfl rfl _ Tryd.underlying94 rfl hpz ?_) | (refine Sep.storeB HZ 0 rfl rfl 94 (.tmp 7) (.tmp 51) rfl (ptV y) rfl rfl hpz hpl0 hp1 ?_))
          generalize ((wr.alloc (.cells #[.int .i64 0, .int .i64 0, .int .i64 0, .int .u8 0, .int .u8 0, .int .u8 0, .int .u8 0, .int .u8 0, .int .u8 0, .int .u8 0, .int .u8 0, .int .u8 0, .int .u8 0, .int .u8 0, .int .u8 0, .int .u8 0, .int .u8 0, .int .u8 0, .int .u8 0, .int .u8 0, .int .u8 0, .int .u8 0, .int .u8 0, .int .u8 0, .int .u8 0, .int .u8 0, .int .u8 0, .int .u8 0, .int .u8 0, .int .u8 0, .int .u8 0, .int .u8 0, .int .u8 0, .int .u8 0, .int .u8 0] 94)).setRow wr.heap.size (ptV y).toArray) = w5 at *
          generalize wr.heap.size = NB at *
          clear HZ HG hpl0 hp1 H5 hpz c36
          obtain ⟨m, hm⟩ : ∃ n : Nat, y.m = n := ⟨y.m.toNat, by omega⟩
          obtain ⟨s, hs⟩ : ∃ n : Nat, y.s = n := ⟨y.s.toNat, by omega⟩
          have hm64 : m ≤ 64 := by omega
          have hs64 : s ≤ 65536 := by omega
          have HPY := Lib.hid' (show t ++ vb m ++ vb s ++ y.d = t ++ partB y by unfold partB; rw [hm, hs]; simp)
          have hYm : (ptV y)[1]? = some (.int .i64 (m : Int)) := by rw [← hm]; rfl
          have hYs : (ptV y)[2]? = some (.int .i64 (s : Int)) := by rw [← hs]; rfl
          have HDL := Lib.hid' hyo.d
          have HSY := Lib.hid' (fun (wq : World) (hq : BoxW NB (ptV y) 94 wq) => (show SlV wq (.slice (some ⟨NB, 3, none⟩) 32 32) 32 (byteVs y.d) from
            slv_box hq 3 (byteVs y.d) 32 (by decide) (fun j u hu => by unfold ptV; rw [List.getElem?_append_right (by simp)]; simpa using hu)))
          have hvm := vb_len10 (n := m) (by omega)
          have hvs := vb_len10 (n := s) (by omega)
          have HRM := Lib.hid' (fun wq => rBytes_any m (by omega) wq)
          have HRS := Lib.hid' (fun wq => rBytes_any s (by omega) wq)
          have um := u64_id m (by omega)
          have us := u64_id s (by omega)
          have hbm := byteVs_length (vb m)
          have hbs := byteVs_length (vb s)
          have hbd : (byteVs y.d).length = 32 := by rw [byteVs_length, hyo.d]
          have hbd1 : ∀ u ∈ byteVs y.d, u.oneCell' = true := byteVs_one _
          have htl1 : t.length ≤ 200000 := by omega
          clear hyi hyo hm hs
          generalize ptV y = PV at *
          have y1 := HY.cell 0 rfl 1 hYm
          go_upto_region 14 with (first | (go_at_call 44; refine (HRM.out _).mono ?_; rintro e wx ⟨ra, rc, rfl, hro, hrb⟩; have HX := HY.below hrb; have hsr := SlV.of_own hro) | (at_builtin; refine Sep.appendSl etBytes rfl (.tmp 52) (.tmp 56) rfl HX 1 rfl rfl (vb m).length (byteVs (vb m)) _ rfl hsr (by rw [hbm]; omega) (byteVs_one _) (by omega) ?_; intro a9 c9 w9 HA))
          clear HX HY hsr hro hrb y1 HRM hbm um
          have y2 := HA.cell 1 rfl 2 hYs
          go_upto_region 15 with (first | (go_at_call 44; refine (HRS.out _).mono ?_; rintro e wx ⟨ra, rc, rfl, hro, hrb⟩; have HX := HA.below hrb; have hsr := SlV.of_own hro) | (at_builtin; refine Sep.appendSl etBytes rfl (.tmp 58) (.tmp 62) rfl HX 0 rfl rfl (vb s).length (byteVs (vb s)) _ rfl hsr (by rw [hbs]; omega) (byteVs_one _) (by omega) ?_; intro a8 c8 w8 HB))
          clear HX HA hsr hro hrb y2 HRS hbs us
          go_upto_region 11 with (at_builtin; refine Sep.appendSl etBytes rfl (.tmp 64) (.tmp 66) rfl HB 0 rfl rfl 32 (byteVs y.d) _ rfl (HSY.out _ (HB.box 1 rfl)) (by rw [hbd]) hbd1 (by omega) ?_; intro a7 c7 w7 HC)
          have HLT := Lib.hid' (show t.length + (vb m).length + (vb s).length + 32 = (t ++ partB y).length by rw [← HPY.out]; simp only [List.length_append, HDL.out])
          have HC2 : Sep w NoF [.row 5 1 (.slice a7 (t ++ partB y).length c7) (t ++ partB y).length (byteVs (t ++ partB y)), .box w.heap.size (mfV x (some ⟨bb, off, none⟩) c) 76] w7 := by
            have h7 := HC.drop 1
            rw [← byteVs_append, ← byteVs_append, ← byteVs_append, HPY.out, HLT.out] at h7
            exact h7
          have htl2 : (t ++ partB y).length ≤ 60000 + 52 * (k + 1) := by rw [← HLT.out]; omega
          clear HC HB HPY HSY
          rw [HLT.out]
          clear HLT hbd hbd1
          generalize t ++ partB y = t2 at *
          go_wp2_with fail
          go_roundw
          case rel => exact ⟨k + 1, t2, a7, c7, by go_num, by omega, rfl, HTN, htl2, HC2⟩
          case measure => simp [intOf]; omega
        · obtain rfl : k = x.ps.length := by omega
          have HTE := Lib.hid' (show t = x.text by rw [HT.out, List.take_length, text_pre])
          have htl6 : t.length ≤ 60000 := by rw [HTE.out]; exact HTL.out
          have HFR := Lib.hid' (fun (wq : World) (h : Bytes wq (.slice ta t.length tc) t) => rFrame_any t ta tc wq h (by omega))
          have HPU := Lib.hid' (show frameB t = x.put by rw [HTE.out]; rfl)
          have hbt : Bytes wr (.slice ta t.length tc) t := SlV.of_own (H5.row 0 rfl)
          have hnl : ¬ ((x.ps.length : Int) < (x.ps.length : Int)) := by omega
          clear HT HTE
          go_wp2_with (go_at_call 45; refine (HFR.out _ hbt).mono ?_; rintro e wx ⟨ra, rc, rfl, hro, hrb⟩)
          rw [HPU.out] at hro
          go_ret
          exact ⟨ra, rc, ret_eq (by rw [HPU.out]; rfl), SlV.of_own hro, (H5.below hrb).toBelow⟩
end Go.Proofs.YtlhlkdeaiobfaaaDoor

namespace Go.Proofs.YtlhlkdeaiobfaaaDoor
open Go.RowKit
set_option linter.unusedSimpArgs false
set_option linter.unusedVariables false
set_option maxRecDepth 100000

def RSumLaw : Prop := ∀ (t : List UInt8) (ta : Option Addr) (tc : Nat) (ka : Option Addr) (kc : Nat) (fa : Option Addr) (fc : Nat) (w : World), Bytes w (.slice ta t.length tc) t → t.length ≤ 1073741824 →
    SlV w (.slice ka 64 kc) 64 (shaK.map wV) → SlV w (.slice fa 8 fc) 8 (shaH.list.map wV) →
    Calls Tryd.prog 48 #[.slice ta t.length tc, .slice ka 64 kc, .slice fa 8 fc] w fun e w' => e = .returned (.agg (byteVs (shaB t)).toArray) ∧ Below w.heap.size w w'
theorem rd_size : (Tryd.prog.info? 48).map (·.size) = some 32 := by kernel_rfl
set_option maxHeartbeats 4000000 in
theorem rof_any (HS : RSumLaw) (t : List UInt8) (ta : Option Addr) (tc : Nat) (w : World) (hT : Bytes w (.slice ta t.length tc) t) (hl : t.length ≤ 1073741824) :
    Calls Tryd.prog 33 #[.slice ta t.length tc] w fun e w' => e = .returned (.agg (byteVs (shaB t)).toArray) ∧ Below w.heap.size w w' := by
  have hs32 : (byteVs (shaB t)).length = 32 := by rw [byteVs_length, shaB_len]
  have hz : (Tryd.prog.info? 48).map (·.size) = some (byteVs (shaB t)).length := by rw [hs32]; exact rd_size
  have hz0 : zeroD.length = (byteVs (shaB t)).length := by rw [hs32]; rfl
  have h1 : (byteVs (shaB t)).all (·.oneCell') = true := List.all_eq_true.2 (byteVs_one _)
  have HSM := Lib.hid' (fun ka kc fa fc wq (hb : Below w.heap.size w wq) (h3 : SlV wq (.slice ka 64 kc) 64 (shaK.map wV)) (h4 : SlV wq (.slice fa 8 fc) 8 (shaH.list.map wV)) => HS t ta tc ka kc fa fc wq (SlV.below hT (Nat.le_refl _) hb) hl h3 h4)
  clear hT HS hs32
  generalize byteVs (shaB t) = DV at *
  go_enter Tryd.func33, Tryd.ntmps33
  go_upto_region 1 with fail
  have H0 : Sep w NoF [.box w.heap.size zeroD 48] (w.alloc (.cells #[.int .u8 0, .int .u8 0, .int .u8 0, .int .u8 0, .int .u8 0, .int .u8 0, .int .u8 0, .int .u8 0, .int .u8 0, .int .u8 0, .int .u8 0, .int .u8 0, .int .u8 0, .int .u8 0, .int .u8 0, .int .u8 0, .int .u8 0, .int .u8 0, .int .u8 0, .int .u8 0, .int .u8 0, .int .u8 0, .int .u8 0, .int .u8 0, .int .u8 0, .int .u8 0, .int .u8 0, .int .u8 0, .int .u8 0, .int .u8 0, .int .u8 0, .int .u8 0] 48)) := (Sep.start w).allocAt w.heap.size zeroD 48 rfl
  generalize w.alloc (.cells #[.int .u8 0, .int .u8 0, .int .u8 0, .int .u8 0, .int .u8 0, .int .u8 0, .int .u8 0, .int .u8 0, .int .u8 0, .int .u8 0, .int .u8 0, .int .u8 0, .int .u8 0, .int .u8 0, .int .u8 0, .int .u8 0, .int .u8 0, .int .u8 0, .int .u8 0, .int .u8 0, .int .u8 0, .int .u8 0, .int .u8 0, .int .u8 0, .int .u8 0, .int .u8 0, .int .u8 0, .int .u8 0, .int .u8 0, .int .u8 0, .int .u8 0, .int .u8 0] 48) = w1 at *
  go_upto_region 2 with (go_at_call 47; refine (tables_any _).mono ?_; rintro e w2 ⟨ka, kc, fa, fc, rfl, hk, hf, hb2⟩)
  have H2 := H0.below hb2
  have HC := Lib.hid' (HSM.out ka kc fa fc w2 H2.toBelow hk hf)
  clear HSM hk hf hb2 H0
  go_wp2_with (first | (go_at_call 48; refine HC.out.mono ?_; rintro e w3 ⟨rfl, hb3⟩; have H3 := H2.below hb3) | (refine Sep.storeB H3 0 rfl rfl 48 (.tmp 2) (.tmp 12) rfl DV rfl rfl hz hz0 h1 ?_))
  have H4 := H3.setRow 0 rfl DV
  refine bodyPost_ret (box_result Tryd.results33 (H4.box 0 rfl) _ rfl _ Tryd.underlying48 rfl hz) rfl ?_
  exact ⟨rfl, H4.toBelow⟩
end Go.Proofs.YtlhlkdeaiobfaaaDoor

namespace Go.Proofs.YtlhlkdeaiobfaaaDoor
open Go.RowKit
set_option linter.unusedSimpArgs false
set_option linter.unusedVariables false
set_option maxRecDepth 100000

def colM : List MfP → List MfP → Bool
  | x :: X, y :: Y => (x.1.put != y.1.put && shaB x.1.put == shaB y.1.put) || colM X Y
  | _, _ => false
theorem col_no {X Y : List MfP} {k : Nat} (hx : k < X.length) (hy : k < Y.length) (h : (X[k].1.put != Y[k].1.put && shaB X[k].1.put == shaB Y[k].1.put) = false) : colM (X.drop k) (Y.drop k) = colM (X.drop (k + 1)) (Y.drop (k + 1)) := by
  rw [List.drop_eq_getElem_cons hx, List.drop_eq_getElem_cons hy, colM, h, Bool.false_or]
theorem col_yes {X Y : List MfP} {k : Nat} (hx : k < X.length) (hy : k < Y.length) (h : (X[k].1.put != Y[k].1.put && shaB X[k].1.put == shaB Y[k].1.put) = true) : colM (X.drop k) (Y.drop k) = true := by
  rw [List.drop_eq_getElem_cons hx, List.drop_eq_getElem_cons hy, colM, h, Bool.true_or]
theorem put_len {x : Mf} (h : x.check = 0) (ho : x.ok) : x.put.length ≤ 1073741824 := by
  have h1 := text_len h ho
  have h2 := vb_len10 (n := x.text.length) (by omega)
  unfold Mf.put
  rw [frameB_len]
  omega
theorem eqD3 (a b : List UInt8) (ha : a.length = 32) (hb : b.length = 32) (w : World) : (Op.equalIn 10000 48 (.agg (byteVs a).toArray) (.agg (byteVs b).toArray)).run Tryd.prog w = .ok (a == b) w :=
  run_equalIn_bytes w 9998 32 48 5 Tryd.underlying48 Tryd.underlying5 u8_size a b ha hb
set_option maxHeartbeats 16000000 in
theorem collides_any (HSum : RSumLaw) (X Y : List MfP) (a b : Option Addr) (c e : Nat) (w : World) (hX : MsAt w a c X) (hY : MsAt w b e Y) (hl : X.length = Y.length) (kX : ∀ x ∈ X, x.1.check = 0) (kY : ∀ y ∈ Y, y.1.check = 0) :
    Calls Tryd.prog 12 #[.slice a X.length c, .slice b Y.length e] w fun en w' => en = .returned (.bool (colM X Y)) ∧ Below w.heap.size w w' := by
  have hlx := hX.len
  have HX := Lib.hid' hX
  have HY := Lib.hid' hY
  have KX := Lib.hid' kX
  have KY := Lib.hid' kY
  have HLN := Lib.hid' hl
  have HSU := Lib.hid' HSum
  clear hX hY kX kY hl HSum
  go_enter Tryd.func12, Tryd.ntmps12
  go_wp2_with fail
  go_loopw [10] (fun v10 wr => ∃ k : Nat, v10 = .int .i64 k ∧ k ≤ X.length ∧ Hid (colM X Y = colM (X.drop k) (Y.drop k)) ∧ Hid (Below w.heap.size w wr)) (fun v10 _ => X.length - (intOf v10).toNat)
  case atStart => exact ⟨0, rfl, Nat.zero_le _, Lib.hid' rfl, Lib.hid' (Below.refl _ _)⟩
  case round =>
    obtain ⟨k, rfl, hk, HC, HB⟩ := hrel
    by_cases hlt : k < X.length
    · have hltY : k < Y.length := by rw [← HLN.out]; exact hlt
      have HXr := Lib.hid' (HX.out.below (Nat.le_refl _) HB.out)
      have HYr := Lib.hid' (HY.out.below (Nat.le_refl _) HB.out)
      obtain ⟨ba, oa, rfl, hba, hra⟩ := MsAt.at HXr.out hlt
      obtain ⟨bb, ob, rfl, hbb, hrb⟩ := MsAt.at HYr.out hltY
      have ox := HX.out.ok _ (List.getElem_mem hlt)
      have oy := HY.out.ok _ (List.getElem_mem hltY)
      have kx := KX.out _ (List.getElem_mem hlt)
      have ky := KY.out _ (List.getElem_mem hltY)
      have hzx : (Tryd.prog.info? 27).map (·.size) = some (mV X[k]).length := by unfold mV; rw [mfV_len ox]; exact mf_size
      have hzy : (Tryd.prog.info? 27).map (·.size) = some (mV Y[k]).length := by unfold mV; rw [mfV_len oy]; exact mf_size
      have ex := HXr.out.each _ (List.getElem_mem hlt)
      have ey := HYr.out.each _ (List.getElem_mem hltY)
      have lx : X[k].1.ps.length ≤ 1073741824 := by have := (mcheck_0 kx).2.2.2.2.2.2.1; omega
      have ly : Y[k].1.ps.length ≤ 1073741824 := by have := (mcheck_0 ky).2.2.2.2.2.2.1; omega
      have HDA := Lib.hid' (fun wq (hb : Below wr.heap.size wr wq) => show Calls Tryd.prog 32 #[.agg (mV X[k]).toArray] wq (DocR X[k].1 wq) from document_any X[k].1 X[k].2.1 X[k].2.2 wq ox (ex.below (Nat.le_refl _) hb) lx)
      have HDB := Lib.hid' (fun wq (hb : Below wr.heap.size wr wq) => show Calls Tryd.prog 32 #[.agg (mV Y[k]).toArray] wq (DocR Y[k].1 wq) from document_any Y[k].1 Y[k].2.1 Y[k].2.2 wq oy (ey.below (Nat.le_refl _) hb) ly)
      have HPA := Lib.hid' (fun pa pc wq (hb : PtsAt wq pa pc X[k].1.ps) => rput_any X[k].1 pa pc wq ox kx hb)
      have HPB := Lib.hid' (fun pa pc wq (hb : PtsAt wq pa pc Y[k].1.ps) => rput_any Y[k].1 pa pc wq oy ky hb)
      have HRA := Lib.hid' (fun wq (hb : Below wr.heap.size wr wq) => World.rangeAt.below hra hb)
      have HRB := Lib.hid' (fun wq (hb : Below wr.heap.size wr wq) => World.rangeAt.below hrb hb)
      have HT := Lib.hid' (fun he => HC.out.trans (col_no hlt hltY he))
      have HS := Lib.hid' (fun he => HC.out.trans (col_yes hlt hltY he))
      have hx2 : (k : Int) < (X.length : Int) := by omega
      have hy2 : (k : Int) < (Y.length : Int) := by omega
      have hll : (X.length : Int) = (Y.length : Int) := by have := HLN.out; omega
      have hpl : X[k].1.put.length ≤ 1073741824 := put_len kx ox
      have hql : Y[k].1.put.length ≤ 1073741824 := put_len ky oy
      clear hra hrb HXr HYr ox oy ex ey kx ky lx ly hll
      generalize mV X[k] = PX at *
      generalize mV Y[k] = PY at *
      generalize X[k].1 = x at *
      generalize Y[k].1 = y at *
      obtain ⟨A, hA⟩ : ∃ A, A = x.put := ⟨_, rfl⟩
      obtain ⟨B, hB⟩ : ∃ B, B = y.put := ⟨_, rfl⟩
      rw [← hA] at HPA HT HS hpl
      rw [← hB] at HPB HT HS hql
      clear hA hB
      go_upto_region 4 with fail
      go_cut [6, 7] (fun v6 v7 wc => ∃ fa fc ga gc, v6 = .slice fa A.length fc ∧ v7 = .slice ga B.length gc ∧ Hid (Bytes wc (.slice fa A.length fc) A ∧ Bytes wc (.slice ga B.length gc) B ∧ Below wr.heap.size wr wc))
      case first =>
        refine wp_region_held_drew (S := (fun w' => Below wr.heap.size wr w')) (by kernel_rfl) ((Below.refl _ _).drew) (fun hH0 => ?_)
        refine wpAnyH_take (i := 0) (oi := _) (v := .slice (some ⟨ba, oa, none⟩) X.length c) rfl (by kernel_rfl) (by kernel_rfl) (by kernel_rfl) (fun _ _ _ h => h) (Or.inl ⟨by rfl, ?_⟩) hH0 ?_
        · intro w hSw; go_simp
        simp only [Act.put, List.getElem_toArray, List.getElem_cons_zero, List.getElem_cons_succ, List.setIfInBounds_toArray, List.set_cons_zero, List.set_cons_succ]
        refine wpAnyH_take (i := 1) (oi := _) (v := .int .i64 (k : Int)) rfl (by kernel_rfl) (by kernel_rfl) (by kernel_rfl) (fun _ _ _ h => h) (Or.inl ⟨by rfl, ?_⟩) hH0 ?_
        · intro w hSw; go_simp
        simp only [Act.put, List.getElem_toArray, List.getElem_cons_zero, List.getElem_cons_succ, List.setIfInBounds_toArray, List.set_cons_zero, List.set_cons_succ]
        refine wpAnyH_take (i := 2) (oi := _) (v := .pointer (some ⟨ba, oa + k * 37, none⟩)) rfl (by kernel_rfl) (by kernel_rfl) (by kernel_rfl) (fun _ _ _ h => h) (Or.inl ⟨by rfl, ?_⟩) hH0 ?_
        · intro w hSw; go_simp
        simp only [Act.put, List.getElem_toArray, List.getElem_cons_zero, List.getElem_cons_succ, List.setIfInBounds_toArray, List.set_cons_zero, List.set_cons_succ]
        refine wpAnyH_take (i := 3) (oi := _) (v := .agg PX.toArray) rfl (by kernel_rfl) (by kernel_rfl) (by kernel_rfl) (fun _ _ _ h => h) (yieldsIf_load_mid (by kernel_rfl) 27 (.tmp 15) rfl ba (oa + k * 37) rfl PX _ (fun wq hb => HRA.out wq hb) Tryd.underlying27 rfl hzx) hH0 ?_
        simp only [Act.put, List.getElem_toArray, List.getElem_cons_zero, List.getElem_cons_succ, List.setIfInBounds_toArray, List.set_cons_zero, List.set_cons_succ]
        refine wpAnyH_take (i := 6) (oi := _) (v := .slice (some ⟨bb, ob, none⟩) Y.length e) rfl (by kernel_rfl) (by kernel_rfl) (by kernel_rfl) (fun _ _ _ h => h) (Or.inl ⟨by rfl, ?_⟩) hH0 ?_
        · intro w hSw; go_simp
        simp only [Act.put, List.getElem_toArray, List.getElem_cons_zero, List.getElem_cons_succ, List.setIfInBounds_toArray, List.set_cons_zero, List.set_cons_succ]
        refine wpAnyH_take (i := 7) (oi := _) (v := .int .i64 (k : Int)) rfl (by kernel_rfl) (by kernel_rfl) (by kernel_rfl) (fun _ _ _ h => h) (Or.inl ⟨by rfl, ?_⟩) hH0 ?_
        · intro w hSw; go_simp
        simp only [Act.put, List.getElem_toArray, List.getElem_cons_zero, List.getElem_cons_succ, List.setIfInBounds_toArray, List.set_cons_zero, List.set_cons_succ]
        refine wpAnyH_take (i := 8) (oi := _) (v := .pointer (some ⟨bb, ob + k * 37, none⟩)) rfl (by kernel_rfl) (by kernel_rfl) (by kernel_rfl) (fun _ _ _ h => h) (Or.inl ⟨by rfl, ?_⟩) hH0 ?_
        · intro w hSw; go_simp
        simp only [Act.put, List.getElem_toArray, List.getElem_cons_zero, List.getElem_cons_succ, List.setIfInBounds_toArray, List.set_cons_zero, List.set_cons_succ]
        refine wpAnyH_take (i := 9) (oi := _) (v := .agg PY.toArray) rfl (by kernel_rfl) (by kernel_rfl) (by kernel_rfl) (fun _ _ _ h => h) (yieldsIf_load_mid (by kernel_rfl) 27 (.tmp 21) rfl bb (ob + k * 37) rfl PY _ (fun wq hb => HRB.out wq hb) Tryd.underlying27 rfl hzy) hH0 ?_
        simp only [Act.put, List.getElem_toArray, List.getElem_cons_zero, List.getElem_cons_succ, List.setIfInBounds_toArray, List.set_cons_zero, List.set_cons_succ]
        refine wpAnyH_ready (rs := [4]) (by kernel_rfl) (by simp) (AllReadyH.cons (o := _) rfl (fun K hK => ?_) AllReadyH.nil)
        go_simp
        refine (HDA.out _ hH0).mono ?_
        rintro en w21 ⟨a1, c1, rfl, hpA, hb1⟩
        refine hK.out _ _ ?_ (fun hH1 => ?_)
        · exact Below.trans hH0 (hb1.mono (Below.size hH0))
        clear hK K
        refine wpAnyH_ready (rs := [5]) (by kernel_rfl) (by simp) (AllReadyH.cons (o := _) rfl (fun K hK => ?_) AllReadyH.nil)
        go_simp
        refine (HPA.out _ _ _ hpA).mono ?_
        rintro en w22 ⟨fa, fc, rfl, hbA, hb2⟩
        have hpA := SlV.below hpA (Nat.le_refl _) hb2
        refine hK.out _ _ ?_ (fun hH2 => ?_)
        · exact Below.trans hH1 (hb2.mono (Below.size hH1))
        clear hK K
        refine wpAnyH_ready (rs := [10]) (by kernel_rfl) (by simp) (AllReadyH.cons (o := _) rfl (fun K hK => ?_) AllReadyH.nil)
        go_simp
        refine (HDB.out _ hH2).mono ?_
        rintro en w23 ⟨a2, c2, rfl, hpB, hb3⟩
        have hpA := SlV.below hpA (Nat.le_refl _) hb3
        have hbA := SlV.below hbA (Nat.le_refl _) hb3
        refine hK.out _ _ ?_ (fun hH3 => ?_)
        · exact Below.trans hH2 (hb3.mono (Below.size hH2))
        clear hK K
        refine wpAnyH_ready (rs := [11]) (by kernel_rfl) (by simp) (AllReadyH.cons (o := _) rfl (fun K hK => ?_) AllReadyH.nil)
        go_simp
        refine (HPB.out _ _ _ hpB).mono ?_
        rintro en w24 ⟨ga, gc, rfl, hbB, hb4⟩
        have hpA := SlV.below hpA (Nat.le_refl _) hb4
        have hbA := SlV.below hbA (Nat.le_refl _) hb4
        have hpB := SlV.below hpB (Nat.le_refl _) hb4
        refine hK.out _ _ ?_ (fun hH4 => ?_)
        · exact Below.trans hH3 (hb4.mono (Below.size hH3))
        clear hK K
        refine wpAnyH_take (i := 12) (oi := _) (v := .slice fa A.length fc) rfl (by kernel_rfl) (by kernel_rfl) (by kernel_rfl) (fun _ _ _ h => h) (Or.inl ⟨by rfl, ?_⟩) hH4 ?_
        · intro w hSw; go_simp
        simp only [Act.put, List.getElem_toArray, List.getElem_cons_zero, List.getElem_cons_succ, List.setIfInBounds_toArray, List.set_cons_zero, List.set_cons_succ]
        refine wpAnyH_take (i := 13) (oi := _) (v := .slice ga B.length gc) rfl (by kernel_rfl) (by kernel_rfl) (by kernel_rfl) (fun _ _ _ h => h) (Or.inl ⟨by rfl, ?_⟩) hH4 ?_
        · intro w hSw; go_simp
        simp only [Act.put, List.getElem_toArray, List.getElem_cons_zero, List.getElem_cons_succ, List.setIfInBounds_toArray, List.set_cons_zero, List.set_cons_succ]
        refine wpAnyH_done (by kernel_rfl) ?_ _
        have HFIN := Lib.hid' (And.intro hbA (And.intro hbB hH4))
        go_wp2_with fail
        go_meet
        exact ⟨fa, fc, ga, gc, rfl, rfl, HFIN⟩
      case rest =>
      obtain ⟨fa, fc, ga, gc, rfl, rfl, HFIN⟩ := hcut
      clear HRA HRB HDA HDB HPA HPB
      obtain ⟨hbA, hbB, hbW⟩ := HFIN.out
      have HBW := Lib.hid' (HB.out.trans (hbW.mono HB.out.size))
      have HOA := Lib.hid' (rof_any HSU.out A fa fc _ hbA hpl)
      have HOB := Lib.hid' (fun wq (hb : Below wc.heap.size wc wq) => rof_any HSU.out B ga gc wq (SlV.below hbB (Nat.le_refl _) hb) hql)
      have s1 := run_string_of (P := Tryd.prog) 72 5 9 Tryd.underlying72 Tryd.underlying5 Tryd.underlying9 hbA
      have s2 := run_string_of (P := Tryd.prog) 72 5 9 Tryd.underlying72 Tryd.underlying5 Tryd.underlying9 hbB
      have HEQ := Lib.hid' (fun wq => eqD3 (shaB A) (shaB B) (shaB_len A) (shaB_len B) wq)
      clear hbA hbB hbW HFIN HSU
      by_cases hab : A = B
      · have b1 : ((strOf A).toList == (strOf B).toList) = true := by rw [beq_iff_eq, hab]
        have b2 : ((strOf A).toList != (strOf B).toList) = false := by rw [bne_eq_false_iff_eq, hab]
        have HT2 := Lib.hid' (HT.out (by rw [hab]; simp))
        clear hab HT HS HOA HOB HEQ
        go_wp2_with fail
        go_roundw
        case rel => exact ⟨k + 1, by go_num, by omega, HT2, HBW⟩
        case measure => simp [intOf]; omega
      · have b1 : ((strOf A).toList == (strOf B).toList) = false := by rw [beq_eq_false_iff_ne, strOf_toList, strOf_toList]; exact hab
        have b2 : ((strOf A).toList != (strOf B).toList) = true := by rw [bne_iff_ne, ne_eq, strOf_toList, strOf_toList]; exact hab
        by_cases hsh : shaB A = shaB B
        · have b3 : (shaB A == shaB B) = true := by rw [beq_iff_eq]; exact hsh
          rw [b3] at HEQ
          have HR := Lib.hid' (HS.out (by rw [b3, Bool.and_true, bne_iff_ne]; exact hab))
          have HQ := HEQ.out
          clear hab HT HS hsh b3 HEQ
          generalize byteVs (shaB A) = DA at *
          generalize byteVs (shaB B) = DB at *
          go_wp2_with (first | (go_at_call 33; with_reducible (refine HOA.out.mono ?_); rintro en w10 ⟨rfl, hb10⟩; have HOB2 := Lib.hid' (HOB.out _ hb10)) | (go_at_call 33; with_reducible (refine HOB2.out.mono ?_); rintro en w11 ⟨rfl, hb11⟩))
          go_ret
          exact ⟨ret_eq (by rw [HR.out]; rfl), (HBW.out.trans (hb10.mono HBW.out.size)).trans (hb11.mono (Nat.le_trans HBW.out.size hb10.size))⟩
        · have b3 : (shaB A == shaB B) = false := by rw [beq_eq_false_iff_ne]; exact hsh
          rw [b3] at HEQ
          have HT2 := Lib.hid' (HT.out (by rw [b3, Bool.and_false]))
          have HQ := HEQ.out
          clear hab HT HS hsh b3 HEQ
          generalize byteVs (shaB A) = DA at *
          generalize byteVs (shaB B) = DB at *
          go_upto_if 36 with (first | (go_at_call 33; with_reducible (refine HOA.out.mono ?_); rintro en w10 ⟨rfl, hb10⟩; have HOB2 := Lib.hid' (HOB.out _ hb10)) | (go_at_call 33; with_reducible (refine HOB2.out.mono ?_); rintro en w11 ⟨rfl, hb11⟩))
          have HBX := Lib.hid' ((HBW.out.trans (hb10.mono HBW.out.size)).trans (hb11.mono (Nat.le_trans HBW.out.size hb10.size)))
          go_wp2_with fail
          go_roundw
          case rel => exact ⟨k + 1, by go_num, by omega, HT2, HBX⟩
          case measure => simp [intOf]; omega
    · obtain rfl : k = X.length := by omega
      have HR := Lib.hid' (show colM X Y = false by rw [HC.out, List.drop_length, colM]; intro x X y Y h; cases h)
      go_wp2_with fail
      go_ret
      exact ⟨ret_eq (by rw [HR.out]; rfl), HB.out⟩
end Go.Proofs.YtlhlkdeaiobfaaaDoor
