/- Proved here: a part of the proof (33 of 33). -/
import Derived.Test.YtdknbacbcnfonaaGreatDoorJ30
import Derived.Test.YtdknbacbcnfonaaGreatDoorJ8
import Derived.Deep.DeepCutAuto
import Derived.Deep.CutBlock
set_option linter.unusedSimpArgs false
set_option linter.unusedVariables false
set_option maxRecDepth 100000
namespace Go.Proofs.YtdknbacbcnfonaaGreatDoor
open Go.RowKit
namespace SL
open DK SH SQ
theorem kind16' (k : Int) : 0 ≤ (IntKind.u64.wrap k).tmod 16 ∧ (IntKind.u64.wrap k).tmod 16 < 16 := by
 have h : 0 ≤ IntKind.u64.wrap k := by
  have e : IntKind.u64.wrap k = k % 18446744073709551616 := by simp [IntKind.wrap, IntKind.signed, IntKind.bits]
  omega
 rw [Int.tmod_eq_emod_of_nonneg h]
 omega
set_option maxHeartbeats 40000000 in
theorem slogRises_any (un rm : Int) (ca : Option Addr) (cc : Nat) (X : List Ch) (sa : Option Addr) (sc : Nat) (S : List A13) (w : World) (hp : DK.Pow w) (hX : Chs w ca cc X) (hS : A13L w sa sc S) :
  Calls Tryz.prog 3 #[.agg #[.int .i64 un, .int .i64 rm, .slice ca X.length cc], .slice sa S.length sc] w fun en w' => en = .returned (.bool true) ∧ Below w.heap.size w w' := by
 have HP := Lib.hid' hp
 have HX := Lib.hid' hX
 have HS := Lib.hid' hS
 have hSl := hS.len
 have hs1 := (Sep.start w).allocAt w.heap.size [.int .i64 un, .int .i64 rm, .slice ca X.length cc] 24 rfl
 obtain ⟨w1, hw1⟩ : ∃ w1, w.alloc (.cells #[.int .i64 un, .int .i64 rm, .slice ca X.length cc] 24) = w1 := ⟨_, rfl⟩
 have hs2 : Sep w NoF [.box w.heap.size [.int .i64 un, .int .i64 rm, .slice ca X.length cc] 24] w1 := by rw [← hw1]; exact hs1
 have H1 := Lib.hid' hs2
 have HA := Zh (alive13_any w1 (hp.below hs2.toBelow))
 clear hs1 hs2 hp hX hS
 go_enter Tryz.func3, Tryz.ntmps3
 go_upto_region 1 with fail
 try rw [hw1]
 clear hw1
 go_wp2_with fail
 refine HA.out.mono ?_
 clear HA
 rintro en w2 ⟨rfl, hb2⟩
 have H2 := Zh (H1.out.below hb2)
 clear hb2 H1
 have HL := Zh (long13_any S 60 (by decide) sa sc w2 (HS.out.below H2.out.toBelow))
 go_wp2_with fail
 refine HL.out.mono ?_
 clear HL
 rintro en w3 ⟨rfl, hb3⟩
 have H3 := Zh (H2.out.below hb3)
 clear hb3 H2
 have q0 := H3.out.cell 0 rfl 0 rfl; have q1 := H3.out.cell 0 rfl 1 rfl; have q2 := H3.out.cell 0 rfl 2 rfl; have ql := H3.out.lt 0 rfl
 cases hl3 : long13 S 60 with
 | true =>
  clear q0 q1 q2 ql
  go_wp2_with fail
  go_ret
  exact ⟨rfl, H3.out.toBelow⟩
 | false =>
 have HLS := Zh (long13_no hl3)
 clear hl3
 go_wp2_with fail
 refine (sproj_any un rm ca X.length cc w3).mono ?_
 rintro en w4 ⟨rfl, hb4⟩
 have H4 := Zh (H3.out.below hb4)
 clear hb4 H3 q0 q1 q2 ql
 have HL := Zh (long11_any 0 ca cc X w4 (HX.out.below (Nat.le_refl _) H4.out.toBelow))
 rw [show pjV 0 ca cc X = .agg #[.int .i64 0, .slice ca X.length cc] from rfl] at HL
 go_wp2_with fail
 refine HL.out.mono ?_
 clear HL
 rintro en w5 ⟨rfl, hb5⟩
 have H5 := Zh (H4.out.below hb5)
 clear hb5 H4
 have q0 := H5.out.cell 0 rfl 0 rfl; have q1 := H5.out.cell 0 rfl 1 rfl; have q2 := H5.out.cell 0 rfl 2 rfl; have ql := H5.out.lt 0 rfl
 cases hl1 : long11 X with
 | true =>
  clear q0 q1 q2 ql
  go_wp2_with fail
  go_ret
  exact ⟨rfl, H5.out.toBelow⟩
 | false =>
 have hfl := (long11_flat hl1).1
 have HNW := Zh (New_any un rm ca cc X w5 HP.out H5.out (HX.out.below (Nat.le_refl _) H5.out.toBelow) (by omega))
 have HRI := Zh (fun h => newCl_ris (units := un) (room := rm) (X := X.map (·.1)) h)
 clear hl1 hfl
 generalize newCl un rm (X.map (·.1)) = r at *
 obtain ⟨zn, M0⟩ := r
 go_wp2_with fail
 refine HNW.out.mono ?_
 clear HNW q0 q1 q2 ql
 rintro en w6 (⟨h0, rfl, h6⟩ | ⟨h0, c, J, rfl, h6⟩)
 ·have HB := Lib.hid' h6.toBelow
  simp only at h0
  rw [errV_pos h0]
  clear h6 h0 HRI H5
  go_wp2_with fail
  go_ret
  exact ⟨rfl, HB.out⟩
 have HR0 := Zh (HRI.out h0)
 have H6 := Lib.hid' h6
 simp only at HR0 H6
 clear h0 h6 HRI H5
 go_wp2_with fail
 go_loopw [7, 41] (fun v7 v41 wr => ∃ (k : Nat) (last : Int) (M : Cl), v7 = .int .i64 last ∧ v41 = .int .i64 k ∧ k ≤ S.length ∧ Hid (ClAt c M J [.box w.heap.size [.int .i64 un, .int .i64 rm, .slice ca X.length cc] 24] w wr) ∧ Hid (Ris M last)) (fun _ v41 _ => S.length - (intOf v41).toNat)
 case atStart => exact ⟨0, -1, M0, rfl, rfl, Nat.zero_le _, H6, HR0⟩
 case round =>
  clear H6 HR0
  obtain ⟨k, last, M, rfl, rfl, hk, HC, HR⟩ := hrel
  by_cases hlt : k < S.length
  rotate_left
  ·go_wp2_with fail
   go_ret
   exact ⟨rfl, HC.out.toBelow⟩
  obtain ⟨hsl, hby⟩ := HS.out.below HC.out.toBelow
  obtain ⟨b, off, rfl, hb, hc⟩ := SlV.row (s := 7) (fun _ => rfl) (by decide) hsl hlt
  have c0 := hc 0 _ rfl; have c1 := hc 1 _ rfl; have c2 := hc 2 _ rfl; have c3 := hc 3 _ rfl; have c4 := hc 4 _ rfl; have c5 := hc 5 _ rfl; have c6 := hc 6 _ rfl
  simp only [Nat.add_zero] at c0
  have HAT := Zh (HS.out.each _ (List.getElem_mem hlt))
  clear hc hsl hby
  generalize S[k] = x at *
  obtain ⟨xk, xu, xa, xc, da, dc, ks, ka, kc, sp, pa, pc⟩ := x
  simp only at c0 c1 c2 c3 c4 c5 c6
  go_upto_region 12 with fail
  have HB0 := Zh (HC.out.allocB wr.heap.size [.int .i64 xk, .int .i64 xu, .int .i64 xa, .int .i64 xc.k, .slice da xc.d.length dc, .slice ka ks.length kc, .slice pa sp.length pc] 43 rfl)
  have e0 : wr.alloc (.cells [Value.int .i64 xk, .int .i64 xu, .int .i64 xa, .int .i64 xc.k, .slice da xc.d.length dc, .slice ka ks.length kc, .slice pa sp.length pc].toArray 43) = wr.alloc (.cells #[.int .i64 xk, .int .i64 xu, .int .i64 xa, .int .i64 xc.k, .slice da xc.d.length dc, .slice ka ks.length kc, .slice pa sp.length pc] 43) := rfl
  rw [e0] at HB0
  clear e0 c0 c1 c2 c3 c4 c5 c6 hb HC
  generalize wr.alloc (.cells #[.int .i64 xk, .int .i64 xu, .int .i64 xa, .int .i64 xc.k, .slice da xc.d.length dc, .slice ka ks.length kc, .slice pa sp.length pc] 43) = wb at *
  generalize wr.heap.size = N at *
  have HB := Zh (show ClAt c M J [.box N [.int .i64 xk, .int .i64 xu, .int .i64 xa, .int .i64 xc.k, .slice da xc.d.length dc, .slice ka ks.length kc, .slice pa sp.length pc] 43, .box w.heap.size [.int .i64 un, .int .i64 rm, .slice ca X.length cc] 24] w wb from HB0.out)
  have b0 := HB0.out.side.cell 0 rfl 0 rfl; have b1 := HB0.out.side.cell 0 rfl 1 rfl; have b2 := HB0.out.side.cell 0 rfl 2 rfl; have b3 := HB0.out.side.cell 0 rfl 3 rfl; have b4 := HB0.out.side.cell 0 rfl 4 rfl; have b5 := HB0.out.side.cell 0 rfl 5 rfl; have b6 := HB0.out.side.cell 0 rfl 6 rfl; have bl := HB0.out.side.lt 0 rfl
  clear HB0
  go_upto_block 2 with fail
  have HKN := kind16' xk
  generalize (IntKind.u64.wrap xk).tmod 16 = kn at *
  go_cut [7] (fun v7 wc => ∃ (last' : Int) (M' : Cl), v7 = .int .i64 last' ∧ Hid (ClAt c M' J [.box N [.int .i64 xk, .int .i64 xu, .int .i64 xa, .int .i64 xc.k, .slice da xc.d.length dc, .slice ka ks.length kc, .slice pa sp.length pc] 43, .box w.heap.size [.int .i64 un, .int .i64 rm, .slice ca X.length cc] 24] w wc) ∧ Hid (Ris M' last'))
  case first =>
   rcases (show kn = 0 ∨ kn = 1 ∨ kn = 2 ∨ kn = 3 ∨ kn = 4 ∨ kn = 5 ∨ kn = 6 ∨ kn = 7 ∨ kn = 8 ∨ kn = 9 ∨ kn = 10 ∨ kn = 11 ∨ kn = 12 ∨ kn = 13 ∨ kn = 14 ∨ kn = 15 by omega) with h0 | h1 | h2 | h3 | h4 | h5 | h6 | h7 | h8 | h9 | h10 | h11 | h12 | h13 | h14 | h15
   all_goals clear HKN
   ·subst h0
    have htl := HR.out.tail
    have HT := Zh (ctail_any wb HB.out)
    rw [htl] at HT
    have hup := append_up HR.out.ok xc.d
    have HAP := Zh (fun wq hq => append_any (c := c) (M := M) (J := J) (L := [.box N [.int .i64 xk, .int .i64 xu, .int .i64 xa, .int .i64 xc.k, .slice da xc.d.length dc, .slice ka ks.length kc, .slice pa sp.length pc] 43, .box w.heap.size [.int .i64 un, .int .i64 rm, .slice ca X.length cc] 24]) (W := w) xc.d da dc wq HP.out hq HR.out.ok (fun M' w' h' => SlV.below HAT.out.d (Nat.le_refl _) h'.toBelow))
    have HUP := Lib.hid' hup
    clear htl hup
    generalize M.append xc.d = ap at *
    obtain ⟨za, na, Ma⟩ := ap
    simp only at HAP HUP
    go_wp2_with fail
    refine HT.out.mono ?_
    clear HT
    rintro en wa ⟨rfl, ha⟩
    have HA := Lib.hid' ha
    clear ha b0 b1 b2 b3 b4 b5 b6 bl
    have b4 := HA.out.side.cell 0 rfl 4 rfl; have bl := HA.out.side.lt 0 rfl
    rw [errV_0]
    go_wp2_with fail
    refine (HAP.out _ HA.out).mono ?_
    clear HAP
    rintro en wc ⟨rfl, hc⟩
    have HC := Lib.hid' hc
    clear hc b4 bl
    by_cases hz : za = 0
    ·subst hz
     have hna := HUP.out.2 rfl
     have hlo := HR.out.hi
     have hl0 := HR.out.lo
     have hg1 : ¬ na ≤ last := by omega
     have hg2 : ¬ na < M.q.n := by omega
     have HRN := Zh (show Ris Ma na from ⟨HUP.out.1.ok, by rw [HUP.out.1.qe, HUP.out.1.p]; exact HR.out.e, by omega, hna.2⟩)
     rw [errV_0]
     clear hna hlo hl0
     go_wp2_with fail
     go_meet
     exact ⟨na, Ma, rfl, HC, HRN⟩
    ·have HRN := Zh (HR.out.up HUP.out.1)
     rw [errV_pos hz]
     clear hz
     go_wp2_with fail
     go_meet
     exact ⟨last, Ma, rfl, HC, HRN⟩
   ·subst h1
    have htl := HR.out.tail
    have HT := Zh (ctail_any wb HB.out)
    rw [htl] at HT
    have hup := append_up HR.out.ok xc.d
    have HAP := Zh (fun wq hq => append_any (c := c) (M := M) (J := J) (L := [.box N [.int .i64 xk, .int .i64 xu, .int .i64 xa, .int .i64 xc.k, .slice da xc.d.length dc, .slice ka ks.length kc, .slice pa sp.length pc] 43, .box w.heap.size [.int .i64 un, .int .i64 rm, .slice ca X.length cc] 24]) (W := w) xc.d da dc wq HP.out hq HR.out.ok (fun M' w' h' => SlV.below HAT.out.d (Nat.le_refl _) h'.toBelow))
    have HUP := Lib.hid' hup
    clear htl hup
    generalize M.append xc.d = ap at *
    obtain ⟨za, na, Ma⟩ := ap
    simp only at HAP HUP
    go_wp2_with fail
    refine HT.out.mono ?_
    clear HT
    rintro en wa ⟨rfl, ha⟩
    have HA := Lib.hid' ha
    clear ha b0 b1 b2 b3 b4 b5 b6 bl
    have b4 := HA.out.side.cell 0 rfl 4 rfl; have bl := HA.out.side.lt 0 rfl
    rw [errV_0]
    go_wp2_with fail
    refine (HAP.out _ HA.out).mono ?_
    clear HAP
    rintro en wc ⟨rfl, hc⟩
    have HC := Lib.hid' hc
    clear hc b4 bl
    by_cases hz : za = 0
    ·subst hz
     have hna := HUP.out.2 rfl
     have hlo := HR.out.hi
     have hl0 := HR.out.lo
     have hg1 : ¬ na ≤ last := by omega
     have hg2 : ¬ na < M.q.n := by omega
     have HRN := Zh (show Ris Ma na from ⟨HUP.out.1.ok, by rw [HUP.out.1.qe, HUP.out.1.p]; exact HR.out.e, by omega, hna.2⟩)
     rw [errV_0]
     clear hna hlo hl0
     go_wp2_with fail
     go_meet
     exact ⟨na, Ma, rfl, HC, HRN⟩
    ·have HRN := Zh (HR.out.up HUP.out.1)
     rw [errV_pos hz]
     clear hz
     go_wp2_with fail
     go_meet
     exact ⟨last, Ma, rfl, HC, HRN⟩
   ·subst h2
    go_wp2_with fail
    go_meet
    exact ⟨last, M, rfl, HB, HR⟩
   ·subst h3
    go_wp2_with fail
    refine (Fill_any xa wb HP.out HB.out HR.out.ok).mono ?_
    rintro en wa ⟨rfl, ha⟩
    have HA := Lib.hid' ha
    clear ha
    go_wp2_with fail
    go_meet
    exact ⟨last, _, rfl, HA, Zh (HR.out.up (fill_up HR.out.ok _))⟩
   ·subst h4
    go_wp2_with fail
    refine (Put_any xa xc da dc wb HP.out HB.out HR.out.ok (fun M' w' h' => SlV.below HAT.out.d (Nat.le_refl _) h'.toBelow)).mono ?_
    rintro en wa ⟨rfl, ha⟩
    have HA := Lib.hid' ha
    clear ha
    go_wp2_with fail
    go_meet
    exact ⟨last, _, rfl, HA, Zh (HR.out.up (putAt_up HR.out.ok _ _))⟩
   ·subst h5
    go_wp2_with fail
    refine (Put_any xa xc da dc wb HP.out HB.out HR.out.ok (fun M' w' h' => SlV.below HAT.out.d (Nat.le_refl _) h'.toBelow)).mono ?_
    rintro en wa ⟨rfl, ha⟩
    have HA := Lib.hid' ha
    clear ha
    go_wp2_with fail
    go_meet
    exact ⟨last, _, rfl, HA, Zh (HR.out.up (putAt_up HR.out.ok _ _))⟩
   ·subst h6
    go_wp2_with fail
    refine (Trim_any xa wb HP.out HB.out HR.out.ok).mono ?_
    rintro en wa ⟨rfl, ha⟩
    have HA := Lib.hid' ha
    clear ha
    go_wp2_with fail
    go_meet
    exact ⟨last, _, rfl, HA, Zh (HR.out.up (trim_up HR.out.ok _))⟩
   ·subst h7
    go_wp2_with fail
    go_meet
    exact ⟨last, M, rfl, HB, HR⟩
   ·subst h8
    go_wp2_with fail
    go_meet
    exact ⟨last, M, rfl, HB, HR⟩
   ·subst h9
    go_wp2_with fail
    go_meet
    exact ⟨last, M, rfl, HB, HR⟩
   ·subst h10
    go_wp2_with fail
    refine (Kill_any xu ks ka kc wb HB.out HR.out.ok HAT.out.ks).mono ?_
    rintro en wa ⟨rfl, ha⟩
    have HA := Lib.hid' ha
    clear ha
    go_wp2_with fail
    go_meet
    exact ⟨last, _, rfl, HA, Zh (HR.out.up (kill_up HR.out.ok _ _))⟩
   ·subst h11
    go_wp2_with fail
    refine (Start_any xu wb HP.out HB.out HR.out.ok).mono ?_
    rintro en wa ⟨rfl, ha⟩
    have HA := Lib.hid' ha
    clear ha
    go_wp2_with fail
    go_meet
    exact ⟨last, _, rfl, HA, Zh (HR.out.up (start_up HR.out.ok _))⟩
   ·subst h12
    go_wp2_with fail
    refine (Start_any xu wb HP.out HB.out HR.out.ok).mono ?_
    rintro en wa ⟨rfl, ha⟩
    have HA := Lib.hid' ha
    clear ha
    go_wp2_with fail
    go_meet
    exact ⟨last, _, rfl, HA, Zh (HR.out.up (start_up HR.out.ok _))⟩
   ·subst h13
    go_wp2_with fail
    refine (Fuse_any xu xa wb HB.out HR.out.ok).mono ?_
    rintro en wa ⟨rfl, ha⟩
    have HA := Lib.hid' ha
    clear ha
    go_wp2_with fail
    go_meet
    exact ⟨last, _, rfl, HA, Zh (HR.out.up (fuse_up HR.out.ok _ _ HAT.out.a.2))⟩
   ·subst h14
    go_wp2_with fail
    go_meet
    exact ⟨last, M, rfl, HB, HR⟩
   ·subst h15
    go_wp2_with fail
    go_meet
    exact ⟨last, M, rfl, HB, HR⟩
  case rest =>
  obtain ⟨last', M', rfl, HB', HR'⟩ := hcut
  have htl := HR'.out.tail
  have HT := Zh (ctail_any wc HB'.out)
  rw [htl] at HT
  have hhi : ¬ M'.q.n ≤ last' := by have := HR'.out.hi; omega
  clear b0 b1 b2 b3 b4 b5 b6 bl HKN htl HB HR HAT
  go_wp2_with fail
  refine HT.out.mono ?_
  rintro en wd ⟨rfl, hd⟩
  have HD := Zh (ClAt.less (K := [_]) hd)
  clear hd HT HB'
  rw [errV_0]
  go_wp2_with fail
  go_roundw
  case rel => exact ⟨k + 1, last', M', rfl, by go_num, by omega, HD, HR'⟩
  case measure => simp [intOf]; omega
end SL
end Go.Proofs.YtdknbacbcnfonaaGreatDoor
