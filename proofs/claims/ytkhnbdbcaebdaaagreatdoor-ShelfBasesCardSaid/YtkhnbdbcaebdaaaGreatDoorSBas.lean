/- The statement ShelfBases: its walk. -/
import Derived.Test.YtkhnbdbcaebdaaaGreatDoorQ25
namespace Go.Proofs.YtkhnbdbcaebdaaaGreatDoor
open Go.RowKit
set_option linter.unusedSimpArgs false
set_option linter.unusedVariables false
set_option maxRecDepth 100000
namespace SH
open DK
set_option maxHeartbeats 16000000 in
theorem shelfBases_any (X Y : List AcS) (a b : Option Addr) (c d : Nat) (W : World) (hp : Pow W) (hX : ActsAt W (.slice a X.length c) X) (hY : ActsAt W (.slice b Y.length d) Y) :
    Calls Tryz.prog 3 #[.slice a X.length c, .slice b Y.length d] W fun en w' => en = .returned (.bool true) ∧ Below W.heap.size W w' := by
  have HP := Lib.hid' hp
  have HX := Lib.hid' hX
  have HY := Lib.hid' hY
  have hlX : X.length ≤ 9223372036854775807 := by obtain ⟨_, _, he, h1, h2, _⟩ := hX.1; cases he; unfold maxLen at h2; omega
  have hlY : Y.length ≤ 9223372036854775807 := by obtain ⟨_, _, he, h1, h2, _⟩ := hY.1; cases he; unfold maxLen at h2; omega
  clear hp hX hY
  go_enter Tryz.func3, Tryz.ntmps3
  go_wp2_with fail
  refine (alive10_any _ HP.out).mono ?_
  rintro en w1 ⟨rfl, hb1⟩
  have HB1 := Lib.hid' hb1
  clear hb1
  by_cases hx : 30 < X.length
  · have hxd : (30 : Int) < (X.length : Int) := by omega
    go_wp2
    go_ret
    exact ⟨rfl, HB1.out⟩
  have hxd : ¬ (30 : Int) < (X.length : Int) := by omega
  by_cases hy : 30 < Y.length
  · have hyd : (30 : Int) < (Y.length : Int) := by omega
    go_wp2
    go_ret
    exact ⟨rfl, HB1.out⟩
  have hyd : ¬ (30 : Int) < (Y.length : Int) := by omega
  go_wp2_with fail
  refine (dnew_any 16777216 w1 (by decide)).mono ?_
  rintro e w2 ⟨N, G1, rfl, h1⟩
  have H1 := Lib.hid' h1
  clear h1
  go_wp2_with fail
  have hp1 : Pow w1 := HP.out.below HB1.out
  refine (shopen_any (m := 0) w2 (H1.out.at 0 rfl) (hp1.below H1.out.toBelow) (Ok.new (by decide)) (by decide) (by decide) (pow_kept hp1 H1.out rfl)).mono ?_
  rintro e w3 hE
  have hE2 : ∃ q us, e = .returned (.tuple #[ptrV q, .nilIface]) ∧ ShAt q N ⟨U.new, 0, false⟩ (newD 16777216) us [] G1 w2 w3 := by
    rcases hE with ⟨h0, _⟩ | ⟨_, q, us, he, hs⟩
    · rw [openS_new] at h0; exact absurd rfl h0
    · rw [openS_new] at hs; exact ⟨q, us, he, hs⟩
  clear hE hp1
  obtain ⟨q, us, rfl, hs⟩ := hE2
  obtain ⟨G2, G3, Z, h2⟩ := hs
  have H2 := Lib.hid' (show B1 W q N 0 w3 from ⟨_, _, us, BasAt.new, G2, G3, Z, (Sep.nof HB1.out).call0 (H1.out.call1 rfl h2)⟩)
  clear h2 H1 HB1
  go_wp2_with fail
  go_loopw [48] (fun v48 wr => ∃ k : Nat, v48 = .int .i64 k ∧ k ≤ X.length ∧ Hid (B1 W q N k wr)) (fun v48 _ => X.length - (intOf v48).toNat)
  case atStart => exact ⟨0, rfl, Nat.zero_le _, H2⟩
  case round =>
    clear H2
    obtain ⟨k, rfl, hk, H2⟩ := hrel
    by_cases hlt : k < X.length
    · obtain ⟨S, D, us, hbas, hsh⟩ := H2.out
      have HBS := Lib.hid' hbas
      have HSH := Lib.hid' hsh
      clear hbas hsh H2
      obtain ⟨hsl, hby⟩ := HX.out.below (Nat.le_refl _) HSH.out.toBelow
      obtain ⟨bq, off, rfl, hb, hc⟩ := SlV.row (s := 4) (fun _ => rfl) (by decide) hsl hlt
      have c0 := hc 0 _ rfl; have c1 := hc 1 _ rfl; have c2 := hc 2 _ rfl; have c3 := hc 3 _ rfl
      simp only [Nat.add_zero] at c0
      have HD := Lib.hid' (hby _ (List.getElem_mem hlt))
      clear hsl hby hc
      generalize X[k] = y at *
      obtain ⟨x, da, dc⟩ := y
      simp only at c0 c1 c2 c3 HD
      have hdl := bytes_len HD.out
      by_cases hd : 100 < x.d.length
      · have hdd : (100 : Int) < (x.d.length : Int) := by omega
        go_wp2_with fail
        go_ret
        exact ⟨rfl, HSH.out.toBelow.trans ((show Below wr.heap.size wr _ by go_grown).mono HSH.out.toBelow.size)⟩
      have hdd : ¬ (100 : Int) < (x.d.length : Int) := by omega
      have hd2 : x.d.length ≤ 100 := by omega
      clear hd
      go_wp2_with fail
      refine (bdo_any x da dc _ HP.out (HSH.out.below (by go_grown)) HBS.out (by omega) (SlV.below HD.out (Nat.le_refl _) (by go_grown))).mono ?_
      rintro e w4 ⟨rfl, S', D', us', _, hb', hs'⟩
      have HB' := Lib.hid' hb'
      have HS' := Lib.hid' hs'
      clear hb' hs' HBS HSH HD c0 c1 c2 c3
      go_wp2_with fail
      go_roundw
      case rel => exact ⟨k + 1, by go_num, by omega, Lib.hid' ⟨S', D', us', HB'.out, HS'.out⟩⟩
      case measure => simp [intOf]; omega
    · obtain rfl : k = X.length := by omega
      obtain ⟨S, D, us, hbas, hsh⟩ := H2.out
      have HBS := Lib.hid' hbas
      have HSH := Lib.hid' hsh
      clear hbas hsh H2
      go_wp2_with fail
      refine (bunit_any _ HSH.out).mono ?_
      rintro e w4 ⟨bu, bm, us4, rfl, hs4⟩
      have HS4 := Lib.hid' hs4
      clear hs4 HSH
      go_wp2_with fail
      refine (bnext_any _ HS4.out).mono ?_
      rintro e wz ⟨rfl, rfl⟩
      go_wp2_with fail
      refine (bcomp_any _ HP.out HS4.out HBS.out (by omega)).mono ?_
      rintro e w5 ⟨rfl, D5, hb5, hn5, hs5⟩
      have HB5 := Lib.hid' hb5
      have HN5 := Lib.hid' hn5
      have HS5 := Lib.hid' hs5
      clear hb5 hn5 hs5 HS4 HBS
      obtain ⟨G5, G5', Z5, h5⟩ := HS5.out
      have H5 := Lib.hid' h5
      clear h5 HS5
      obtain ⟨ho5, hpe5⟩ := HB5.out.ok
      have HO5 := Lib.hid' ho5
      have HPE5 := Lib.hid' hpe5
      clear ho5 hpe5
      go_wp2_with fail
      refine (dlist_any (m := X.length + 1) w5 (H5.out.at 0 rfl) HO5.out (by omega)).mono ?_
      rintro e w6 hE
      unfold NamesR at hE
      rw [show listDk D5 = (0, [nameN 98 S.n]) by
        obtain ⟨u, n, L, rfl, rfl, _⟩ := HB5.out
        unfold listDk; rw [if_neg (by simp), HN5.out]] at hE
      obtain ⟨al, cl, rfl, hol, hb6⟩ := hE
      have H6 := Lib.hid' (show Sep W NoF [Asn.disk N D5 G5, Asn.shelf q N S us4 G5', Asn.pool Z5 us4, .unit bu bm S.u us4, .row 9 1 (.slice al 1 cl) 1 (strVs [nameN 98 S.n])] w6 from (H5.out.belowRow hb6 hol).pick [1, 2, 3, 4, 0] (by decide) rfl)
      clear hb6 hol H5
      simp only [errV_0]
      go_wp2_with fail
      obtain ⟨S7, op7, on7, ou7, ob7⟩ := HB5.out.open (by omega)
      have OP7 := Lib.hid' op7
      have OU7 := Lib.hid' ou7
      have OB7 := Lib.hid' ob7
      have ON7 := Lib.hid' on7
      clear op7 ou7 ob7 on7
      refine (cut_any6 (m := X.length + 1) [] none 0 w6 (H6.out.at 0 rfl) HO5.out (by rw [HPE5.out]; exact Nat.zero_le _) (SlV.empty _ _ _ (Nat.zero_le _) (fun _ => rfl)) (fun k _ _ h => by cases h)).mono ?_
      rintro e w7 ⟨rfl, G7, k7⟩
      have H7 := Lib.hid' (H6.out.call1 rfl k7)
      clear k7
      go_wp2_with fail
      refine (start_any (m := X.length + 1) w7 (H7.out.at 0 rfl) (HO5.out.cut []) (Nat.zero_le _)).mono ?_
      rintro e w8 ⟨rfl, G8, k8⟩
      have H8 := Lib.hid' (H7.out.call1 rfl k8)
      clear k8
      have ho8 := (HO5.out.cut []).start
      have hp8 : (upD (cutD D5 [])).pend = [] := rfl
      generalize upD (cutD D5 []) = D8 at *
      go_wp2_with fail
      refine (shopen_any (m := X.length + 1) w8 (H8.out.at 0 rfl) (HP.out.below H8.out.toBelow) ho8 (by omega) (by rw [hp8]; exact Nat.zero_le _) (pow_kept HP.out H8.out rfl)).mono ?_
      rintro e w9 hE
      have hE9 : ∃ q us, e = .returned (.tuple #[ptrV q, .nilIface]) ∧ ShAt q N S7 D5 us [] G8 w8 w9 := by
        rcases hE with ⟨h0, _⟩ | ⟨_, q, us, he, hs⟩
        · rw [OP7.out] at h0; exact absurd rfl h0
        · rw [OP7.out] at hs; exact ⟨q, us, he, hs⟩
      clear hE
      obtain ⟨q9, us9, rfl, hs⟩ := hE9
      obtain ⟨G9, G9', Z9, h9⟩ := hs
      have H9 := Lib.hid' (show Sep W NoF [Asn.disk N D5 G9, Asn.shelf q9 N S7 us9 G9', Asn.pool Z9 us9, Asn.shelf q N S us4 G5', Asn.pool Z5 us4, .unit bu bm S.u us4, .row 9 1 (.slice al 1 cl) 1 (strVs [nameN 98 S.n])] w9 from H8.out.call1 rfl h9)
      have hA9 : ShAt q9 N S7 D5 us9 [.unit bu bm S.u us4, Asn.pool Z5 us4, .row 9 1 (.slice al 1 cl) 1 (strVs [nameN 98 S.n])] NoF W w9 := ⟨G9, G9', Z9, H9.out.pick [0, 1, 2, 5, 4, 6] (by decide) rfl⟩
      have HA9 := Lib.hid' hA9
      clear h9 hA9 H9 H8 H7 H6
      obtain ⟨_, _, _, HR9⟩ := HA9.out
      obtain ⟨bl, ol, cl', hel, hbl, d0⟩ := str_at (HR9.row 5 rfl) rfl (k := 0) Nat.zero_lt_one
      cases hel
      rw [show [nameN 98 S.n][0] = nameN 98 S.n from rfl] at d0
      simp only [Nat.add_zero] at d0
      clear HR9
      go_upto_region 23 with fail
      have hix := idx98 S.n
      go_wp2_with fail
      refine (bunit_any _ HA9.out).mono ?_
      rintro e w10 ⟨bu2, bm2, us10, rfl, h10⟩
      obtain ⟨GA, GB, ZC, H10⟩ := h10
      have hu7 : S7.u.ok := by
        obtain ⟨u, n, L, rfl, _, _, _, h, _⟩ := OB7.out
        exact h
      have hl7 : S7.u.cells.length ≤ 4194304 := by
        obtain ⟨u, n, L, rfl, _, _, _, _, h, _⟩ := OB7.out
        show u.cells.length ≤ _
        omega
      have hl6 : S.u.cells.length ≤ 4194304 := by
        have := OU7.out.cells.length_eq
        omega
      have HS10 := Lib.hid' H10
      have HSM := Lib.hid' (usame_any w10 (Sep.unitAt (show Sep W NoF [.unit bu2 bm2 S7.u us10, Asn.pool ZC us10] w10 from H10.pick [3, 2] (by decide) rfl)) (Sep.unitAt (show Sep W NoF [.unit bu bm S.u us4, Asn.pool Z5 us4] w10 from H10.pick [4, 5] (by decide) rfl)) hl7 hl6)
      rw [same_ueq OU7.out hu7] at HSM
      clear H10 hu7 hl7 hl6 HA9
      go_wp2_with fail
      refine HSM.out.mono ?_
      rintro e w11 ⟨rfl, hb11⟩
      have HS11 := Lib.hid' (HS10.out.below hb11)
      clear hb11 HSM HS10
      have HA11 := Lib.hid' (show ShAt q9 N S7 D5 us10 [.unit bu2 bm2 S7.u us10, .unit bu bm S.u us4, Asn.pool Z5 us4, .row 9 1 (.slice (some ⟨bl, ol, none⟩) 1 cl) 1 (strVs [nameN 98 S.n])] NoF W w11 from ⟨GA, GB, ZC, HS11.out⟩)
      go_wp2_with fail
      refine (bnext_any _ HA11.out).mono ?_
      rintro e wz ⟨rfl, rfl⟩
      rw [ON7.out]
      have HCP := Lib.hid' (ucopy_any w11 (Sep.unitAt (show Sep W NoF [.unit bu bm S.u us4, Asn.pool Z5 us4] w11 from HS11.out.pick [4, 5] (by decide) rfl)))
      clear HA11 d0 hix hbl
      go_wp2_with fail
      refine HCP.out.mono ?_
      rintro e w12 ⟨rfl, hb12, hz12, hu12⟩
      have hU12 := hu12 (fun k => Off w11 Z5 k ∨ k = w11.heap.size + 1 ∨ k = w11.heap.size) (fun k hk => by rcases hk with hk | hk | hk; exact .inl hk; exact .inr (by omega); exact .inr (by omega)) (.inr (.inr rfl)) (.inr (.inl rfl))
      obtain ⟨Z12, us12, _, H12⟩ := Sep.unitNew (show Sep W NoF [Asn.pool Z5 us4, Asn.disk N D5 GA, Asn.shelf q9 N S7 us10 GB, Asn.pool ZC us10] w11 from HS11.out.pick [5, 0, 1, 2] (by decide) rfl) hb12 (by omega) (by omega) hU12
      obtain ⟨b2, hb2e⟩ : ∃ b, w11.heap.size + 1 = b := ⟨_, rfl⟩
      obtain ⟨m2, hm2e⟩ : ∃ b, w11.heap.size = b := ⟨_, rfl⟩
      rw [hb2e, hm2e] at H12
      rw [hb2e]
      have HB2 := Lib.hid' (show B2 W q9 N b2 m2 (X.length + 1) 0 w12 from ⟨S7, D5, us10, S.u, us12, Z12, OB7.out, OU7.out, GA, GB, ZC, H12.pick [2, 3, 4, 0, 1] (by decide) rfl⟩)
      clear HCP hb12 hz12 hu12 hU12 H12 hb2e hm2e HS11 OB7 OU7 ON7 OP7 ho8 hp8 HO5 HPE5 HB5 HN5
      go_wp2_with fail
      go_loopw [119] (fun v119 wr => ∃ k : Nat, v119 = .int .i64 k ∧ k ≤ Y.length ∧ Hid (B2 W q9 N b2 m2 (X.length + 1) k wr)) (fun v119 _ => Y.length - (intOf v119).toNat)
      case atStart => exact ⟨0, rfl, Nat.zero_le _, HB2⟩
      case round =>
        clear HB2
        obtain ⟨k, rfl, hk, HB2⟩ := hrel
        obtain ⟨S, D, us, u2, us2, Z2, hbas, hue, hsh⟩ := HB2.out
        have HBS := Lib.hid' hbas
        have HUE := Lib.hid' hue
        have HSH := Lib.hid' hsh
        have hu2 : S.u.ok ∧ S.u.cells.length ≤ 100 := by
          obtain ⟨u, n, L, rfl, _, _, _, h, h2, _⟩ := hbas
          exact ⟨h, Nat.le_trans h2 (by omega)⟩
        have HOK := Lib.hid' hu2
        clear hbas hue hsh HB2 hu2
        by_cases hlt : k < Y.length
        · obtain ⟨hsl, hby⟩ := HY.out.below (Nat.le_refl _) HSH.out.toBelow
          obtain ⟨bq, off, rfl, hb, hc⟩ := SlV.row (s := 4) (fun _ => rfl) (by decide) hsl hlt
          have c0 := hc 0 _ rfl; have c1 := hc 1 _ rfl; have c2 := hc 2 _ rfl; have c3 := hc 3 _ rfl
          simp only [Nat.add_zero] at c0
          have HD := Lib.hid' (hby _ (List.getElem_mem hlt))
          have HDW := Lib.hid' (HY.out.2 _ (List.getElem_mem hlt))
          clear hsl hby hc
          generalize Y[k] = y at *
          obtain ⟨x, da, dc⟩ := y
          simp only at c0 c1 c2 c3 HD HDW
          have hdl := bytes_len HD.out
          by_cases hd : 100 < x.d.length
          · have hdd : (100 : Int) < (x.d.length : Int) := by omega
            go_wp2_with fail
            go_ret
            exact ⟨rfl, HSH.out.toBelow.trans ((show Below wr.heap.size wr _ by go_grown).mono HSH.out.toBelow.size)⟩
          have hdd : ¬ (100 : Int) < (x.d.length : Int) := by omega
          have hd2 : x.d.length ≤ 100 := by omega
          clear hd
          go_wp2_with fail
          obtain ⟨ga, gb, zc, h0⟩ := HSH.out
          have hba := ((Below.refl wr.heap.size wr).alloc (Nat.le_refl _) (.cells #[.int .i64 x.k, .int .i64 x.e, .int .i64 x.a, .slice da x.d.length dc] 34))
          have HDa := Lib.hid' (fun (wq : World) (hb : Below wr.heap.size wr wq) => show Bytes wq (.slice da x.d.length dc) x.d from SlV.below HD.out (Nat.le_refl _) hb)
          have HSa := Lib.hid' (show ShAt q9 N S D us [.unit b2 m2 u2 us2, Asn.pool Z2 us2, .box wr.heap.size [.int .i64 x.k, .int .i64 x.e, .int .i64 x.a, .slice da x.d.length dc] 34] NoF W (wr.alloc (.cells #[.int .i64 x.k, .int .i64 x.e, .int .i64 x.a, .slice da x.d.length dc] 34)) from
            ⟨ga, gb, zc, (h0.allocAt wr.heap.size [.int .i64 x.k, .int .i64 x.e, .int .i64 x.a, .slice da x.d.length dc] 34 rfl).pick [1, 2, 3, 4, 5, 0] (by decide) rfl⟩)
          have hd4 := HDa.out _ hba
          clear h0 c0 c1 c2 c3
          refine (bdo_any x da dc _ HP.out HSa.out HBS.out (by omega) hd4).mono ?_
          rintro e w4 ⟨rfl, S', D', us', hsu, hb', hs'⟩
          obtain ⟨ga4, gb4, zc4, h4⟩ := hs'
          have H4 := Lib.hid' (show Sep W NoF [Asn.disk N D' ga4, Asn.shelf q9 N S' us' gb4, Asn.pool zc4 us', .unit b2 m2 u2 us2, Asn.pool Z2 us2, .box wr.heap.size [.int .i64 x.k, .int .i64 x.e, .int .i64 x.a, .slice da x.d.length dc] 34] w4 from h4)
          have HB' := Lib.hid' hb'
          have x0 := H4.out.cell 5 rfl 0 rfl
          have x1 := H4.out.cell 5 rfl 1 rfl
          have x2 := H4.out.cell 5 rfl 2 rfl
          have x3 := H4.out.cell 5 rfl 3 rfl
          have lb := H4.out.lt 5 rfl
          have hl2 : u2.cells.length ≤ 1048576 := by
            have := HUE.out.cells.length_eq
            have := HOK.out.2
            omega
          have hap := rapply_any x da dc w4 (Sep.unitAt (show Sep W NoF [.unit b2 m2 u2 us2, Asn.pool Z2 us2] w4 from H4.out.pick [3, 4] (by decide) rfl)) (fun k hk => hk.1) hl2 (show Bytes w4 (.slice da x.d.length dc) x.d from SlV.below HDW.out (Nat.le_refl _) H4.out.toBelow)
          obtain ⟨e1, e2, e3⟩ := ap_eq HUE.out HOK.out.1.nodup x
          rw [← e1, ← e2] at hap
          rw [← hsu] at e3
          have HE3 := Lib.hid' e3
          have HAP := Lib.hid' hap
          clear h4 hb' hap e1 e2 e3 hsu HSa HBS hd4 hba HSH HD hl2
          generalize (apU u2 x).2.2 = u2' at *
          generalize (apU S.u x).1 = en at *
          generalize (apU S.u x).2.1 = kn at *
          go_wp2_with fail
          refine HAP.out.mono ?_
          rintro e w5 ⟨rfl, hU5, hf5⟩
          obtain ⟨Z5', us5, _, h5⟩ := Sep.unitCall (show Sep W NoF [.unit b2 m2 u2 us2, Asn.pool Z2 us2, Asn.disk N D' ga4, Asn.shelf q9 N S' us' gb4, Asn.pool zc4 us'] w4 from H4.out.pick [3, 4, 0, 1, 2] (by decide) rfl) hU5 hf5
          have HB2' := Lib.hid' (show B2 W q9 N b2 m2 (X.length + 1) (k + 1) w5 from ⟨S', D', us', u2', us5, Z5', HB'.out, HE3.out, ga4, gb4, zc4, h5.pick [2, 3, 4, 0, 1] (by decide) rfl⟩)
          clear h5 hU5 hf5 HAP H4 HB' HE3 x0 x1 x2 x3
          go_wp2_with (go_at_call 18; refine (num_any _ _).mono ?_; rintro e wz ⟨rfl, rfl⟩)
          go_roundw
          case rel => exact ⟨k + 1, by go_num, by omega, HB2'⟩
          case measure => simp [intOf]; omega
        · obtain rfl : k = Y.length := by omega
          obtain ⟨S9, op9, on9, ou9, ob9⟩ := HBS.out.open (by omega)
          have OP9 := Lib.hid' op9
          have OU9 := Lib.hid' (ou9.trans HUE.out)
          obtain ⟨ho9, hpe9⟩ := HBS.out.ok
          have HO9 := Lib.hid' ho9
          have HPE9 := Lib.hid' hpe9
          have hl9 : S9.u.ok ∧ S9.u.cells.length ≤ 4194304 := by
            obtain ⟨u, n, L, rfl, _, _, _, h, h2, _⟩ := ob9
            exact ⟨h, Nat.le_trans h2 (by omega)⟩
          have HL9 := Lib.hid' hl9
          obtain ⟨ga, gb, zc, h0⟩ := HSH.out
          have H0 := Lib.hid' h0
          clear op9 ou9 ob9 on9 ho9 hpe9 hl9 h0 HSH HBS
          go_wp2_with fail
          refine (cut_any6 (m := X.length + 1 + Y.length) [] none 0 wr (H0.out.at 0 rfl) HO9.out (by rw [HPE9.out]; exact Nat.zero_le _) (SlV.empty _ _ _ (Nat.zero_le _) (fun _ => rfl)) (fun k _ _ h => by cases h)).mono ?_
          rintro e wa ⟨rfl, Ga, ka⟩
          have Ha := Lib.hid' (H0.out.call1 rfl ka)
          clear ka
          go_wp2_with fail
          refine (start_any (m := X.length + 1 + Y.length) wa (Ha.out.at 0 rfl) (HO9.out.cut []) (Nat.zero_le _)).mono ?_
          rintro e wb ⟨rfl, Gb, kb⟩
          have Hb := Lib.hid' (Ha.out.call1 rfl kb)
          clear kb
          have hob := (HO9.out.cut []).start
          have hpb : (upD (cutD D [])).pend = [] := rfl
          generalize upD (cutD D []) = Db at *
          go_wp2_with fail
          refine (shopen_any (m := X.length + 1 + Y.length) wb (Hb.out.at 0 rfl) (HP.out.below Hb.out.toBelow) hob (by omega) (by rw [hpb]; exact Nat.zero_le _) (pow_kept HP.out Hb.out rfl)).mono ?_
          rintro e wc hE
          have hEc : ∃ q us, e = .returned (.tuple #[ptrV q, .nilIface]) ∧ ShAt q N S9 D us [] Gb wb wc := by
            rcases hE with ⟨h0, _⟩ | ⟨_, q, us, he, hs⟩
            · rw [OP9.out] at h0; exact absurd rfl h0
            · rw [OP9.out] at hs; exact ⟨q, us, he, hs⟩
          clear hE
          obtain ⟨qc, usc, rfl, hs⟩ := hEc
          obtain ⟨Gc, Gc', Zc, hc⟩ := hs
          have HAc := Lib.hid' (show ShAt qc N S9 D usc [.unit b2 m2 u2 us2, Asn.pool Z2 us2] NoF W wc from ⟨Gc, Gc', Zc, (show Sep W NoF [Asn.disk N D Gc, Asn.shelf qc N S9 usc Gc', Asn.pool Zc usc, Asn.shelf q9 N S us gb, Asn.pool zc us, .unit b2 m2 u2 us2, Asn.pool Z2 us2] wc from Hb.out.call1 rfl hc).pick [0, 1, 2, 5, 6] (by decide) rfl⟩)
          clear hc hob hpb Hb Ha H0
          go_wp2_with fail
          refine (bunit_any _ HAc.out).mono ?_
          rintro e wd ⟨bud, bmd, usd, rfl, hd⟩
          obtain ⟨GA, GB, ZC, Hd⟩ := hd
          have hl2 : u2.cells.length ≤ 4194304 := by
            have := OU9.out.cells.length_eq
            have := HL9.out.2
            omega
          have HBd := Lib.hid' Hd.toBelow
          have hsm := usame_any wd (Sep.unitAt (show Sep W NoF [.unit bud bmd S9.u usd, Asn.pool ZC usd] wd from Hd.pick [3, 2] (by decide) rfl)) (Sep.unitAt (show Sep W NoF [.unit b2 m2 u2 us2, Asn.pool Z2 us2] wd from Hd.pick [4, 5] (by decide) rfl)) HL9.out.2 hl2
          rw [same_ueq OU9.out HL9.out.1] at hsm
          have HSM := Lib.hid' hsm
          clear hsm Hd hl2
          go_wp2_with fail
          refine HSM.out.mono ?_
          rintro e we ⟨rfl, hbe⟩
          have HBe := Lib.hid' (HBd.out.trans (hbe.mono HBd.out.size))
          clear hbe
          go_wp2_with fail
          go_ret
          exact ⟨rfl, HBe.out⟩
end SH
end Go.Proofs.YtkhnbdbcaebdaaaGreatDoor
