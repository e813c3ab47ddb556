/- UnitOnce: a cell only becomes what it may become, but by Cut; epochs and low marks never fall; who tells an elder epoch changes nothing. -/
import Derived.Test.YthjigopnlgngdaaUTails
import Derived.Test.YthjigopnlgngdaaUnitF
namespace Go.Proofs.Ythjigopnlgngdaa
open Go.RowKit
set_option linter.unusedSimpArgs false
set_option linter.unusedVariables false
set_option maxRecDepth 20000

theorem ents_mem {u : U} (h : u.ok) {E : List Ent} (hE : E.map noAd = sortC u.cells) {k : Nat} (hk : k < E.length) : (E[k].1, E[k].2.1) ∈ u.cells := by
  have hm : noAd E[k] ∈ sortC u.cells := by rw [← hE]; exact List.mem_map.2 ⟨_, List.getElem_mem hk, rfl⟩
  exact (sortC_mem _ h.nodup _).1 hm
theorem kindN_range (k : Int) : 0 ≤ kindN k ∧ kindN k < 8 := kind8 k

set_option maxHeartbeats 8000000 in
theorem unitOnce_any (X : List ActX) (a : Option Addr) (c : Nat) (W : World) (h : ScriptAt W (.slice a X.length c) X) :
    Calls Try.prog 8 #[.slice a X.length c] W fun e w' => e = .returned (.bool true) ∧ Below W.heap.size W w' := by
  have HS := Lib.hid' h
  have hlen : X.length ≤ 9223372036854775807 := by obtain ⟨_, _, he, h1, h2, _⟩ := h.1; cases he; unfold maxLen at h2; omega
  clear h
  by_cases hx : 60 < X.length
  · go_enter Try.func8, Try.ntmps8
    go_wp2_with (go_at_call 43; refine (alive8_any _).mono ?_; rintro e w1 ⟨rfl, hb1⟩)
    go_ret
    exact ⟨rfl, hb1⟩
  have hxd : decide ((60 : Int) < (X.length : Int)) = false := by simp; omega
  go_enter Try.func8, Try.ntmps8
  go_wp2_with fail
  refine (alive8_any _).mono ?_
  rintro e w1 ⟨rfl, hb1⟩
  have HB1 := Lib.hid' hb1
  clear hb1
  go_wp2_with fail
  refine (new_any _).mono ?_
  rintro e w2 ⟨rfl, hb2, hs2, hu2⟩
  have HP := Lib.hid' (show TailsAt W w1.heap.size 0 w2 from ⟨⟨U.new, Nat.le_refl _, hu2 _ (.inr rfl) (.inl rfl)⟩, HB1.out.trans (hb2.mono HB1.out.size)⟩)
  have HN := Lib.hid' HB1.out.size
  clear hu2 hb2 hs2 HB1
  go_wp2_with fail
  generalize w1.heap.size = bm at *
  go_loopw [20] (fun v20 wr => ∃ k : Nat, v20 = .int .i64 k ∧ k ≤ X.length ∧ TailsAt W bm k wr) (fun v20 _ => X.length - (intOf v20).toNat)
  case atStart => exact ⟨0, rfl, Nat.zero_le _, HP.out⟩
  case round =>
    obtain ⟨k, rfl, hk, hp⟩ := hrel
    have HPk := Lib.hid' hp
    clear hp HP
    by_cases hlt : k < X.length
    rotate_left
    · go_wp2_with fail
      go_ret
      exact ⟨rfl, HPk.out.below⟩
    obtain ⟨u0, hl, hu⟩ := HPk.out.at'
    obtain ⟨hsl, hby⟩ := HS.out.below (Nat.le_refl _) HPk.out.below
    obtain ⟨b, off, rfl, hb, hc⟩ := SlV.row (s := 4) (fun _ => rfl) (by decide) hsl hlt
    have c0 := hc 0 _ rfl; have c1 := hc 1 _ rfl; have c2 := hc 2 _ rfl; have c3 := hc 3 _ rfl
    simp only [Nat.add_zero] at c0
    by_cases hd : 300 < X[k].d.length
    · go_wp2_with fail
      go_ret
      exact ⟨rfl, HPk.out.below.trans ((show Below wr.heap.size wr _ by go_grown).mono HPk.out.below.size)⟩
    have HU := Lib.hid' hu
    have HD := Lib.hid' (hby _ (List.getElem_mem hlt))
    have HL := Lib.hid' hl
    clear hu hby hl hsl hc
    go_wp2_with fail
    have HBa := Lib.hid' (show Below wr.heap.size wr (wr.alloc (.cells #[.int .i64 X[k].k, .int .i64 X[k].e, .int .i64 X[k].a, .slice X[k].da X[k].d.length X[k].dc] 95)) by go_grown)
    have HX := Lib.hid' (BoxW.start wr [.int .i64 X[k].k, .int .i64 X[k].e, .int .i64 X[k].a, .slice X[k].da X[k].d.length X[k].dc] 95)
    rw [show wr.alloc (.cells [.int .i64 X[k].k, .int .i64 X[k].e, .int .i64 X[k].a, .slice X[k].da X[k].d.length X[k].dc].toArray 95) = wr.alloc (.cells #[.int .i64 X[k].k, .int .i64 X[k].e, .int .i64 X[k].a, .slice X[k].da X[k].d.length X[k].dc] 95) from rfl] at HX
    generalize wr.alloc (.cells #[.int .i64 X[k].k, .int .i64 X[k].e, .int .i64 X[k].a, .slice X[k].da X[k].d.length X[k].dc] 95) = wa at *
    clear c0 c1 c2 c3
    have HUa := Lib.hid' (HU.out.below (Nat.le_refl _) HBa.out)
    -- one apart
    refine (ucopy_any wa HUa.out).mono ?_
    rintro en wb ⟨rfl, hbb, hzb, hcu⟩
    have hbmw := HU.out.lt
    have HW := Lib.hid' (hcu (fun q => (q = bm + 1 ∨ q = bm) ∨ wa.heap.size ≤ q) (fun q hq => hq) (.inr (Nat.le_refl _)) (.inr (Nat.le_succ _)))
    have HUb := Lib.hid' (HUa.out.below (Nat.le_refl _) hbb)
    have HXb := Lib.hid' (HX.out.below (Nat.le_refl _) hbb)
    have HBb := Lib.hid' (show Below wr.heap.size wr wb from HBa.out.trans (hbb.mono HBa.out.size))
    have hza : bm + 1 < wa.heap.size ∧ bm < wa.heap.size := by have := HBa.out.size; omega
    have HZa := Lib.hid' hza
    have HXlt := Lib.hid' HX.out.lt
    clear hbb hcu hza hzb HX HUa
    have x0 := HXb.out.box.1 0 _ rfl; have x1 := HXb.out.box.1 1 _ rfl; have x2 := HXb.out.box.1 2 _ rfl; have x3 := HXb.out.box.1 3 _ rfl
    go_wp2_with fail
    refine (do_tails X[k] u0 (bm + 1) bm wb HUb.out (SlV.below HD.out (Nat.le_refl _) HBb.out) (by omega) (by have := HL.out; omega)).mono ?_
    rintro en w4 ⟨v4, b4, rfl, hu4, hf4⟩
    have HL4 := Lib.hid' (Nat.le_trans (uS_len u0 (kindN X[k].k) X[k].e X[k].a X[k].d) (Nat.succ_le_succ HL.out))
    have HOn := Lib.hid' (uS_once HU.out.ok (kindN X[k].k) X[k].e X[k].a X[k].d)
    have hbs := HN.out
    have HB4 := Lib.hid' (show Below W.heap.size W w4 from (HPk.out.below.trans (HBb.out.mono HPk.out.below.size)).trans (hf4.below (Nat.le_trans HPk.out.below.size HBb.out.size) (by omega)))
    have HU4 := Lib.hid' hu4
    have HW4 := Lib.hid' (HW.out.fr hf4 (by have := HZa.out; omega) (by have := HZa.out; omega) (fun q hq => .inl hq))
    have HX4 := Lib.hid' (HXb.out.fr hf4 (by have := hbmw; omega))
    clear hu4 hf4 HW HXb HUb HD hbs x0 x1 x2 x3
    generalize (uS (kindN X[k].k) u0 X[k].e X[k].a X[k].d).1 = u at *
    have HKR := Lib.hid' (kindN_range X[k].k)
    unfold kindN at HOn HKR
    generalize (IntKind.u64.wrap X[k].k).tmod 8 = kn at *
    have x1 := HX4.out.box.1 1 _ rfl
    have hzx := HX4.out.lt
    go_upto_region 14 with fail
    go_cut [69] (fun v69 wx => v69 = .bool false ∧ Below w4.heap.size w4 wx)
    case first =>
      have hE : decide (u.e < u0.e) = false := by have := HOn.out.ep; simp; omega
      have hL : decide (u.l < u0.l) = false := by have := HOn.out.low; simp; omega
      have HUd := Lib.hid' (HU4.out.below (Nat.le_refl _) (Below.drew (Below.refl _ _)))
      have HWd := Lib.hid' (HW4.out.below (Nat.le_refl _) (Below.drew (Below.refl _ _)))
      cases hk0 : (kn != 0)
      · refine wp_region_held_drew (S := (fun w' => w'.cell? ⟨wr.heap.size, 1, none⟩ = some (.int .i64 X[k].e))) (by kernel_rfl) (by simpa using x1) (fun hH0 => ?_)
        refine wpAnyH_take (i := 0) (oi := _) (v := .pointer (some ⟨bm + 1, 0, none⟩)) rfl (by kernel_rfl) (by kernel_rfl) (by kernel_rfl) (fun _ _ _ h => h) (Or.inl ⟨by rfl, ?_⟩) hH0 ?_
        · intro w hSw; go_simp
        simp only [Act.put, List.getElem_toArray, List.getElem_cons_zero, List.getElem_cons_succ, List.setIfInBounds_toArray, List.set_cons_zero, List.set_cons_succ]
        refine wpAnyH_take (i := 2) (oi := _) (v := .pointer (some ⟨wa.heap.size + 1, 0, none⟩)) rfl (by kernel_rfl) (by kernel_rfl) (by kernel_rfl) (fun _ _ _ h => h) (Or.inl ⟨by rfl, ?_⟩) hH0 ?_
        · intro w hSw; go_simp
        simp only [Act.put, List.getElem_toArray, List.getElem_cons_zero, List.getElem_cons_succ, List.setIfInBounds_toArray, List.set_cons_zero, List.set_cons_succ]
        refine wpAnyH_ready (rs := [1]) (by kernel_rfl) (by simp) (AllReadyH.cons (o := _) rfl (fun K hK => ?_) AllReadyH.nil)
        go_simp
        refine (epoch_any _ HUd.out).mono ?_
        rintro en w' ⟨rfl, rfl⟩
        refine hK.out _ _ ?_ (fun hH1 => ?_)
        · exact hH0
        clear hK K
        refine wpAnyH_ready (rs := [3]) (by kernel_rfl) (by simp) (AllReadyH.cons (o := _) rfl (fun K hK => ?_) AllReadyH.nil)
        go_simp
        refine (epoch_any _ HWd.out).mono ?_
        rintro en w' ⟨rfl, rfl⟩
        refine hK.out _ _ ?_ (fun hH2 => ?_)
        · exact hH1
        clear hK K
        refine wpAnyH_take (i := 4) (oi := _) (v := .bool false) rfl (by kernel_rfl) (by kernel_rfl) (by kernel_rfl) (fun _ _ _ h => h) (Or.inl ⟨by rfl, ?_⟩) hH2 ?_
        · intro w hSw; go_simp
        simp only [Act.put, List.getElem_toArray, List.getElem_cons_zero, List.getElem_cons_succ, List.setIfInBounds_toArray, List.set_cons_zero, List.set_cons_succ]
        refine wpAnyH_take (i := 5) (oi := _) (v := .bool false) rfl (by kernel_rfl) (by kernel_rfl) (by kernel_rfl) (fun _ _ _ h => h) (Or.inl ⟨by rfl, ?_⟩) hH2 ?_
        · intro w hSw; go_simp
        simp only [Act.put, List.getElem_toArray, List.getElem_cons_zero, List.getElem_cons_succ, List.setIfInBounds_toArray, List.set_cons_zero, List.set_cons_succ]
        refine wpAnyH_take (i := 6) (oi := _) (v := .pointer (some ⟨bm + 1, 0, none⟩)) rfl (by kernel_rfl) (by kernel_rfl) (by kernel_rfl) (fun _ _ _ h => h) (Or.inl ⟨by rfl, ?_⟩) hH2 ?_
        · intro w hSw; go_simp
        simp only [Act.put, List.getElem_toArray, List.getElem_cons_zero, List.getElem_cons_succ, List.setIfInBounds_toArray, List.set_cons_zero, List.set_cons_succ]
        refine wpAnyH_take (i := 8) (oi := _) (v := .pointer (some ⟨wa.heap.size + 1, 0, none⟩)) rfl (by kernel_rfl) (by kernel_rfl) (by kernel_rfl) (fun _ _ _ h => h) (Or.inl ⟨by rfl, ?_⟩) hH2 ?_
        · intro w hSw; go_simp
        simp only [Act.put, List.getElem_toArray, List.getElem_cons_zero, List.getElem_cons_succ, List.setIfInBounds_toArray, List.set_cons_zero, List.set_cons_succ]
        refine wpAnyH_ready (rs := [7]) (by kernel_rfl) (by simp) (AllReadyH.cons (o := _) rfl (fun K hK => ?_) AllReadyH.nil)
        go_simp
        refine (low_any _ HUd.out).mono ?_
        rintro en w' ⟨rfl, rfl⟩
        refine hK.out _ _ ?_ (fun hH3 => ?_)
        · exact hH2
        clear hK K
        refine wpAnyH_ready (rs := [9]) (by kernel_rfl) (by simp) (AllReadyH.cons (o := _) rfl (fun K hK => ?_) AllReadyH.nil)
        go_simp
        refine (low_any _ HWd.out).mono ?_
        rintro en w' ⟨rfl, rfl⟩
        refine hK.out _ _ ?_ (fun hH4 => ?_)
        · exact hH3
        clear hK K
        refine wpAnyH_take (i := 10) (oi := _) (v := .bool false) rfl (by kernel_rfl) (by kernel_rfl) (by kernel_rfl) (fun _ _ _ h => h) (Or.inl ⟨by rfl, ?_⟩) hH4 ?_
        · intro w hSw; go_simp
        simp only [Act.put, List.getElem_toArray, List.getElem_cons_zero, List.getElem_cons_succ, List.setIfInBounds_toArray, List.set_cons_zero, List.set_cons_succ]
        refine wpAnyH_take (i := 11) (oi := _) (v := .bool false) rfl (by kernel_rfl) (by kernel_rfl) (by kernel_rfl) (fun _ _ _ h => h) (Or.inl ⟨by rfl, ?_⟩) hH4 ?_
        · intro w hSw; go_simp
        simp only [Act.put, List.getElem_toArray, List.getElem_cons_zero, List.getElem_cons_succ, List.setIfInBounds_toArray, List.set_cons_zero, List.set_cons_succ]
        refine wpAnyH_take (i := 12) (oi := _) (v := .bool false) rfl (by kernel_rfl) (by kernel_rfl) (by kernel_rfl) (fun _ _ _ h => h) (Or.inl ⟨by rfl, ?_⟩) hH4 ?_
        · intro w hSw; go_simp
        simp only [Act.put, List.getElem_toArray, List.getElem_cons_zero, List.getElem_cons_succ, List.setIfInBounds_toArray, List.set_cons_zero, List.set_cons_succ]
        refine wpAnyH_take (i := 13) (oi := _) (v := .int .u64 kn) rfl (by kernel_rfl) (by kernel_rfl) (by kernel_rfl) (fun _ _ _ h => h) (Or.inl ⟨by rfl, ?_⟩) hH4 ?_
        · intro w hSw; go_simp
        simp only [Act.put, List.getElem_toArray, List.getElem_cons_zero, List.getElem_cons_succ, List.setIfInBounds_toArray, List.set_cons_zero, List.set_cons_succ]
        refine wpAnyH_take (i := 14) (oi := _) (v := .bool false) rfl (by kernel_rfl) (by kernel_rfl) (by kernel_rfl) (fun _ _ _ h => h) (Or.inl ⟨by rfl, ?_⟩) hH4 ?_
        · intro w hSw; go_simp
        simp only [Act.put, List.getElem_toArray, List.getElem_cons_zero, List.getElem_cons_succ, List.setIfInBounds_toArray, List.set_cons_zero, List.set_cons_succ]
        refine wpAnyH_take (i := 15) (oi := _) (v := .bool false) rfl (by kernel_rfl) (by kernel_rfl) (by kernel_rfl) (fun _ _ _ h => h) (Or.inl ⟨by rfl, ?_⟩) hH4 ?_
        · intro w hSw; go_simp
        simp only [Act.put, List.getElem_toArray, List.getElem_cons_zero, List.getElem_cons_succ, List.setIfInBounds_toArray, List.set_cons_zero, List.set_cons_succ]
        refine wpAnyH_take (i := 16) (oi := _) (v := undef) rfl (by kernel_rfl) (by kernel_rfl) (by kernel_rfl) (fun _ _ _ h => h) (Or.inr ⟨by kernel_rfl, rfl⟩) hH4 ?_
        simp only [Act.put, List.getElem_toArray, List.getElem_cons_zero, List.getElem_cons_succ, List.setIfInBounds_toArray, List.set_cons_zero, List.set_cons_succ]
        refine wpAnyH_take (i := 17) (oi := _) (v := undef) rfl (by kernel_rfl) (by kernel_rfl) (by kernel_rfl) (fun _ _ _ h => h) (Or.inr ⟨by kernel_rfl, rfl⟩) hH4 ?_
        simp only [Act.put, List.getElem_toArray, List.getElem_cons_zero, List.getElem_cons_succ, List.setIfInBounds_toArray, List.set_cons_zero, List.set_cons_succ]
        refine wpAnyH_take (i := 18) (oi := _) (v := undef) rfl (by kernel_rfl) (by kernel_rfl) (by kernel_rfl) (fun _ _ _ h => h) (Or.inr ⟨by kernel_rfl, rfl⟩) hH4 ?_
        simp only [Act.put, List.getElem_toArray, List.getElem_cons_zero, List.getElem_cons_succ, List.setIfInBounds_toArray, List.set_cons_zero, List.set_cons_succ]
        refine wpAnyH_take (i := 19) (oi := _) (v := undef) rfl (by kernel_rfl) (by kernel_rfl) (by kernel_rfl) (fun _ _ _ h => h) (Or.inr ⟨by kernel_rfl, rfl⟩) hH4 ?_
        simp only [Act.put, List.getElem_toArray, List.getElem_cons_zero, List.getElem_cons_succ, List.setIfInBounds_toArray, List.set_cons_zero, List.set_cons_succ]
        refine wpAnyH_take (i := 20) (oi := _) (v := undef) rfl (by kernel_rfl) (by kernel_rfl) (by kernel_rfl) (fun _ _ _ h => h) (Or.inr ⟨by kernel_rfl, rfl⟩) hH4 ?_
        simp only [Act.put, List.getElem_toArray, List.getElem_cons_zero, List.getElem_cons_succ, List.setIfInBounds_toArray, List.set_cons_zero, List.set_cons_succ]
        refine wpAnyH_take (i := 21) (oi := _) (v := .bool false) rfl (by kernel_rfl) (by kernel_rfl) (by kernel_rfl) (fun _ _ _ h => h) (Or.inl ⟨by rfl, ?_⟩) hH4 ?_
        · intro w hSw; go_simp
        simp only [Act.put, List.getElem_toArray, List.getElem_cons_zero, List.getElem_cons_succ, List.setIfInBounds_toArray, List.set_cons_zero, List.set_cons_succ]
        refine wpAnyH_take (i := 22) (oi := _) (v := .bool false) rfl (by kernel_rfl) (by kernel_rfl) (by kernel_rfl) (fun _ _ _ h => h) (Or.inl ⟨by rfl, ?_⟩) hH4 ?_
        · intro w hSw; go_simp
        simp only [Act.put, List.getElem_toArray, List.getElem_cons_zero, List.getElem_cons_succ, List.setIfInBounds_toArray, List.set_cons_zero, List.set_cons_succ]
        refine wpAnyH_take (i := 23) (oi := _) (v := undef) rfl (by kernel_rfl) (by kernel_rfl) (by kernel_rfl) (fun _ _ _ h => h) (Or.inr ⟨by kernel_rfl, rfl⟩) hH4 ?_
        simp only [Act.put, List.getElem_toArray, List.getElem_cons_zero, List.getElem_cons_succ, List.setIfInBounds_toArray, List.set_cons_zero, List.set_cons_succ]
        refine wpAnyH_take (i := 24) (oi := _) (v := undef) rfl (by kernel_rfl) (by kernel_rfl) (by kernel_rfl) (fun _ _ _ h => h) (Or.inr ⟨by kernel_rfl, rfl⟩) hH4 ?_
        simp only [Act.put, List.getElem_toArray, List.getElem_cons_zero, List.getElem_cons_succ, List.setIfInBounds_toArray, List.set_cons_zero, List.set_cons_succ]
        refine wpAnyH_take (i := 25) (oi := _) (v := undef) rfl (by kernel_rfl) (by kernel_rfl) (by kernel_rfl) (fun _ _ _ h => h) (Or.inr ⟨by kernel_rfl, rfl⟩) hH4 ?_
        simp only [Act.put, List.getElem_toArray, List.getElem_cons_zero, List.getElem_cons_succ, List.setIfInBounds_toArray, List.set_cons_zero, List.set_cons_succ]
        refine wpAnyH_take (i := 26) (oi := _) (v := undef) rfl (by kernel_rfl) (by kernel_rfl) (by kernel_rfl) (fun _ _ _ h => h) (Or.inr ⟨by kernel_rfl, rfl⟩) hH4 ?_
        simp only [Act.put, List.getElem_toArray, List.getElem_cons_zero, List.getElem_cons_succ, List.setIfInBounds_toArray, List.set_cons_zero, List.set_cons_succ]
        refine wpAnyH_take (i := 27) (oi := _) (v := .bool false) rfl (by kernel_rfl) (by kernel_rfl) (by kernel_rfl) (fun _ _ _ h => h) (Or.inl ⟨by rfl, ?_⟩) hH4 ?_
        · intro w hSw; go_simp
        simp only [Act.put, List.getElem_toArray, List.getElem_cons_zero, List.getElem_cons_succ, List.setIfInBounds_toArray, List.set_cons_zero, List.set_cons_succ]
        refine wpAnyH_take (i := 28) (oi := _) (v := .bool false) rfl (by kernel_rfl) (by kernel_rfl) (by kernel_rfl) (fun _ _ _ h => h) (Or.inl ⟨by rfl, ?_⟩) hH4 ?_
        · intro w hSw; go_simp
        simp only [Act.put, List.getElem_toArray, List.getElem_cons_zero, List.getElem_cons_succ, List.setIfInBounds_toArray, List.set_cons_zero, List.set_cons_succ]
        refine wpAnyH_done (by kernel_rfl) ?_ _
        go_wp2_with fail
        go_meet
        exact ⟨rfl, Below.drew (Below.refl _ _)⟩
      · cases hel : decide (X[k].e < u0.e)
        · refine wp_region_held_drew (S := (fun w' => w'.cell? ⟨wr.heap.size, 1, none⟩ = some (.int .i64 X[k].e))) (by kernel_rfl) (by simpa using x1) (fun hH0 => ?_)
          refine wpAnyH_take (i := 0) (oi := _) (v := .pointer (some ⟨bm + 1, 0, none⟩)) rfl (by kernel_rfl) (by kernel_rfl) (by kernel_rfl) (fun _ _ _ h => h) (Or.inl ⟨by rfl, ?_⟩) hH0 ?_
          · intro w hSw; go_simp
          simp only [Act.put, List.getElem_toArray, List.getElem_cons_zero, List.getElem_cons_succ, List.setIfInBounds_toArray, List.set_cons_zero, List.set_cons_succ]
          refine wpAnyH_take (i := 2) (oi := _) (v := .pointer (some ⟨wa.heap.size + 1, 0, none⟩)) rfl (by kernel_rfl) (by kernel_rfl) (by kernel_rfl) (fun _ _ _ h => h) (Or.inl ⟨by rfl, ?_⟩) hH0 ?_
          · intro w hSw; go_simp
          simp only [Act.put, List.getElem_toArray, List.getElem_cons_zero, List.getElem_cons_succ, List.setIfInBounds_toArray, List.set_cons_zero, List.set_cons_succ]
          refine wpAnyH_ready (rs := [1]) (by kernel_rfl) (by simp) (AllReadyH.cons (o := _) rfl (fun K hK => ?_) AllReadyH.nil)
          go_simp
          refine (epoch_any _ HUd.out).mono ?_
          rintro en w' ⟨rfl, rfl⟩
          refine hK.out _ _ ?_ (fun hH1 => ?_)
          · exact hH0
          clear hK K
          refine wpAnyH_ready (rs := [3]) (by kernel_rfl) (by simp) (AllReadyH.cons (o := _) rfl (fun K hK => ?_) AllReadyH.nil)
          go_simp
          refine (epoch_any _ HWd.out).mono ?_
          rintro en w' ⟨rfl, rfl⟩
          refine hK.out _ _ ?_ (fun hH2 => ?_)
          · exact hH1
          clear hK K
          refine wpAnyH_take (i := 4) (oi := _) (v := .bool false) rfl (by kernel_rfl) (by kernel_rfl) (by kernel_rfl) (fun _ _ _ h => h) (Or.inl ⟨by rfl, ?_⟩) hH2 ?_
          · intro w hSw; go_simp
          simp only [Act.put, List.getElem_toArray, List.getElem_cons_zero, List.getElem_cons_succ, List.setIfInBounds_toArray, List.set_cons_zero, List.set_cons_succ]
          refine wpAnyH_take (i := 5) (oi := _) (v := .bool false) rfl (by kernel_rfl) (by kernel_rfl) (by kernel_rfl) (fun _ _ _ h => h) (Or.inl ⟨by rfl, ?_⟩) hH2 ?_
          · intro w hSw; go_simp
          simp only [Act.put, List.getElem_toArray, List.getElem_cons_zero, List.getElem_cons_succ, List.setIfInBounds_toArray, List.set_cons_zero, List.set_cons_succ]
          refine wpAnyH_take (i := 6) (oi := _) (v := .pointer (some ⟨bm + 1, 0, none⟩)) rfl (by kernel_rfl) (by kernel_rfl) (by kernel_rfl) (fun _ _ _ h => h) (Or.inl ⟨by rfl, ?_⟩) hH2 ?_
          · intro w hSw; go_simp
          simp only [Act.put, List.getElem_toArray, List.getElem_cons_zero, List.getElem_cons_succ, List.setIfInBounds_toArray, List.set_cons_zero, List.set_cons_succ]
          refine wpAnyH_take (i := 8) (oi := _) (v := .pointer (some ⟨wa.heap.size + 1, 0, none⟩)) rfl (by kernel_rfl) (by kernel_rfl) (by kernel_rfl) (fun _ _ _ h => h) (Or.inl ⟨by rfl, ?_⟩) hH2 ?_
          · intro w hSw; go_simp
          simp only [Act.put, List.getElem_toArray, List.getElem_cons_zero, List.getElem_cons_succ, List.setIfInBounds_toArray, List.set_cons_zero, List.set_cons_succ]
          refine wpAnyH_ready (rs := [7]) (by kernel_rfl) (by simp) (AllReadyH.cons (o := _) rfl (fun K hK => ?_) AllReadyH.nil)
          go_simp
          refine (low_any _ HUd.out).mono ?_
          rintro en w' ⟨rfl, rfl⟩
          refine hK.out _ _ ?_ (fun hH3 => ?_)
          · exact hH2
          clear hK K
          refine wpAnyH_ready (rs := [9]) (by kernel_rfl) (by simp) (AllReadyH.cons (o := _) rfl (fun K hK => ?_) AllReadyH.nil)
          go_simp
          refine (low_any _ HWd.out).mono ?_
          rintro en w' ⟨rfl, rfl⟩
          refine hK.out _ _ ?_ (fun hH4 => ?_)
          · exact hH3
          clear hK K
          refine wpAnyH_take (i := 10) (oi := _) (v := .bool false) rfl (by kernel_rfl) (by kernel_rfl) (by kernel_rfl) (fun _ _ _ h => h) (Or.inl ⟨by rfl, ?_⟩) hH4 ?_
          · intro w hSw; go_simp
          simp only [Act.put, List.getElem_toArray, List.getElem_cons_zero, List.getElem_cons_succ, List.setIfInBounds_toArray, List.set_cons_zero, List.set_cons_succ]
          refine wpAnyH_take (i := 11) (oi := _) (v := .bool false) rfl (by kernel_rfl) (by kernel_rfl) (by kernel_rfl) (fun _ _ _ h => h) (Or.inl ⟨by rfl, ?_⟩) hH4 ?_
          · intro w hSw; go_simp
          simp only [Act.put, List.getElem_toArray, List.getElem_cons_zero, List.getElem_cons_succ, List.setIfInBounds_toArray, List.set_cons_zero, List.set_cons_succ]
          refine wpAnyH_take (i := 12) (oi := _) (v := .bool false) rfl (by kernel_rfl) (by kernel_rfl) (by kernel_rfl) (fun _ _ _ h => h) (Or.inl ⟨by rfl, ?_⟩) hH4 ?_
          · intro w hSw; go_simp
          simp only [Act.put, List.getElem_toArray, List.getElem_cons_zero, List.getElem_cons_succ, List.setIfInBounds_toArray, List.set_cons_zero, List.set_cons_succ]
          refine wpAnyH_take (i := 13) (oi := _) (v := .int .u64 kn) rfl (by kernel_rfl) (by kernel_rfl) (by kernel_rfl) (fun _ _ _ h => h) (Or.inl ⟨by rfl, ?_⟩) hH4 ?_
          · intro w hSw; go_simp
          simp only [Act.put, List.getElem_toArray, List.getElem_cons_zero, List.getElem_cons_succ, List.setIfInBounds_toArray, List.set_cons_zero, List.set_cons_succ]
          refine wpAnyH_take (i := 14) (oi := _) (v := .bool true) rfl (by kernel_rfl) (by kernel_rfl) (by kernel_rfl) (fun _ _ _ h => h) (Or.inl ⟨by rfl, ?_⟩) hH4 ?_
          · intro w hSw; go_simp
          simp only [Act.put, List.getElem_toArray, List.getElem_cons_zero, List.getElem_cons_succ, List.setIfInBounds_toArray, List.set_cons_zero, List.set_cons_succ]
          refine wpAnyH_take (i := 15) (oi := _) (v := .bool true) rfl (by kernel_rfl) (by kernel_rfl) (by kernel_rfl) (fun _ _ _ h => h) (Or.inl ⟨by rfl, ?_⟩) hH4 ?_
          · intro w hSw; go_simp
          simp only [Act.put, List.getElem_toArray, List.getElem_cons_zero, List.getElem_cons_succ, List.setIfInBounds_toArray, List.set_cons_zero, List.set_cons_succ]
          refine wpAnyH_take (i := 16) (oi := _) (v := .pointer (some ⟨wr.heap.size, 1, none⟩)) rfl (by kernel_rfl) (by kernel_rfl) (by kernel_rfl) (fun _ _ _ h => h) (Or.inl ⟨by rfl, ?_⟩) hH4 ?_
          · intro w hSw; go_simp
          simp only [Act.put, List.getElem_toArray, List.getElem_cons_zero, List.getElem_cons_succ, List.setIfInBounds_toArray, List.set_cons_zero, List.set_cons_succ]
          refine wpAnyH_take (i := 17) (oi := _) (v := .int .i64 X[k].e) rfl (by kernel_rfl) (by kernel_rfl) (by kernel_rfl) (fun _ _ _ h => h) (Or.inl ⟨by rfl, ?_⟩) hH4 ?_
          · intro w hSw; go_simp
          simp only [Act.put, List.getElem_toArray, List.getElem_cons_zero, List.getElem_cons_succ, List.setIfInBounds_toArray, List.set_cons_zero, List.set_cons_succ]
          refine wpAnyH_take (i := 18) (oi := _) (v := .pointer (some ⟨wa.heap.size + 1, 0, none⟩)) rfl (by kernel_rfl) (by kernel_rfl) (by kernel_rfl) (fun _ _ _ h => h) (Or.inl ⟨by rfl, ?_⟩) hH4 ?_
          · intro w hSw; go_simp
          simp only [Act.put, List.getElem_toArray, List.getElem_cons_zero, List.getElem_cons_succ, List.setIfInBounds_toArray, List.set_cons_zero, List.set_cons_succ]
          refine wpAnyH_ready (rs := [19]) (by kernel_rfl) (by simp) (AllReadyH.cons (o := _) rfl (fun K hK => ?_) AllReadyH.nil)
          go_simp
          refine (epoch_any _ HWd.out).mono ?_
          rintro en w' ⟨rfl, rfl⟩
          refine hK.out _ _ ?_ (fun hH5 => ?_)
          · exact hH4
          clear hK K
          refine wpAnyH_take (i := 20) (oi := _) (v := .bool false) rfl (by kernel_rfl) (by kernel_rfl) (by kernel_rfl) (fun _ _ _ h => h) (Or.inl ⟨by rfl, ?_⟩) hH5 ?_
          · intro w hSw; go_simp
          simp only [Act.put, List.getElem_toArray, List.getElem_cons_zero, List.getElem_cons_succ, List.setIfInBounds_toArray, List.set_cons_zero, List.set_cons_succ]
          refine wpAnyH_take (i := 21) (oi := _) (v := .bool false) rfl (by kernel_rfl) (by kernel_rfl) (by kernel_rfl) (fun _ _ _ h => h) (Or.inl ⟨by rfl, ?_⟩) hH5 ?_
          · intro w hSw; go_simp
          simp only [Act.put, List.getElem_toArray, List.getElem_cons_zero, List.getElem_cons_succ, List.setIfInBounds_toArray, List.set_cons_zero, List.set_cons_succ]
          refine wpAnyH_take (i := 22) (oi := _) (v := .bool false) rfl (by kernel_rfl) (by kernel_rfl) (by kernel_rfl) (fun _ _ _ h => h) (Or.inl ⟨by rfl, ?_⟩) hH5 ?_
          · intro w hSw; go_simp
          simp only [Act.put, List.getElem_toArray, List.getElem_cons_zero, List.getElem_cons_succ, List.setIfInBounds_toArray, List.set_cons_zero, List.set_cons_succ]
          refine wpAnyH_take (i := 23) (oi := _) (v := undef) rfl (by kernel_rfl) (by kernel_rfl) (by kernel_rfl) (fun _ _ _ h => h) (Or.inr ⟨by kernel_rfl, rfl⟩) hH5 ?_
          simp only [Act.put, List.getElem_toArray, List.getElem_cons_zero, List.getElem_cons_succ, List.setIfInBounds_toArray, List.set_cons_zero, List.set_cons_succ]
          refine wpAnyH_take (i := 24) (oi := _) (v := undef) rfl (by kernel_rfl) (by kernel_rfl) (by kernel_rfl) (fun _ _ _ h => h) (Or.inr ⟨by kernel_rfl, rfl⟩) hH5 ?_
          simp only [Act.put, List.getElem_toArray, List.getElem_cons_zero, List.getElem_cons_succ, List.setIfInBounds_toArray, List.set_cons_zero, List.set_cons_succ]
          refine wpAnyH_take (i := 25) (oi := _) (v := undef) rfl (by kernel_rfl) (by kernel_rfl) (by kernel_rfl) (fun _ _ _ h => h) (Or.inr ⟨by kernel_rfl, rfl⟩) hH5 ?_
          simp only [Act.put, List.getElem_toArray, List.getElem_cons_zero, List.getElem_cons_succ, List.setIfInBounds_toArray, List.set_cons_zero, List.set_cons_succ]
          refine wpAnyH_take (i := 26) (oi := _) (v := undef) rfl (by kernel_rfl) (by kernel_rfl) (by kernel_rfl) (fun _ _ _ h => h) (Or.inr ⟨by kernel_rfl, rfl⟩) hH5 ?_
          simp only [Act.put, List.getElem_toArray, List.getElem_cons_zero, List.getElem_cons_succ, List.setIfInBounds_toArray, List.set_cons_zero, List.set_cons_succ]
          refine wpAnyH_take (i := 27) (oi := _) (v := .bool false) rfl (by kernel_rfl) (by kernel_rfl) (by kernel_rfl) (fun _ _ _ h => h) (Or.inl ⟨by rfl, ?_⟩) hH5 ?_
          · intro w hSw; go_simp
          simp only [Act.put, List.getElem_toArray, List.getElem_cons_zero, List.getElem_cons_succ, List.setIfInBounds_toArray, List.set_cons_zero, List.set_cons_succ]
          refine wpAnyH_take (i := 28) (oi := _) (v := .bool false) rfl (by kernel_rfl) (by kernel_rfl) (by kernel_rfl) (fun _ _ _ h => h) (Or.inl ⟨by rfl, ?_⟩) hH5 ?_
          · intro w hSw; go_simp
          simp only [Act.put, List.getElem_toArray, List.getElem_cons_zero, List.getElem_cons_succ, List.setIfInBounds_toArray, List.set_cons_zero, List.set_cons_succ]
          refine wpAnyH_done (by kernel_rfl) ?_ _
          go_wp2_with fail
          go_meet
          exact ⟨rfl, Below.drew (Below.refl _ _)⟩
        · have HSM := Lib.hid' (show sameB u u0 = true by
            rw [HOn.out.elder (by simpa using hk0) (by simpa using hel)]; exact sameB_self HU.out.ok)
          refine wp_region_held_drew (S := (fun w' => w'.cell? ⟨wr.heap.size, 1, none⟩ = some (.int .i64 X[k].e))) (by kernel_rfl) (by simpa using x1) (fun hH0 => ?_)
          refine wpAnyH_take (i := 0) (oi := _) (v := .pointer (some ⟨bm + 1, 0, none⟩)) rfl (by kernel_rfl) (by kernel_rfl) (by kernel_rfl) (fun _ _ _ h => h) (Or.inl ⟨by rfl, ?_⟩) hH0 ?_
          · intro w hSw; go_simp
          simp only [Act.put, List.getElem_toArray, List.getElem_cons_zero, List.getElem_cons_succ, List.setIfInBounds_toArray, List.set_cons_zero, List.set_cons_succ]
          refine wpAnyH_take (i := 2) (oi := _) (v := .pointer (some ⟨wa.heap.size + 1, 0, none⟩)) rfl (by kernel_rfl) (by kernel_rfl) (by kernel_rfl) (fun _ _ _ h => h) (Or.inl ⟨by rfl, ?_⟩) hH0 ?_
          · intro w hSw; go_simp
          simp only [Act.put, List.getElem_toArray, List.getElem_cons_zero, List.getElem_cons_succ, List.setIfInBounds_toArray, List.set_cons_zero, List.set_cons_succ]
          refine wpAnyH_ready (rs := [1]) (by kernel_rfl) (by simp) (AllReadyH.cons (o := _) rfl (fun K hK => ?_) AllReadyH.nil)
          go_simp
          refine (epoch_any _ HUd.out).mono ?_
          rintro en w' ⟨rfl, rfl⟩
          refine hK.out _ _ ?_ (fun hH1 => ?_)
          · exact hH0
          clear hK K
          refine wpAnyH_ready (rs := [3]) (by kernel_rfl) (by simp) (AllReadyH.cons (o := _) rfl (fun K hK => ?_) AllReadyH.nil)
          go_simp
          refine (epoch_any _ HWd.out).mono ?_
          rintro en w' ⟨rfl, rfl⟩
          refine hK.out _ _ ?_ (fun hH2 => ?_)
          · exact hH1
          clear hK K
          refine wpAnyH_take (i := 4) (oi := _) (v := .bool false) rfl (by kernel_rfl) (by kernel_rfl) (by kernel_rfl) (fun _ _ _ h => h) (Or.inl ⟨by rfl, ?_⟩) hH2 ?_
          · intro w hSw; go_simp
          simp only [Act.put, List.getElem_toArray, List.getElem_cons_zero, List.getElem_cons_succ, List.setIfInBounds_toArray, List.set_cons_zero, List.set_cons_succ]
          refine wpAnyH_take (i := 5) (oi := _) (v := .bool false) rfl (by kernel_rfl) (by kernel_rfl) (by kernel_rfl) (fun _ _ _ h => h) (Or.inl ⟨by rfl, ?_⟩) hH2 ?_
          · intro w hSw; go_simp
          simp only [Act.put, List.getElem_toArray, List.getElem_cons_zero, List.getElem_cons_succ, List.setIfInBounds_toArray, List.set_cons_zero, List.set_cons_succ]
          refine wpAnyH_take (i := 6) (oi := _) (v := .pointer (some ⟨bm + 1, 0, none⟩)) rfl (by kernel_rfl) (by kernel_rfl) (by kernel_rfl) (fun _ _ _ h => h) (Or.inl ⟨by rfl, ?_⟩) hH2 ?_
          · intro w hSw; go_simp
          simp only [Act.put, List.getElem_toArray, List.getElem_cons_zero, List.getElem_cons_succ, List.setIfInBounds_toArray, List.set_cons_zero, List.set_cons_succ]
          refine wpAnyH_take (i := 8) (oi := _) (v := .pointer (some ⟨wa.heap.size + 1, 0, none⟩)) rfl (by kernel_rfl) (by kernel_rfl) (by kernel_rfl) (fun _ _ _ h => h) (Or.inl ⟨by rfl, ?_⟩) hH2 ?_
          · intro w hSw; go_simp
          simp only [Act.put, List.getElem_toArray, List.getElem_cons_zero, List.getElem_cons_succ, List.setIfInBounds_toArray, List.set_cons_zero, List.set_cons_succ]
          refine wpAnyH_ready (rs := [7]) (by kernel_rfl) (by simp) (AllReadyH.cons (o := _) rfl (fun K hK => ?_) AllReadyH.nil)
          go_simp
          refine (low_any _ HUd.out).mono ?_
          rintro en w' ⟨rfl, rfl⟩
          refine hK.out _ _ ?_ (fun hH3 => ?_)
          · exact hH2
          clear hK K
          refine wpAnyH_ready (rs := [9]) (by kernel_rfl) (by simp) (AllReadyH.cons (o := _) rfl (fun K hK => ?_) AllReadyH.nil)
          go_simp
          refine (low_any _ HWd.out).mono ?_
          rintro en w' ⟨rfl, rfl⟩
          refine hK.out _ _ ?_ (fun hH4 => ?_)
          · exact hH3
          clear hK K
          refine wpAnyH_take (i := 10) (oi := _) (v := .bool false) rfl (by kernel_rfl) (by kernel_rfl) (by kernel_rfl) (fun _ _ _ h => h) (Or.inl ⟨by rfl, ?_⟩) hH4 ?_
          · intro w hSw; go_simp
          simp only [Act.put, List.getElem_toArray, List.getElem_cons_zero, List.getElem_cons_succ, List.setIfInBounds_toArray, List.set_cons_zero, List.set_cons_succ]
          refine wpAnyH_take (i := 11) (oi := _) (v := .bool false) rfl (by kernel_rfl) (by kernel_rfl) (by kernel_rfl) (fun _ _ _ h => h) (Or.inl ⟨by rfl, ?_⟩) hH4 ?_
          · intro w hSw; go_simp
          simp only [Act.put, List.getElem_toArray, List.getElem_cons_zero, List.getElem_cons_succ, List.setIfInBounds_toArray, List.set_cons_zero, List.set_cons_succ]
          refine wpAnyH_take (i := 12) (oi := _) (v := .bool false) rfl (by kernel_rfl) (by kernel_rfl) (by kernel_rfl) (fun _ _ _ h => h) (Or.inl ⟨by rfl, ?_⟩) hH4 ?_
          · intro w hSw; go_simp
          simp only [Act.put, List.getElem_toArray, List.getElem_cons_zero, List.getElem_cons_succ, List.setIfInBounds_toArray, List.set_cons_zero, List.set_cons_succ]
          refine wpAnyH_take (i := 13) (oi := _) (v := .int .u64 kn) rfl (by kernel_rfl) (by kernel_rfl) (by kernel_rfl) (fun _ _ _ h => h) (Or.inl ⟨by rfl, ?_⟩) hH4 ?_
          · intro w hSw; go_simp
          simp only [Act.put, List.getElem_toArray, List.getElem_cons_zero, List.getElem_cons_succ, List.setIfInBounds_toArray, List.set_cons_zero, List.set_cons_succ]
          refine wpAnyH_take (i := 14) (oi := _) (v := .bool true) rfl (by kernel_rfl) (by kernel_rfl) (by kernel_rfl) (fun _ _ _ h => h) (Or.inl ⟨by rfl, ?_⟩) hH4 ?_
          · intro w hSw; go_simp
          simp only [Act.put, List.getElem_toArray, List.getElem_cons_zero, List.getElem_cons_succ, List.setIfInBounds_toArray, List.set_cons_zero, List.set_cons_succ]
          refine wpAnyH_take (i := 15) (oi := _) (v := .bool true) rfl (by kernel_rfl) (by kernel_rfl) (by kernel_rfl) (fun _ _ _ h => h) (Or.inl ⟨by rfl, ?_⟩) hH4 ?_
          · intro w hSw; go_simp
          simp only [Act.put, List.getElem_toArray, List.getElem_cons_zero, List.getElem_cons_succ, List.setIfInBounds_toArray, List.set_cons_zero, List.set_cons_succ]
          refine wpAnyH_take (i := 16) (oi := _) (v := .pointer (some ⟨wr.heap.size, 1, none⟩)) rfl (by kernel_rfl) (by kernel_rfl) (by kernel_rfl) (fun _ _ _ h => h) (Or.inl ⟨by rfl, ?_⟩) hH4 ?_
          · intro w hSw; go_simp
          simp only [Act.put, List.getElem_toArray, List.getElem_cons_zero, List.getElem_cons_succ, List.setIfInBounds_toArray, List.set_cons_zero, List.set_cons_succ]
          refine wpAnyH_take (i := 17) (oi := _) (v := .int .i64 X[k].e) rfl (by kernel_rfl) (by kernel_rfl) (by kernel_rfl) (fun _ _ _ h => h) (Or.inl ⟨by rfl, ?_⟩) hH4 ?_
          · intro w hSw; go_simp
          simp only [Act.put, List.getElem_toArray, List.getElem_cons_zero, List.getElem_cons_succ, List.setIfInBounds_toArray, List.set_cons_zero, List.set_cons_succ]
          refine wpAnyH_take (i := 18) (oi := _) (v := .pointer (some ⟨wa.heap.size + 1, 0, none⟩)) rfl (by kernel_rfl) (by kernel_rfl) (by kernel_rfl) (fun _ _ _ h => h) (Or.inl ⟨by rfl, ?_⟩) hH4 ?_
          · intro w hSw; go_simp
          simp only [Act.put, List.getElem_toArray, List.getElem_cons_zero, List.getElem_cons_succ, List.setIfInBounds_toArray, List.set_cons_zero, List.set_cons_succ]
          refine wpAnyH_ready (rs := [19]) (by kernel_rfl) (by simp) (AllReadyH.cons (o := _) rfl (fun K hK => ?_) AllReadyH.nil)
          go_simp
          refine (epoch_any _ HWd.out).mono ?_
          rintro en w' ⟨rfl, rfl⟩
          refine hK.out _ _ ?_ (fun hH5 => ?_)
          · exact hH4
          clear hK K
          refine wpAnyH_take (i := 20) (oi := _) (v := .bool true) rfl (by kernel_rfl) (by kernel_rfl) (by kernel_rfl) (fun _ _ _ h => h) (Or.inl ⟨by rfl, ?_⟩) hH5 ?_
          · intro w hSw; go_simp
          simp only [Act.put, List.getElem_toArray, List.getElem_cons_zero, List.getElem_cons_succ, List.setIfInBounds_toArray, List.set_cons_zero, List.set_cons_succ]
          refine wpAnyH_take (i := 21) (oi := _) (v := .bool true) rfl (by kernel_rfl) (by kernel_rfl) (by kernel_rfl) (fun _ _ _ h => h) (Or.inl ⟨by rfl, ?_⟩) hH5 ?_
          · intro w hSw; go_simp
          simp only [Act.put, List.getElem_toArray, List.getElem_cons_zero, List.getElem_cons_succ, List.setIfInBounds_toArray, List.set_cons_zero, List.set_cons_succ]
          refine wpAnyH_take (i := 22) (oi := _) (v := .bool true) rfl (by kernel_rfl) (by kernel_rfl) (by kernel_rfl) (fun _ _ _ h => h) (Or.inl ⟨by rfl, ?_⟩) hH5 ?_
          · intro w hSw; go_simp
          simp only [Act.put, List.getElem_toArray, List.getElem_cons_zero, List.getElem_cons_succ, List.setIfInBounds_toArray, List.set_cons_zero, List.set_cons_succ]
          refine wpAnyH_take (i := 23) (oi := _) (v := .pointer (some ⟨bm + 1, 0, none⟩)) rfl (by kernel_rfl) (by kernel_rfl) (by kernel_rfl) (fun _ _ _ h => h) (Or.inl ⟨by rfl, ?_⟩) hH5 ?_
          · intro w hSw; go_simp
          simp only [Act.put, List.getElem_toArray, List.getElem_cons_zero, List.getElem_cons_succ, List.setIfInBounds_toArray, List.set_cons_zero, List.set_cons_succ]
          refine wpAnyH_take (i := 24) (oi := _) (v := .pointer (some ⟨wa.heap.size + 1, 0, none⟩)) rfl (by kernel_rfl) (by kernel_rfl) (by kernel_rfl) (fun _ _ _ h => h) (Or.inl ⟨by rfl, ?_⟩) hH5 ?_
          · intro w hSw; go_simp
          simp only [Act.put, List.getElem_toArray, List.getElem_cons_zero, List.getElem_cons_succ, List.setIfInBounds_toArray, List.set_cons_zero, List.set_cons_succ]
          refine wpAnyH_ready (rs := [25]) (by kernel_rfl) (by simp) (AllReadyH.cons (o := _) rfl (fun K hK => ?_) AllReadyH.nil)
          go_simp
          refine (usame_any _ HUd.out HWd.out (by have := HL4.out; omega) (by have := HL.out; omega)).mono ?_
          rintro en w9 ⟨rfl, hb9⟩
          rw [HSM.out]
          have HB9 := Lib.hid' (show Below w4.heap.size w4 w9 from (Below.drew (Below.refl _ _)).trans hb9)
          have z1 := (HB9.out.cell (p := ⟨wr.heap.size, 1, none⟩) hzx).trans x1
          clear hb9
          refine hK.out _ _ ?_ (fun hH6 => ?_)
          · exact z1
          clear hK K
          refine wpAnyH_take (i := 26) (oi := _) (v := .bool false) rfl (by kernel_rfl) (by kernel_rfl) (by kernel_rfl) (fun _ _ _ h => h) (Or.inl ⟨by rfl, ?_⟩) hH6 ?_
          · intro w hSw; go_simp
          simp only [Act.put, List.getElem_toArray, List.getElem_cons_zero, List.getElem_cons_succ, List.setIfInBounds_toArray, List.set_cons_zero, List.set_cons_succ]
          refine wpAnyH_take (i := 27) (oi := _) (v := .bool false) rfl (by kernel_rfl) (by kernel_rfl) (by kernel_rfl) (fun _ _ _ h => h) (Or.inl ⟨by rfl, ?_⟩) hH6 ?_
          · intro w hSw; go_simp
          simp only [Act.put, List.getElem_toArray, List.getElem_cons_zero, List.getElem_cons_succ, List.setIfInBounds_toArray, List.set_cons_zero, List.set_cons_succ]
          refine wpAnyH_take (i := 28) (oi := _) (v := .bool false) rfl (by kernel_rfl) (by kernel_rfl) (by kernel_rfl) (fun _ _ _ h => h) (Or.inl ⟨by rfl, ?_⟩) hH6 ?_
          · intro w hSw; go_simp
          simp only [Act.put, List.getElem_toArray, List.getElem_cons_zero, List.getElem_cons_succ, List.setIfInBounds_toArray, List.set_cons_zero, List.set_cons_succ]
          refine wpAnyH_done (by kernel_rfl) ?_ _
          go_wp2_with fail
          go_meet
          exact ⟨rfl, HB9.out⟩

    case rest =>
    obtain ⟨rfl, hbx⟩ := hcut
    have HUx := Lib.hid' (HU4.out.below (Nat.le_refl _) hbx)
    have HWx := Lib.hid' (HW4.out.below (Nat.le_refl _) hbx)
    have HBx := Lib.hid' (show Below W.heap.size W wc from HB4.out.trans (hbx.mono HB4.out.size))
    clear hbx HU4 HW4 HB4 HX4 x1 hzx HXlt
    go_wp2_with fail
    refine (entries_any _ HWx.out (by have := HL.out; omega)).mono ?_
    rintro en w5 ⟨E, ae, ce, rfl, hE, ho, hby, hb5⟩
    have HE := Lib.hid' hE
    have HO := Lib.hid' (show SlV w5 (.slice ae E.length ce) E.length (E.flatMap entV) from SlV.of_own ho)
    have HBY := Lib.hid' (show ∀ x ∈ E, Bytes w5 (.slice x.2.2.1 x.2.1.d.length x.2.2.2) x.2.1.d from fun x hx => SlV.of_own (hby x hx))
    have HU5 := Lib.hid' (HUx.out.below (Nat.le_refl _) hb5)
    have HB5 := Lib.hid' (show Below W.heap.size W w5 from HBx.out.trans (hb5.mono HBx.out.size))
    have hEl : E.length ≤ 9223372036854775807 := by obtain ⟨_, _, he, h1, h2, _⟩ := HO.out; cases he; unfold maxLen at h2; omega
    clear hE ho hb5 hby HUx HBx
    go_wp2_with fail
    obtain ⟨wo, rfl⟩ : ∃ wo : World, wo = wr := ⟨_, rfl⟩
    go_loopw [73] (fun v73 wr => ∃ j : Nat, v73 = .int .i64 j ∧ j ≤ E.length ∧ Below w5.heap.size w5 wr) (fun v73 _ => E.length - (intOf v73).toNat)
    case atStart => exact ⟨0, rfl, Nat.zero_le _, Below.refl _ _⟩
    case round =>
      obtain ⟨j, rfl, hj, hbj⟩ := hrel
      have HBj := Lib.hid' hbj
      clear hbj
      by_cases hltj : j < E.length
      rotate_left
      · go_wp2_with fail
        go_roundw
        case rel => exact ⟨k + 1, by go_num, by omega, ⟨u, HL4.out, HU5.out.below (Nat.le_refl _) HBj.out⟩, HB5.out.trans (HBj.out.mono HB5.out.size)⟩
        case measure => simp [intOf]; omega
      obtain ⟨b2, off2, rfl, hb2, hc2⟩ := SlV.row (s := 3) (fun _ => rfl) (by decide) (SlV.below HO.out (Nat.le_refl _) HBj.out) hltj
      have d0 := hc2 0 _ rfl; have d1 := hc2 1 _ rfl; have d2 := hc2 2 _ rfl
      simp only [Nat.add_zero] at d0
      have HEj := Lib.hid' (HBY.out _ (List.getElem_mem hltj))
      have HMj := Lib.hid' (ents_mem HU.out.ok HE.out hltj)
      clear hc2
      generalize E[j] = ej at *
      obtain ⟨ja, jc, jad, jcap⟩ := ej
      simp only at HEj HMj
      go_upto_region 19 with fail
      have HBy := Lib.hid' (show Below wr.heap.size wr (wr.alloc (.cells #[.int .i64 ja, .int .i64 jc.k, .slice jad jc.d.length jcap] 102)) by go_grown)
      have HY := Lib.hid' (show BoxW wr.heap.size [.int .i64 ja, .int .i64 jc.k, .slice jad jc.d.length jcap] 102 (wr.alloc (.cells #[.int .i64 ja, .int .i64 jc.k, .slice jad jc.d.length jcap] 102)) from BoxW.start wr [.int .i64 ja, .int .i64 jc.k, .slice jad jc.d.length jcap] 102)
      generalize wr.alloc (.cells #[.int .i64 ja, .int .i64 jc.k, .slice jad jc.d.length jcap] 102) = wy at *
      clear d0 d1 d2 hb2
      have HUy := Lib.hid' ((HU5.out.below (Nat.le_refl _) HBj.out).below (Nat.le_refl _) HBy.out)
      have HUd := Lib.hid' (HUy.out.below (Nat.le_refl _) (Below.drew (Below.refl _ _)))
      have HR := Lib.hid' (show u.read u.e ja = (0, u.at ja) from once_read (u' := u) HU.out.ok HMj.out)
      have y0 := HY.out.box.1 0 _ rfl
      have hzy := HY.out.lt
      go_cut [10, 11] (fun v10 v11 wc => v11 = .nilIface ∧ ∃ B ra rcap, v10 = .pointer (some ⟨B, 0, none⟩) ∧ BoxW B [.int .i64 (u.at ja).k, .slice ra (u.at ja).d.length rcap] 62 wc ∧ Bytes wc (.slice ra (u.at ja).d.length rcap) (u.at ja).d ∧ Below wy.heap.size wy wc)
      case first =>
        refine wp_region_held_drew (S := (fun w' => w'.cell? ⟨wr.heap.size, 0, none⟩ = some (.int .i64 ja))) (by kernel_rfl) (by simpa using y0) (fun hH0 => ?_)
        refine wpAnyH_take (i := 0) (oi := _) (v := .pointer (some ⟨bm + 1, 0, none⟩)) rfl (by kernel_rfl) (by kernel_rfl) (by kernel_rfl) (fun _ _ _ h => h) (Or.inl ⟨by rfl, ?_⟩) hH0 ?_
        · intro w hSw; go_simp
        simp only [Act.put, List.getElem_toArray, List.getElem_cons_zero, List.getElem_cons_succ, List.setIfInBounds_toArray, List.set_cons_zero, List.set_cons_succ]
        refine wpAnyH_take (i := 1) (oi := _) (v := .pointer (some ⟨bm + 1, 0, none⟩)) rfl (by kernel_rfl) (by kernel_rfl) (by kernel_rfl) (fun _ _ _ h => h) (Or.inl ⟨by rfl, ?_⟩) hH0 ?_
        · intro w hSw; go_simp
        simp only [Act.put, List.getElem_toArray, List.getElem_cons_zero, List.getElem_cons_succ, List.setIfInBounds_toArray, List.set_cons_zero, List.set_cons_succ]
        refine wpAnyH_take (i := 3) (oi := _) (v := .pointer (some ⟨wr.heap.size, 0, none⟩)) rfl (by kernel_rfl) (by kernel_rfl) (by kernel_rfl) (fun _ _ _ h => h) (Or.inl ⟨by rfl, ?_⟩) hH0 ?_
        · intro w hSw; go_simp
        simp only [Act.put, List.getElem_toArray, List.getElem_cons_zero, List.getElem_cons_succ, List.setIfInBounds_toArray, List.set_cons_zero, List.set_cons_succ]
        refine wpAnyH_take (i := 4) (oi := _) (v := .int .i64 ja) rfl (by kernel_rfl) (by kernel_rfl) (by kernel_rfl) (fun _ _ _ h => h) (Or.inl ⟨by rfl, ?_⟩) hH0 ?_
        · intro w hSw; go_simp
        simp only [Act.put, List.getElem_toArray, List.getElem_cons_zero, List.getElem_cons_succ, List.setIfInBounds_toArray, List.set_cons_zero, List.set_cons_succ]
        refine wpAnyH_ready (rs := [2, 9]) (by kernel_rfl) (by simp) (AllReadyH.cons (o := _) rfl (fun K hK => ?_) (AllReadyH.cons (o := _) rfl (fun K hK => ?_) AllReadyH.nil))
        · skip
          go_simp
          refine (epoch_any _ (HUy.out.below (Nat.le_refl _) (by go_grown))).mono ?_
          rintro en w' ⟨rfl, rfl⟩
          refine hK.out _ _ ?_ (fun hH1 => ?_)
          · exact hH0
          clear hK K
          refine wpAnyH_ready (rs := [5, 9]) (by kernel_rfl) (by simp) (AllReadyH.cons (o := _) rfl (fun K hK => ?_) (AllReadyH.cons (o := _) rfl (fun K hK => ?_) AllReadyH.nil))
          · skip
            go_simp
            refine (read_any _ _ _ (HUy.out.below (Nat.le_refl _) (by go_grown))).mono ?_
            rintro en w6 ⟨ra, rcap, rfl, ho6, hb6⟩
            rw [HR.out] at ho6 ⊢
            rw [errV_0]
            have HB6 := Lib.hid' (show Below wy.heap.size wy w6 from below_call (B := wy.heap.size) (w := wy) (by go_grown) (by go_size) hb6)
            have HO6 := Lib.hid' ho6
            have z0 := (HB6.out.cell (p := ⟨wr.heap.size, 0, none⟩) hzy).trans y0
            have hz6 : wr.heap.size < w6.heap.size := by have := HB6.out.size; omega
            clear hb6 ho6
            refine hK.out _ _ ?_ (fun hH2 => ?_)
            · exact z0
            clear hK K
            refine wpAnyH_take (i := 6) (oi := _) (v := .tuple #[.agg #[.int .i64 (u.at ja).k, .slice ra (u.at ja).d.length rcap], .nilIface]) rfl (by kernel_rfl) (by kernel_rfl) (by kernel_rfl) (fun _ _ _ h => h) (Or.inl ⟨by rfl, ?_⟩) hH2 ?_
            · intro w hSw; go_simp
            simp only [Act.put, List.getElem_toArray, List.getElem_cons_zero, List.getElem_cons_succ, List.setIfInBounds_toArray, List.set_cons_zero, List.set_cons_succ]
            refine wpAnyH_take (i := 7) (oi := _) (v := .agg #[.int .i64 (u.at ja).k, .slice ra (u.at ja).d.length rcap]) rfl (by kernel_rfl) (by kernel_rfl) (by kernel_rfl) (fun _ _ _ h => h) (Or.inl ⟨by rfl, ?_⟩) hH2 ?_
            · intro w hSw; go_simp
            simp only [Act.put, List.getElem_toArray, List.getElem_cons_zero, List.getElem_cons_succ, List.setIfInBounds_toArray, List.set_cons_zero, List.set_cons_succ]
            refine wpAnyH_take (i := 8) (oi := _) (v := .nilIface) rfl (by kernel_rfl) (by kernel_rfl) (by kernel_rfl) (fun _ _ _ h => h) (Or.inl ⟨by rfl, ?_⟩) hH2 ?_
            · intro w hSw; go_simp
            simp only [Act.put, List.getElem_toArray, List.getElem_cons_zero, List.getElem_cons_succ, List.setIfInBounds_toArray, List.set_cons_zero, List.set_cons_succ]
            refine wpAnyH_ready (rs := [9]) (by kernel_rfl) (by simp) (AllReadyH.cons (o := _) rfl (fun K hK => ?_) AllReadyH.nil)
            go_simp
            refine hK.out _ _ ?_ (fun hH3 => ?_)
            · simp [go_sem, z0, hz6]
            clear hK K
            refine wpAnyH_ready (rs := [10]) (by kernel_rfl) (by simp) (AllReadyH.cons (o := _) rfl (fun K hK => ?_) AllReadyH.nil)
            go_simp
            refine hK.out _ _ ?_ (fun hH4 => ?_)
            · simp [go_sem, z0, hz6]
            clear hK K
            refine wpAnyH_take (i := 11) (oi := _) (v := .nilIface) rfl (by kernel_rfl) (by kernel_rfl) (by kernel_rfl) (fun _ _ _ h => h) (Or.inl ⟨by rfl, ?_⟩) hH4 ?_
            · intro w hSw; go_simp
            simp only [Act.put, List.getElem_toArray, List.getElem_cons_zero, List.getElem_cons_succ, List.setIfInBounds_toArray, List.set_cons_zero, List.set_cons_succ]
            refine wpAnyH_done (by kernel_rfl) ?_ _
            go_wp2_with fail
            go_meet
            refine ⟨rfl, w6.heap.size, ra, rcap, rfl, BoxW.start w6 [.int .i64 (u.at ja).k, .slice ra (u.at ja).d.length rcap] _, SlV.below (SlV.of_own HO6.out) (Nat.le_refl _) (by go_grown), HB6.out.trans ((show Below w6.heap.size w6 _ by go_grown).mono HB6.out.size)⟩
          · skip
            go_simp
            have HBX := Lib.hid' (BoxW.start wy [.int .i64 0, .slice none 0 0] 62)
            refine hK.out _ _ ?_ (fun hH2 => ?_)
            · simp [go_sem, y0, hzy]
            clear hK K
            refine wpAnyH_ready (rs := [5]) (by kernel_rfl) (by simp) (AllReadyH.cons (o := _) rfl (fun K hK => ?_) AllReadyH.nil)
            go_simp
            refine (read_any _ _ _ (HUy.out.below (Nat.le_refl _) (by go_grown))).mono ?_
            rintro en w6 ⟨ra, rcap, rfl, ho6, hb6⟩
            rw [HR.out] at ho6 ⊢
            rw [errV_0]
            have HB6 := Lib.hid' (show Below wy.heap.size wy w6 from below_call (B := wy.heap.size) (w := wy) (by go_grown) (by go_size) hb6)
            have HO6 := Lib.hid' ho6
            have z0 := (HB6.out.cell (p := ⟨wr.heap.size, 0, none⟩) hzy).trans y0
            have hz6 : wr.heap.size < w6.heap.size := by have := HB6.out.size; omega
            have HBX6 := Lib.hid' (show BoxW wy.heap.size [.int .i64 0, .slice none 0 0] 62 w6 from (hb6.block _ (by simp)).trans HBX.out)
            have b60 := HBX6.out.box.1 0 _ rfl; have b61 := HBX6.out.box.1 1 _ rfl
            have bf0 := HBX6.out.box.2.1 0; have bf1 := HBX6.out.box.2.1 1
            have bl := HBX6.out.lt
            clear hb6 ho6
            refine hK.out _ _ ?_ (fun hH3 => ?_)
            · exact z0
            clear hK K
            refine wpAnyH_take (i := 6) (oi := _) (v := .tuple #[.agg #[.int .i64 (u.at ja).k, .slice ra (u.at ja).d.length rcap], .nilIface]) rfl (by kernel_rfl) (by kernel_rfl) (by kernel_rfl) (fun _ _ _ h => h) (Or.inl ⟨by rfl, ?_⟩) hH3 ?_
            · intro w hSw; go_simp
            simp only [Act.put, List.getElem_toArray, List.getElem_cons_zero, List.getElem_cons_succ, List.setIfInBounds_toArray, List.set_cons_zero, List.set_cons_succ]
            refine wpAnyH_take (i := 7) (oi := _) (v := .agg #[.int .i64 (u.at ja).k, .slice ra (u.at ja).d.length rcap]) rfl (by kernel_rfl) (by kernel_rfl) (by kernel_rfl) (fun _ _ _ h => h) (Or.inl ⟨by rfl, ?_⟩) hH3 ?_
            · intro w hSw; go_simp
            simp only [Act.put, List.getElem_toArray, List.getElem_cons_zero, List.getElem_cons_succ, List.setIfInBounds_toArray, List.set_cons_zero, List.set_cons_succ]
            refine wpAnyH_take (i := 8) (oi := _) (v := .nilIface) rfl (by kernel_rfl) (by kernel_rfl) (by kernel_rfl) (fun _ _ _ h => h) (Or.inl ⟨by rfl, ?_⟩) hH3 ?_
            · intro w hSw; go_simp
            simp only [Act.put, List.getElem_toArray, List.getElem_cons_zero, List.getElem_cons_succ, List.setIfInBounds_toArray, List.set_cons_zero, List.set_cons_succ]
            refine wpAnyH_ready (rs := [10]) (by kernel_rfl) (by simp) (AllReadyH.cons (o := _) rfl (fun K hK => ?_) AllReadyH.nil)
            go_simp
            refine hK.out _ _ ?_ (fun hH4 => ?_)
            · (rw [World.cell?_setCell_other _ _ _ _ (by simp <;> omega), World.cell?_setCell_other _ _ _ _ (by simp <;> omega)]; exact z0)
            clear hK K
            refine wpAnyH_take (i := 11) (oi := _) (v := .nilIface) rfl (by kernel_rfl) (by kernel_rfl) (by kernel_rfl) (fun _ _ _ h => h) (Or.inl ⟨by rfl, ?_⟩) hH4 ?_
            · intro w hSw; go_simp
            simp only [Act.put, List.getElem_toArray, List.getElem_cons_zero, List.getElem_cons_succ, List.setIfInBounds_toArray, List.set_cons_zero, List.set_cons_succ]
            refine wpAnyH_done (by kernel_rfl) ?_ _
            go_wp2_with fail
            go_meet
            refine ⟨rfl, wy.heap.size, ra, rcap, rfl, HBX6.out.set2, ?_, ?_⟩
            · exact SlV.fr (SlV.of_own HO6.out) ((fr_set _ _ _ _).trans (fr_set _ _ _ _) (fun i hi => .inl hi)) (own_slin HO6.out (fun b hb => by have := own_blk HO6.out hb; simp at this; omega))
            · exact Below.setCell (Below.setCell HB6.out (Nat.le_refl _) _) (Nat.le_refl _) _
        · skip
          go_simp
          have HBX := Lib.hid' (BoxW.start wy [.int .i64 0, .slice none 0 0] 62)
          refine hK.out _ _ ?_ (fun hH1 => ?_)
          · simp [go_sem, y0, hzy]
          clear hK K
          refine wpAnyH_ready (rs := [2]) (by kernel_rfl) (by simp) (AllReadyH.cons (o := _) rfl (fun K hK => ?_) AllReadyH.nil)
          go_simp
          refine (epoch_any _ (HUy.out.below (Nat.le_refl _) (by go_grown))).mono ?_
          rintro en w' ⟨rfl, rfl⟩
          refine hK.out _ _ ?_ (fun hH2 => ?_)
          · exact hH1
          clear hK K
          refine wpAnyH_ready (rs := [5]) (by kernel_rfl) (by simp) (AllReadyH.cons (o := _) rfl (fun K hK => ?_) AllReadyH.nil)
          go_simp
          refine (read_any _ _ _ (HUy.out.below (Nat.le_refl _) (by go_grown))).mono ?_
          rintro en w6 ⟨ra, rcap, rfl, ho6, hb6⟩
          rw [HR.out] at ho6 ⊢
          rw [errV_0]
          have HB6 := Lib.hid' (show Below wy.heap.size wy w6 from below_call (B := wy.heap.size) (w := wy) (by go_grown) (by go_size) hb6)
          have HO6 := Lib.hid' ho6
          have z0 := (HB6.out.cell (p := ⟨wr.heap.size, 0, none⟩) hzy).trans y0
          have hz6 : wr.heap.size < w6.heap.size := by have := HB6.out.size; omega
          have HBX6 := Lib.hid' (show BoxW wy.heap.size [.int .i64 0, .slice none 0 0] 62 w6 from (hb6.block _ (by simp)).trans HBX.out)
          have b60 := HBX6.out.box.1 0 _ rfl; have b61 := HBX6.out.box.1 1 _ rfl
          have bf0 := HBX6.out.box.2.1 0; have bf1 := HBX6.out.box.2.1 1
          have bl := HBX6.out.lt
          clear hb6 ho6
          refine hK.out _ _ ?_ (fun hH3 => ?_)
          · exact z0
          clear hK K
          refine wpAnyH_take (i := 6) (oi := _) (v := .tuple #[.agg #[.int .i64 (u.at ja).k, .slice ra (u.at ja).d.length rcap], .nilIface]) rfl (by kernel_rfl) (by kernel_rfl) (by kernel_rfl) (fun _ _ _ h => h) (Or.inl ⟨by rfl, ?_⟩) hH3 ?_
          · intro w hSw; go_simp
          simp only [Act.put, List.getElem_toArray, List.getElem_cons_zero, List.getElem_cons_succ, List.setIfInBounds_toArray, List.set_cons_zero, List.set_cons_succ]
          refine wpAnyH_take (i := 7) (oi := _) (v := .agg #[.int .i64 (u.at ja).k, .slice ra (u.at ja).d.length rcap]) rfl (by kernel_rfl) (by kernel_rfl) (by kernel_rfl) (fun _ _ _ h => h) (Or.inl ⟨by rfl, ?_⟩) hH3 ?_
          · intro w hSw; go_simp
          simp only [Act.put, List.getElem_toArray, List.getElem_cons_zero, List.getElem_cons_succ, List.setIfInBounds_toArray, List.set_cons_zero, List.set_cons_succ]
          refine wpAnyH_take (i := 8) (oi := _) (v := .nilIface) rfl (by kernel_rfl) (by kernel_rfl) (by kernel_rfl) (fun _ _ _ h => h) (Or.inl ⟨by rfl, ?_⟩) hH3 ?_
          · intro w hSw; go_simp
          simp only [Act.put, List.getElem_toArray, List.getElem_cons_zero, List.getElem_cons_succ, List.setIfInBounds_toArray, List.set_cons_zero, List.set_cons_succ]
          refine wpAnyH_ready (rs := [10]) (by kernel_rfl) (by simp) (AllReadyH.cons (o := _) rfl (fun K hK => ?_) AllReadyH.nil)
          go_simp
          refine hK.out _ _ ?_ (fun hH4 => ?_)
          · (rw [World.cell?_setCell_other _ _ _ _ (by simp <;> omega), World.cell?_setCell_other _ _ _ _ (by simp <;> omega)]; exact z0)
          clear hK K
          refine wpAnyH_take (i := 11) (oi := _) (v := .nilIface) rfl (by kernel_rfl) (by kernel_rfl) (by kernel_rfl) (fun _ _ _ h => h) (Or.inl ⟨by rfl, ?_⟩) hH4 ?_
          · intro w hSw; go_simp
          simp only [Act.put, List.getElem_toArray, List.getElem_cons_zero, List.getElem_cons_succ, List.setIfInBounds_toArray, List.set_cons_zero, List.set_cons_succ]
          refine wpAnyH_done (by kernel_rfl) ?_ _
          go_wp2_with fail
          go_meet
          refine ⟨rfl, wy.heap.size, ra, rcap, rfl, HBX6.out.set2, ?_, ?_⟩
          · exact SlV.fr (SlV.of_own HO6.out) ((fr_set _ _ _ _).trans (fr_set _ _ _ _) (fun i hi => .inl hi)) (own_slin HO6.out (fun b hb => by have := own_blk HO6.out hb; simp at this; omega))
          · exact Below.setCell (Below.setCell HB6.out (Nat.le_refl _) _) (Nat.le_refl _) _
      case rest =>
      obtain ⟨rfl, B, ra, rcap, rfl, hbx, hby, hbw⟩ := hcut
      have HYc := Lib.hid' (HY.out.below (Nat.le_refl _) hbw)
      have HBc := Lib.hid' hbx
      have HRc := Lib.hid' hby
      have HB5c := Lib.hid' (show Below w5.heap.size w5 wc from (HBj.out.trans (HBy.out.mono HBj.out.size)).trans (hbw.mono (Nat.le_trans HBj.out.size HBy.out.size)))
      have HEc := Lib.hid' (SlV.below HEj.out (Nat.le_refl _) HB5c.out)
      clear hbx hby hbw y0 hzy HUy HUd HR
      have y0 := HYc.out.box.1 0 _ rfl; have y1 := HYc.out.box.1 1 _ rfl; have y2 := HYc.out.box.1 2 _ rfl
      have r0 := HBc.out.box.1 0 _ rfl; have r1 := HBc.out.box.1 1 _ rfl
      cases hk6 : (kn != 6)
      · go_wp2_with fail
        go_roundw
        case rel => exact ⟨j + 1, by go_num, by omega, HB5c.out⟩
        case measure => simp [intOf]; omega
      · have HMAY := Lib.hid' (show C.may jc (u.at ja) = true from HOn.out.may (by simpa using hk6) _ HMj.out)
        go_wp2_with fail
        refine (may_any _ _ jc (u.at ja) _ ⟨_, _, rfl, HEc.out⟩ ⟨_, _, rfl, HRc.out⟩).mono ?_
        rintro en w8 ⟨rfl, hb8⟩
        have HB8 := Lib.hid' (HB5c.out.trans (hb8.mono HB5c.out.size))
        rw [HMAY.out]
        clear hb8
        go_wp2_with fail
        go_roundw
        case rel => exact ⟨j + 1, by go_num, by omega, HB8.out⟩
        case measure => simp [intOf]; omega
end Go.Proofs.Ythjigopnlgngdaa
