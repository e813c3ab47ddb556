/- UnitTails: the tail is behind the last cell, or the low mark, and nothing is cut from there on. -/
import Derived.Test.YtpgcaigoploncaaUPlays
namespace Go.Proofs.Ytpgcaigoploncaa
open Go.RowKit
set_option linter.unusedSimpArgs false
set_option linter.unusedVariables false
set_option maxRecDepth 20000

def uNil : U := ⟨0, 0, []⟩
theorem do_tails (x : ActX) (u : U) (bu bm : Nat) (w : World)
    (hu : UnitAt (fun k => k = bu ∨ k = bm) w bu bm u) (hd : Bytes w (.slice x.da x.d.length x.dc) x.d) (hdl : x.d.length ≤ 300) (huc : u.cells.length ≤ 1000000) :
    Calls Try.prog 21 #[.pointer (some ⟨bu, 0, none⟩), .agg #[.int .i64 0, .int .i64 0, .slice none 0 0], .agg #[.int .i64 x.k, .int .i64 x.e, .int .i64 x.a, .slice x.da x.d.length x.dc]] w
      (fun en w' => ∃ v b, en = .returned (.tuple #[v, .bool b]) ∧ UnitAt (fun k => k = bu ∨ k = bm) w' bu bm (uS (kindN x.k) u x.e x.a x.d).1 ∧ Fr (fun k => k = bu ∨ k = bm) w w') := by
  refine (do_any x.k x.e x.a x.d x.da x.dc uNil u none 0 bu bm w hu (SlV.empty _ _ _ (Nat.zero_le _) (fun _ => rfl)) hd hdl (by simp [uNil]) (by simp [uNil]) huc).mono ?_
  rintro en w' ⟨ma', mc', rfl, h1, h2, h3⟩
  exact ⟨_, _, rfl, h2, h3⟩

/-- the address behind the last one of entries that rise -/
def wantE (m : Int) (E : List Ent) : Int := match E.getLast? with | none => m | some x => x.1 + 1
theorem wantE_tail {u : U} (h : u.ok) {E : List Ent} (hE : E.map noAd = sortC u.cells) : wantE u.l E = u.tail := by
  rw [← rTail_doc h]
  unfold wantE U.rTail
  simp only
  rw [← hE, List.getLast?_map]
  cases E.getLast? <;> rfl
theorem wantE_take (m : Int) (E : List Ent) (k : Nat) (hk : k < E.length) : wantE m (E.take (k + 1)) = E[k].1 + 1 := by
  unfold wantE
  rw [List.take_succ_eq_append_getElem hk, List.getLast?_concat]

theorem cut_tail {u : U} (h : u.ok) : u.cut u.e u.tail = (0, 0, u) := by
  have h0 := tail_ge (L := u.cells) (m := u.l)
  have h1 := tail_bound h.l1 (fun p hp => (h.addr p hp).2)
  have hl0 := h.l0
  have hc : u.cur u.e = 0 := by simp [U.cur]
  have hin : inR u.tail 1048576 = true := by unfold inR; simp; exact ⟨by unfold U.tail; omega, h1⟩
  have hf : u.cells.filter (fun p => !decide (u.tail ≤ p.1)) = u.cells := by
    rw [List.filter_eq_self]
    intro p hp
    have : p.1 + 1 ≤ u.tail := by
      obtain ⟨pre, post, he⟩ := List.append_of_mem hp
      unfold U.tail
      rw [he, tail_pick]
      exact Int.le_trans (by unfold tailF; omega) tail_ge
    simp; omega
  unfold U.cut U.asks
  rw [hin]
  simp only [if_true, hc]
  rw [if_neg (by simp), if_neg (by unfold U.tail; omega), hf]
  simp
theorem tailOf_self (u : U) : u.tailOf u.e = (0, u.tail) := by
  simp [U.tailOf, U.asks, U.cur]

structure TailsAt (W : World) (bm : Nat) (k : Nat) (wr : World) : Prop where
  at' : ∃ u : U, u.cells.length ≤ k ∧ UnitAt (fun q => q = bm + 1 ∨ q = bm) wr (bm + 1) bm u
  below : Below W.heap.size W wr

theorem ents_addr {u : U} (h : u.ok) {E : List Ent} (hE : E.map noAd = sortC u.cells) {k : Nat} (hk : k < E.length) : 0 ≤ E[k].1 ∧ E[k].1 < 1048576 := by
  have hm : noAd E[k] ∈ sortC u.cells := by rw [← hE]; exact List.mem_map.2 ⟨_, List.getElem_mem hk, rfl⟩
  have h1 := h.addr _ ((sortC_mem _ h.nodup _).1 hm)
  have h2 := h.l0
  simp only [noAd] at h1
  omega

set_option maxHeartbeats 4000000 in
theorem unitTails_any (X : List ActX) (a : Option Addr) (c : Nat) (W : World) (h : ScriptAt W (.slice a X.length c) X) :
    Calls Try.prog 5 #[.slice a X.length c] W fun e w' => e = .returned (.bool true) ∧ Below W.heap.size W w' := by
  have HS := Lib.hid' h
  have hlen : X.length ≤ 9223372036854775807 := by obtain ⟨_, _, he, h1, h2, _⟩ := h.1; cases he; unfold maxLen at h2; omega
  clear h
  by_cases hx : 60 < X.length
  · go_enter Try.func5, Try.ntmps5
    go_wp2_with (go_at_call 19; refine (alive8_any _).mono ?_; rintro e w1 ⟨rfl, hb1⟩)
    go_ret
    exact ⟨rfl, hb1⟩
  · have hxd : decide ((60 : Int) < (X.length : Int)) = false := by simp; omega
    go_enter Try.func5, Try.ntmps5
    go_wp2_with fail
    refine (alive8_any _).mono ?_
    rintro e w1 ⟨rfl, hb1⟩
    have HB1 := Lib.hid' hb1
    clear hb1
    go_wp2_with fail
    refine (new_any _).mono ?_
    rintro e w2 ⟨rfl, hb2, hs2, hu2⟩
    have HP := Lib.hid' (show TailsAt W w1.heap.size 0 w2 from ⟨⟨U.new, Nat.le_refl _, hu2 _ (.inr rfl) (.inl rfl)⟩, HB1.out.trans (hb2.mono HB1.out.size)⟩)
    have HN := Lib.hid' HB1.out.size
    clear hu2 hb2 hs2 HB1
    go_wp2_with fail
    generalize w1.heap.size = bm at *
    go_loopw [21] (fun v21 wr => ∃ k : Nat, v21 = .int .i64 k ∧ k ≤ X.length ∧ TailsAt W bm k wr) (fun v21 _ => X.length - (intOf v21).toNat)
    case atStart => exact ⟨0, rfl, Nat.zero_le _, HP.out⟩
    case round =>
      obtain ⟨k, rfl, hk, hp⟩ := hrel
      have HPk := Lib.hid' hp
      clear hp HP
      by_cases hlt : k < X.length
      · obtain ⟨u0, hl, hu⟩ := HPk.out.at'
        obtain ⟨hsl, hby⟩ := HS.out.below (Nat.le_refl _) HPk.out.below
        obtain ⟨b, off, rfl, hb, hc⟩ := SlV.row (s := 4) (fun _ => rfl) (by decide) hsl hlt
        have c0 := hc 0 _ rfl; have c1 := hc 1 _ rfl; have c2 := hc 2 _ rfl; have c3 := hc 3 _ rfl
        simp only [Nat.add_zero] at c0
        by_cases hd : 300 < X[k].d.length
        · go_wp2_with fail
          go_ret
          exact ⟨rfl, HPk.out.below.trans ((show Below wr.heap.size wr _ by go_grown).mono HPk.out.below.size)⟩
        · have HU := Lib.hid' hu
          have HD := Lib.hid' (hby _ (List.getElem_mem hlt))
          have HL := Lib.hid' hl
          clear hu hby hl hsl hc
          go_wp2_with fail
          have HBa := Lib.hid' (show Below wr.heap.size wr (wr.alloc (.cells #[.int .i64 X[k].k, .int .i64 X[k].e, .int .i64 X[k].a, .slice X[k].da X[k].d.length X[k].dc] 47)) by go_grown)
          generalize wr.alloc (.cells #[.int .i64 X[k].k, .int .i64 X[k].e, .int .i64 X[k].a, .slice X[k].da X[k].d.length X[k].dc] 47) = wa at *
          clear c0 c1 c2 c3
          refine (do_tails X[k] u0 (bm + 1) bm wa (HU.out.below (Nat.le_refl _) HBa.out) (SlV.below HD.out (Nat.le_refl _) HBa.out) (by omega) (by have := HL.out; omega)).mono ?_
          rintro en w4 ⟨v4, b4, rfl, hu4, hf4⟩
          have HL4 := Lib.hid' (Nat.le_trans (uS_len u0 (kindN X[k].k) X[k].e X[k].a X[k].d) (Nat.succ_le_succ HL.out))
          have hbs := HN.out
          have HB4 := Lib.hid' (show Below W.heap.size W w4 from (HPk.out.below.trans (HBa.out.mono HPk.out.below.size)).trans (hf4.below (Nat.le_trans HPk.out.below.size HBa.out.size) (by omega)))
          have HU4 := Lib.hid' hu4
          clear hu4 hf4 HL HU HD HBa hbs
          generalize (uS (kindN X[k].k) u0 X[k].e X[k].a X[k].d).1 = u at *
          go_wp2_with fail
          refine (low_any _ HU4.out).mono ?_
          rintro en w' ⟨rfl, rfl⟩
          go_wp2_with fail
          refine (entries_any _ HU4.out (by have := HL4.out; omega)).mono ?_
          rintro en w5 ⟨E, ae, ce, rfl, hE, ho, _, hb5⟩
          have HE := Lib.hid' hE
          have HO := Lib.hid' (show SlV w5 (.slice ae E.length ce) E.length (E.flatMap entV) from SlV.of_own ho)
          have HB5 := Lib.hid' hb5
          have hEl : E.length ≤ 9223372036854775807 := by obtain ⟨_, _, he, h1, h2, _⟩ := HO.out; cases he; unfold maxLen at h2; omega
          clear hE ho hb5
          go_wp2_with fail
          obtain ⟨wo, rfl⟩ : ∃ wo : World, wo = wr := ⟨_, rfl⟩
          go_loopw [41, 6] (fun v41 v6 wr => ∃ j : Nat, v41 = .int .i64 j ∧ j ≤ E.length ∧ v6 = .int .i64 (wantE u.l (E.take j)) ∧ Below w5.heap.size w5 wr) (fun v41 _ _ => E.length - (intOf v41).toNat)
          case atStart => exact ⟨0, rfl, Nat.zero_le _, by simp [wantE], Below.refl _ _⟩
          case round =>
            obtain ⟨j, rfl, hj, rfl, hbj⟩ := hrel
            have HBj := Lib.hid' hbj
            clear hbj
            by_cases hltj : j < E.length
            · obtain ⟨b2, off2, rfl, hb2, hc2⟩ := SlV.row (s := 3) (fun _ => rfl) (by decide) (SlV.below HO.out (Nat.le_refl _) HBj.out) hltj
              have d0 := hc2 0 _ rfl; have d1 := hc2 1 _ rfl; have d2 := hc2 2 _ rfl
              simp only [Nat.add_zero] at d0
              have had := ents_addr HU4.out.ok HE.out hltj
              have HT := Lib.hid' (wantE_take u.l E j hltj)
              clear hc2
              go_wp2_with fail
              go_roundw
              case rel => exact ⟨j + 1, by go_num, by omega, by rw [HT.out], HBj.out.trans ((show Below wr.heap.size wr _ by go_grown).mono HBj.out.size)⟩
              case measure => simp [intOf]; omega
            · have HW := Lib.hid' (show wantE u.l (E.take j) = u.tail by rw [List.take_of_length_le (by omega)]; exact wantE_tail HU4.out.ok HE.out)
              rw [HW.out]
              have HUr := Lib.hid' ((HU4.out.below (Nat.le_refl _) HB5.out).below (Nat.le_refl _) HBj.out)
              go_wp2_with fail
              refine (epoch_any _ HUr.out).mono ?_
              rintro en w' ⟨rfl, rfl⟩
              go_wp2_with fail
              refine (Tail_any _ _ HUr.out).mono ?_
              rintro en w6 ⟨rfl, hb6⟩
              have HB6 := Lib.hid' hb6
              clear hb6
              rw [tailOf_self, errV_0]
              have HU6 := Lib.hid' (HUr.out.below (Nat.le_refl _) HB6.out)
              go_wp2_with fail
              refine (epoch_any _ HU6.out).mono ?_
              rintro en w' ⟨rfl, rfl⟩
              go_wp2_with fail
              have hbm := HU6.out.lt
              refine (cut_any _ _ _ HU6.out (by omega) (by have := HL4.out; omega)).mono ?_
              rintro en w7 ⟨rfl, hu7, hf7⟩
              rw [cut_tail HU6.out.ok] at hu7
              have HBw := Lib.hid' (show Below W.heap.size W wr from (HB4.out.trans (HB5.out.mono HB4.out.size)).trans (HBj.out.mono (Nat.le_trans HB4.out.size HB5.out.size)))
              have HBz := Lib.hid' (show Below W.heap.size W w6 from HBw.out.trans (HB6.out.mono HBw.out.size))
              have HT7 := Lib.hid' (show TailsAt W bm (k + 1) w7 from ⟨⟨u, HL4.out, hu7⟩, HBz.out.trans (hf7.below HBz.out.size (by have := HN.out; omega))⟩)
              rw [cut_tail HU6.out.ok, errV_0]
              clear hu7 hf7 hbm
              go_wp2_with fail
              go_roundw
              case rel => exact ⟨k + 1, by go_num, by omega, HT7.out⟩
              case measure => simp [intOf]; omega
      · go_wp2_with fail
        go_ret
        exact ⟨rfl, HPk.out.below⟩
end Go.Proofs.Ytpgcaigoploncaa
