/- The statement RecordApplies: its walk. -/
import Derived.Test.YtkljeefncopodaaGreatRBack
import Derived.Test.YtkljeefncopodaaGreatRecP
import Derived.Test.YtkljeefncopodaaGreatRefPu
import Derived.Test.YtkljeefncopodaaGreatDocU
import Derived.Test.YtkljeefncopodaaGreatDoM
namespace Go.Proofs.YtkljeefncopodaaGreat
open Go.RowKit
set_option linter.unusedSimpArgs false
set_option linter.unusedVariables false
set_option maxRecDepth 100000

/-- an act in memory -/
abbrev AcS := Ac × Option Addr × Nat
def acV (x : AcS) : List Value := [.int .i64 x.1.k, .int .i64 x.1.e, .int .i64 x.1.a, .slice x.2.1 x.1.d.length x.2.2]
def ActsAt (w : World) (v : Value) (X : List AcS) : Prop := SlV w v X.length (X.flatMap acV) ∧ ∀ x ∈ X, Bytes w (.slice x.2.1 x.1.d.length x.2.2) x.1.d
theorem ActsAt.below {w w' : World} {v : Value} {X : List AcS} (h : ActsAt w v X) {B : Nat} (hB : w.heap.size ≤ B) (hb : Below B w w') : ActsAt w' v X :=
  ⟨SlV.below h.1 hB hb, fun x hx => SlV.below (h.2 x hx) hB hb⟩
theorem BoxW.unit9 {A : Nat → Prop} {N t : Nat} {R : List Value} {w w' : World} {bu bm : Nat} {u : U} (h : BoxW N R t w) (hR : ∀ b, byteV b ∉ R) (hu : UnitAt A w bu bm u) (hf : Fr (fun k => k = N) w w') (h1 : bu ≠ N) (h2 : bm ≠ N) : UnitAt A w' bu bm u := by
  obtain ⟨L, hm, hr⟩ := hu.map
  refine ⟨(hf.block _ hu.lt.1 h1).trans hu.blk, ⟨L, hm.block (hf.block _ hu.lt.2 h2), hr.mono ?_⟩, hu.ok, hu.abu, hu.abm⟩
  rintro p q _ _ ⟨e1, a, cap, e2, e3, e4⟩
  exact ⟨e1, a, cap, e2, h.bytes hR e3 hf, fun x hx => ⟨(e4 x hx).1, Nat.lt_of_lt_of_le (e4 x hx).2 hf.size⟩⟩
def mV (m : U) (ma : Option Addr) (mc : Nat) : List Value := [.int .i64 m.e, .int .i64 m.l, .slice ma m.cells.length mc]
/-- what holds at the head of a round -/
structure ApAt (W : World) (N bu bm k : Nat) (wr : World) : Prop where
  at' : ∃ (u m : U) (ma : Option Addr) (mc : Nat), m = u.doc ∧ u.cells.length ≤ k ∧ UnitAt (fun q => q = bu ∨ q = bm) wr bu bm u ∧ BoxW N (mV m ma mc) 54 wr ∧ RList wr (.slice ma m.cells.length mc) m.cells
  below : Below W.heap.size W wr
theorem ap_store {W w7 : World} {N bu bm T : Nat} {m m' u' : U} {ma ma' : Option Addr} {mc mc' : Nat} {A : Nat → Prop} (hN : BoxW N (mV m ma mc) T w7) (hu : UnitAt A w7 bu bm u') (hr : RList w7 (.slice ma' m'.cells.length mc') m'.cells) (hb : Below W.heap.size W w7) (n1 : bu ≠ N) (n2 : bm ≠ N) (hNW : W.heap.size ≤ N) :
    BoxW N (mV m' ma' mc') T (((w7.setCell ⟨N, 0, none⟩ (.int .i64 m'.e)).setCell ⟨N, 1, none⟩ (.int .i64 m'.l)).setCell ⟨N, 2, none⟩ (.slice ma' m'.cells.length mc')) ∧
    UnitAt A (((w7.setCell ⟨N, 0, none⟩ (.int .i64 m'.e)).setCell ⟨N, 1, none⟩ (.int .i64 m'.l)).setCell ⟨N, 2, none⟩ (.slice ma' m'.cells.length mc')) bu bm u' ∧
    RList (((w7.setCell ⟨N, 0, none⟩ (.int .i64 m'.e)).setCell ⟨N, 1, none⟩ (.int .i64 m'.l)).setCell ⟨N, 2, none⟩ (.slice ma' m'.cells.length mc')) (.slice ma' m'.cells.length mc') m'.cells ∧
    Below W.heap.size W (((w7.setCell ⟨N, 0, none⟩ (.int .i64 m'.e)).setCell ⟨N, 1, none⟩ (.int .i64 m'.l)).setCell ⟨N, 2, none⟩ (.slice ma' m'.cells.length mc')) :=
  ⟨BoxW.set3 hN, hN.unit9 (by intro b hb; simp [mV, byteV] at hb) hu (fr3 _ _ _) n1 n2, hN.rlist (by intro b hb; simp [mV] at hb) hr (fr3 _ _ _), ((hb.setCell (by simpa using hNW) _).setCell (by simpa using hNW) _).setCell (by simpa using hNW) _⟩
theorem doc_all {A : Nat → Prop} {bu bm : Nat} {u : U} (w : World) (h : UnitAt A w bu bm u) (hlen : u.cells.length ≤ 1048576) :
    Calls Tryz.prog 23 #[.pointer (some ⟨bu, 0, none⟩)] w fun en w' => ∃ a c, en = .returned (ruV u.doc a c) ∧ RList w' (.slice a u.doc.cells.length c) u.doc.cells ∧ Below w.heap.size w w' := by
  have hl : u.doc.cells.length = u.cells.length := sortC_len _
  refine (doc_any w h hlen).mono ?_
  rintro en w' ⟨a, c, rfl, ho, hb⟩
  refine ⟨a, c, by unfold ruV; rw [hl]; rfl, ?_, hb⟩
  rw [hl]
  unfold RList
  rw [hl]
  exact SlV.of_own ho
theorem rSame_self (u : U) : u.rSame u = true := by simp [U.rSame]
theorem ok_of {u : U} (h : u.ok) : ofErr u.e u.l (sortC u.cells) = 0 := by
  refine of_right h.e0 h.e1 h.l0 h.l1 ⟨fun p hp => ?_, sortC_rise _ h.nodup⟩ ?_
  · have hp' := (sortC_mem _ h.nodup p).1 hp
    have h1 := h.addr p hp'
    obtain ⟨h2, h3⟩ := h.kind p hp'
    refine ⟨h1.1, h1.2, ?_⟩
    obtain ⟨a, k, d⟩ := p
    simp only at h2 h3 ⊢
    rcases h2 with rfl | ⟨rfl, rfl⟩
    · exact check_mk (by decide) (by decide) h3 (fun h => absurd rfl h)
    · exact check_mk (by decide) (by decide) h3 (fun _ => rfl)
  · rw [Bool.not_eq_true, List.any_eq_false]
    intro p hp
    obtain ⟨h2, _⟩ := h.kind p ((sortC_mem _ h.nodup p).1 hp)
    obtain ⟨a, k, d⟩ := p
    simp only [noneE] at h2 ⊢
    rcases h2 with rfl | ⟨rfl, rfl⟩ <;> decide
theorem doc_ok {u : U} (h : u.ok) : ∀ p ∈ u.doc.cells, 0 ≤ p.1 ∧ p.1 < 1048576 := fun p hp => by
  have h1 := h.addr p ((sortC_mem _ h.nodup p).1 hp)
  have h2 := h.l0
  omega
theorem doc_nil (e l : Int) : U.doc ⟨e, l, []⟩ = ⟨e, l, []⟩ := by simp [U.doc, sortC, sortA]
set_option maxHeartbeats 40000000 in
theorem recordApplies_any (e l : Int) (X : List AcS) (a : Option Addr) (c : Nat) (W : World) (h : ActsAt W (.slice a X.length c) X) :
    Calls Tryz.prog 6 #[.int .i64 e, .int .i64 l, .slice a X.length c] W fun en w' => en = .returned (.bool true) ∧ Below W.heap.size W w' := by
  have HS := Lib.hid' h
  have hlen : X.length ≤ 9223372036854775807 := by obtain ⟨_, _, he, h1, h2, _⟩ := h.1; cases he; unfold maxLen at h2; omega
  clear h
  go_enter Tryz.func6, Tryz.ntmps6
  go_wp2_with fail
  refine (alive9_any _).mono ?_
  rintro en w1 ⟨rfl, hb1⟩
  have HB1 := Lib.hid' hb1
  clear hb1
  by_cases hx : 60 < X.length
  · have hxd : (60 : Int) < (X.length : Int) := by omega
    go_wp2
    go_ret
    exact ⟨rfl, HB1.out⟩
  have hxd : ¬ (60 : Int) < (X.length : Int) := by omega
  go_wp2_with fail
  refine (rputu_nil _).mono ?_
  rintro en wz ⟨rfl, rfl⟩
  go_wp2_with fail
  refine (is_any 4 4 _).mono ?_
  rintro en wz ⟨rfl, rfl⟩
  go_wp2_with fail
  have HEL := Lib.hid' (show EL w1 none 0 [] from ⟨SlV.empty _ _ _ (Nat.zero_le _) (fun _ => rfl), by simp⟩)
  by_cases h0 : ofErr e l [] = 0
  rotate_left
  · refine (of_bad e l [] none 0 w1 HEL.out h0).mono ?_
    rintro en w2 ⟨rfl, hb2⟩
    have HB2 := Lib.hid' (HB1.out.trans (hb2.mono HB1.out.size))
    clear hb2
    rw [show docE ([] : List Ent) = [] from rfl]
    have HCK := Lib.hid' (fun wq => rcheckU_any e l [] none 0 wq (SlV.empty _ _ _ (Nat.zero_le _) (fun _ => rfl)) (by simp))
    generalize ofErr e l [] = n at *
    have h0b : (n != 0) = true := by simpa using h0
    have h0c : ((n : Int) != 0) = true := by rw [bne_iff_ne]; omega
    clear h0
    go_wp2_with fail
    refine (HCK.out _).mono ?_
    rintro en w3 ⟨rfl, hb3⟩
    have HB3 := Lib.hid' ((HB2.out.alloc HB2.out.size (.cells #[.int .i64 e, .int .i64 l, .slice none 0 0] 54)).trans (hb3.mono (Nat.le_trans HB2.out.size (by simp))))
    clear hb3
    go_wp2
    go_ret
    exact ⟨ret_eq (by first | rfl | rw [h0b]), HB3.out⟩
  refine (of_good e l [] none 0 w1 HEL.out h0).mono ?_
  rintro en w2 ⟨bu, bm, rfl, g1, g2, hu, hb2⟩
  have HUE := Lib.hid' (show UnitAt (fun q => q = bu ∨ q = bm) w2 bu bm ⟨e, l, []⟩ from hu)
  have HB2 := Lib.hid' (HB1.out.trans (hb2.mono HB1.out.size))
  have HNE := Lib.hid' (show bu < w2.heap.size ∧ bm < w2.heap.size ∧ W.heap.size ≤ bu ∧ W.heap.size ≤ bm from ⟨hu.lt.1, hu.lt.2, Nat.le_trans HB1.out.size g1, Nat.le_trans HB1.out.size g2⟩)
  clear hu hb2 g1 g2
  have HCK := Lib.hid' (fun wq => rcheckU_any e l [] none 0 wq (SlV.empty _ _ _ (Nat.zero_le _) (fun _ => rfl)) (by simp))
  rw [h0] at HCK
  clear h0
  go_wp2_with fail
  have HP0 := Lib.hid' (show ApAt W w2.heap.size bu bm 0 (w2.alloc (.cells #[.int .i64 e, .int .i64 l, .slice none 0 0] 54)) from
    ⟨⟨⟨e, l, []⟩, ⟨e, l, []⟩, none, 0, (doc_nil e l).symm, Nat.le_refl _, HUE.out.below (Nat.le_refl _) (by go_grown), BoxW.start w2 _ _, SlV.empty _ _ _ (Nat.zero_le _) (fun _ => rfl)⟩, HB2.out.alloc HB2.out.size _⟩)
  clear HUE HB2
  generalize w2.alloc (.cells #[.int .i64 e, .int .i64 l, .slice none 0 0] 54) = w3 at *
  generalize w2.heap.size = N at *
  refine (HCK.out _).mono ?_
  clear HCK
  rintro en w4 ⟨rfl, hb4⟩
  have HP := Lib.hid' (show ApAt W N bu bm 0 w4 from by
    obtain ⟨⟨u, m, ma, mc, h1, h2, h3, h4, h5⟩, h6⟩ := HP0.out
    exact ⟨⟨u, m, ma, mc, h1, h2, h3.below (Nat.le_refl _) hb4, h4.below (Nat.le_refl _) hb4, SlV.below h5 (Nat.le_refl _) hb4⟩, h6.trans (hb4.mono h6.size)⟩)
  clear hb4 HP0
  go_wp2_with fail
  go_loopw [57] (fun v57 wr => ∃ k : Nat, v57 = .int .i64 k ∧ k ≤ X.length ∧ Hid (ApAt W N bu bm k wr)) (fun v57 _ => X.length - (intOf v57).toNat)
  case atStart => exact ⟨0, rfl, Nat.zero_le _, HP⟩
  case round =>
    clear HP
    obtain ⟨k, rfl, hk, HP⟩ := hrel
    obtain ⟨u, m, ma, mc, hm, hl, hu, hbox, hr⟩ := HP.out.at'
    have HBW := Lib.hid' HP.out.below
    clear HP
    obtain ⟨ne1, ne2, ne3, ne4⟩ := HNE.out
    have HM := Lib.hid' hm
    have HL := Lib.hid' hl
    have HU := Lib.hid' hu
    have HBX := Lib.hid' hbox
    have HR := Lib.hid' hr
    have hml : m.cells.length ≤ 60 := by rw [hm]; have : u.doc.cells.length = u.cells.length := sortC_len _; omega
    have hul : u.cells.length ≤ 60 := by omega
    have m0 := hbox.box.1 0 _ rfl; have m1 := hbox.box.1 1 _ rfl; have m2 := hbox.box.1 2 _ rfl
    have hns := hbox.lt
    clear hm hl hu hbox hr
    by_cases hlt : k < X.length
    · obtain ⟨hsl, hby⟩ := HS.out.below (Nat.le_refl _) HBW.out
      obtain ⟨b, off, rfl, hb, hc⟩ := SlV.row (s := 4) (fun _ => rfl) (by decide) hsl hlt
      have c0 := hc 0 _ rfl; have c1 := hc 1 _ rfl; have c2 := hc 2 _ rfl; have c3 := hc 3 _ rfl
      simp only [Nat.add_zero] at c0
      have HD := Lib.hid' (hby _ (List.getElem_mem hlt))
      clear hsl hby hc
      generalize X[k] = y at *
      obtain ⟨x, da, dc⟩ := y
      simp only at c0 c1 c2 c3 HD
      have hdl := bytes_len HD.out
      by_cases hd : 100 < x.d.length
      · have hdd : (100 : Int) < (x.d.length : Int) := by omega
        go_wp2_with fail
        go_ret
        exact ⟨rfl, HBW.out.trans ((show Below wr.heap.size wr _ by go_grown).mono HBW.out.size)⟩
      have hdd : ¬ (100 : Int) < (x.d.length : Int) := by omega
      have hd2 : x.d.length ≤ 100 := by omega
      clear hd
      have HOK := Lib.hid' HU.out.ok
      have hra := fun wq hq ha hb => rapply_any (A := fun q => q = bu ∨ q = bm) (bu := bu) (bm := bm) (u := u) x da dc wq hq ha (by omega) hb
      have har := ap_same HU.out.ok x
      have hal := apU_len u x
      have hao := apU_ok HU.out.ok x
      obtain ⟨y, hy⟩ : ∃ y, y = apU u x := ⟨_, rfl⟩
      rw [← hy] at hra har hal hao
      clear hy
      obtain ⟨yn, yt, yu⟩ := y
      rw [← HM.out] at har
      obtain ⟨m', hm'⟩ : ∃ m', m' = yu.doc := ⟨_, rfl⟩
      simp only at hra har hal hao
      rw [← hm'] at har
      have HRA := Lib.hid' hra
      have HAR := Lib.hid' har
      have HAO := Lib.hid' hao
      have HM' := Lib.hid' hm'
      have HAL := Lib.hid' (Nat.le_trans hal (Nat.succ_le_succ HL.out))
      clear hra har hal hao hm' HL
      go_wp2_with fail
      have HBa := Lib.hid' (show Below wr.heap.size wr (wr.alloc (.cells #[.int .i64 x.k, .int .i64 x.e, .int .i64 x.a, .slice da x.d.length dc] 41)) by go_grown)
      have HAX := Lib.hid' (BoxW.start wr [.int .i64 x.k, .int .i64 x.e, .int .i64 x.a, .slice da x.d.length dc] 41)
      generalize wr.alloc (.cells #[.int .i64 x.k, .int .i64 x.e, .int .i64 x.a, .slice da x.d.length dc] 41) = wa at *
      have HUa := Lib.hid' (HU.out.below (Nat.le_refl _) HBa.out)
      have HDa := Lib.hid' (show Bytes wa (.slice da x.d.length dc) x.d from SlV.below HD.out (Nat.le_refl _) HBa.out)
      have HRa := Lib.hid' (show RList wa (.slice ma m.cells.length mc) m.cells from SlV.below HR.out (Nat.le_refl _) HBa.out)
      have HNa := Lib.hid' (HBX.out.below (Nat.le_refl _) HBa.out)
      have HBWa := Lib.hid' (HBW.out.trans (HBa.out.mono HBW.out.size))
      have hwa := HBa.out.size
      clear c0 c1 c2 c3 m0 m1 m2 HU HD HR HBX HBa HBW
      refine (HRA.out wa HUa.out (by rintro q (rfl | rfl) <;> omega) HDa.out).mono ?_
      clear HRA
      rintro en w4 ⟨rfl, hu4, hf4⟩
      have HU4 := Lib.hid' hu4
      have HD4 := Lib.hid' (HUa.out.bytes HDa.out hf4)
      have HR4 := Lib.hid' (HUa.out.rlist HRa.out hf4)
      have HN4 := Lib.hid' (HNa.out.fr hf4 (by omega))
      have HA4 := Lib.hid' (HAX.out.fr hf4 (by omega))
      have HB4 := Lib.hid' (HBWa.out.trans (hf4.below (B := W.heap.size) HBWa.out.size (by rintro q (rfl | rfl) <;> assumption)))
      clear hu4 hf4 HUa HDa HRa HNa HAX HBWa
      go_upto_region 19 with fail
      go_cut [17, 18, 19] (fun v17 v18 v19 wc => ∃ (g : Nat) (ma' : Option Addr) (mc' : Nat), v17 = .int .i64 yt ∧ v18 = .pointer (some ⟨g, 0, none⟩) ∧ v19 = .int .i64 (yn : Int) ∧ w4.heap.size ≤ g ∧ Hid (BoxW g [.int .i64 m'.e, .int .i64 m'.l, .slice ma' m'.cells.length mc'] 54 wc) ∧ Hid (RList wc (.slice ma' m'.cells.length mc') m'.cells) ∧ Hid (Below w4.heap.size w4 wc))
      case first =>
        have HB0 : Below w4.heap.size w4 w4.drew := Below.drew (Below.refl _ w4)
        refine wp_region_held_drew (S := (fun w' => BoxW N (mV m ma mc) 54 w' ∧ BoxW wr.heap.size [.int .i64 x.k, .int .i64 x.e, .int .i64 x.a, .slice da x.d.length dc] 41 w')) (by kernel_rfl) ⟨HN4.out, HA4.out⟩ (fun hH0 => ?_)
        refine wpAnyH_take (i := 0) (oi := _) (v := .agg #[.int .i64 m.e, .int .i64 m.l, .slice ma m.cells.length mc]) rfl (by kernel_rfl) (by kernel_rfl) (by kernel_rfl) (fun _ _ _ h => h) (Or.inl ⟨by rfl, ?_⟩) hH0 ?_
        · intro w hSw; obtain ⟨hp, hq⟩ := hSw; have q0 := hp.box.1 0 _ rfl; have q1 := hp.box.1 1 _ rfl; have q2 := hp.box.1 2 _ rfl; go_simp
        simp only [Act.put, List.getElem_toArray, List.getElem_cons_zero, List.getElem_cons_succ, List.setIfInBounds_toArray, List.set_cons_zero, List.set_cons_succ]
        refine wpAnyH_take (i := 1) (oi := _) (v := .agg #[.int .i64 x.k, .int .i64 x.e, .int .i64 x.a, .slice da x.d.length dc]) rfl (by kernel_rfl) (by kernel_rfl) (by kernel_rfl) (fun _ _ _ h => h) (Or.inl ⟨by rfl, ?_⟩) hH0 ?_
        · intro w hSw; obtain ⟨hp, hq⟩ := hSw; have q0 := hq.box.1 0 _ rfl; have q1 := hq.box.1 1 _ rfl; have q2 := hq.box.1 2 _ rfl; have q3 := hq.box.1 3 _ rfl; go_simp
        simp only [Act.put, List.getElem_toArray, List.getElem_cons_zero, List.getElem_cons_succ, List.setIfInBounds_toArray, List.set_cons_zero, List.set_cons_succ]
        refine wpAnyH_ready (rs := [2, 8]) (by kernel_rfl) (by simp) (AllReadyH.cons (o := _) rfl (fun K hK => ?_) (AllReadyH.cons (o := _) rfl (fun K hK => ?_) AllReadyH.nil))
        · skip
          go_simp
          refine (doc9_any x da dc _ (SlV.below HD4.out (Nat.le_refl _) HB0)).mono ?_
          rintro en wq1 ⟨rfl, hbq⟩
          have HBq1 : Below w4.heap.size w4 wq1 := HB0.trans (hbq.mono HB0.size)
          clear hbq
          refine hK.out _ _ ?_ (fun hH1 => ?_)
          · exact ⟨HN4.out.below (Nat.le_refl _) HBq1, HA4.out.below (Nat.le_refl _) HBq1⟩
          clear hK K
          refine wpAnyH_ready (rs := [3, 8]) (by kernel_rfl) (by simp) (AllReadyH.cons (o := _) rfl (fun K hK => ?_) (AllReadyH.cons (o := _) rfl (fun K hK => ?_) AllReadyH.nil))
          · skip
            go_simp
            have h9 := rapply09_any m ma mc x wq1 (SlV.below HR4.out (Nat.le_refl _) HBq1) (by omega) (by rw [HM.out]; exact doc_ok HOK.out) (by omega)
            rw [HAR.out] at h9
            simp only at h9
            refine h9.mono ?_
            clear h9
            rintro en wq2 ⟨ma', mc', rfl, hrq, hbq⟩
            unfold ruV
            have HBq2 : Below w4.heap.size w4 wq2 := HBq1.trans (hbq.mono HBq1.size)
            clear hbq
            refine hK.out _ _ ?_ (fun hH2 => ?_)
            · exact ⟨HN4.out.below (Nat.le_refl _) HBq2, HA4.out.below (Nat.le_refl _) HBq2⟩
            clear hK K
            refine wpAnyH_take (i := 4) (oi := _) (v := .tuple #[.int .i64 yt, .agg #[.int .i64 m'.e, .int .i64 m'.l, .slice ma' m'.cells.length mc'], .int .i64 (yn : Nat)]) rfl (by kernel_rfl) (by kernel_rfl) (by kernel_rfl) (fun _ _ _ h => h) (Or.inl ⟨by rfl, ?_⟩) hH2 ?_
            · intro w hSw; go_simp
            simp only [Act.put, List.getElem_toArray, List.getElem_cons_zero, List.getElem_cons_succ, List.setIfInBounds_toArray, List.set_cons_zero, List.set_cons_succ]
            refine wpAnyH_take (i := 5) (oi := _) (v := .int .i64 yt) rfl (by kernel_rfl) (by kernel_rfl) (by kernel_rfl) (fun _ _ _ h => h) (Or.inl ⟨by rfl, ?_⟩) hH2 ?_
            · intro w hSw; go_simp
            simp only [Act.put, List.getElem_toArray, List.getElem_cons_zero, List.getElem_cons_succ, List.setIfInBounds_toArray, List.set_cons_zero, List.set_cons_succ]
            refine wpAnyH_take (i := 6) (oi := _) (v := .agg #[.int .i64 m'.e, .int .i64 m'.l, .slice ma' m'.cells.length mc']) rfl (by kernel_rfl) (by kernel_rfl) (by kernel_rfl) (fun _ _ _ h => h) (Or.inl ⟨by rfl, ?_⟩) hH2 ?_
            · intro w hSw; go_simp
            simp only [Act.put, List.getElem_toArray, List.getElem_cons_zero, List.getElem_cons_succ, List.setIfInBounds_toArray, List.set_cons_zero, List.set_cons_succ]
            refine wpAnyH_take (i := 7) (oi := _) (v := .int .i64 (yn : Nat)) rfl (by kernel_rfl) (by kernel_rfl) (by kernel_rfl) (fun _ _ _ h => h) (Or.inl ⟨by rfl, ?_⟩) hH2 ?_
            · intro w hSw; go_simp
            simp only [Act.put, List.getElem_toArray, List.getElem_cons_zero, List.getElem_cons_succ, List.setIfInBounds_toArray, List.set_cons_zero, List.set_cons_succ]
            refine wpAnyH_ready (rs := [8]) (by kernel_rfl) (by simp) (AllReadyH.cons (o := _) rfl (fun K hK => ?_) AllReadyH.nil)
            go_simp
            have HBq3 : Below w4.heap.size w4 (wq2.alloc (.cells #[.int .i64 0, .int .i64 0, .slice none 0 0] 54)) := HBq2.alloc HBq2.size _
            have HGq3 : BoxW wq2.heap.size [.int .i64 0, .int .i64 0, .slice none 0 0] 54 (wq2.alloc (.cells #[.int .i64 0, .int .i64 0, .slice none 0 0] 54)) := BoxW.start wq2 [.int .i64 0, .int .i64 0, .slice none 0 0] 54
            have hgq : w4.heap.size ≤ wq2.heap.size := HBq2.size
            have hrq2 : RList (wq2.alloc (.cells #[.int .i64 0, .int .i64 0, .slice none 0 0] 54)) (.slice ma' m'.cells.length mc') m'.cells := SlV.below hrq (Nat.le_refl _) (by go_grown)
            refine hK.out _ _ ?_ (fun hH3 => ?_)
            · exact ⟨HN4.out.below (Nat.le_refl _) HBq3, HA4.out.below (Nat.le_refl _) HBq3⟩
            clear hK K
            refine wpAnyH_take (i := 9) (oi := _) (v := .int .i64 yt) rfl (by kernel_rfl) (by kernel_rfl) (by kernel_rfl) (fun _ _ _ h => h) (Or.inl ⟨by rfl, ?_⟩) hH3 ?_
            · intro w hSw; go_simp
            simp only [Act.put, List.getElem_toArray, List.getElem_cons_zero, List.getElem_cons_succ, List.setIfInBounds_toArray, List.set_cons_zero, List.set_cons_succ]
            refine wpAnyH_ready (rs := [10]) (by kernel_rfl) (by simp) (AllReadyH.cons (o := _) rfl (fun K hK => ?_) AllReadyH.nil)
            go_simp
            have HGs := BoxW.start wq2 [.int .i64 m'.e, .int .i64 m'.l, .slice ma' m'.cells.length mc'] 54
            have HBs : Below w4.heap.size w4 (wq2.alloc (.cells #[.int .i64 m'.e, .int .i64 m'.l, .slice ma' m'.cells.length mc'] 54)) := HBq2.alloc HBq2.size _
            have HRs : RList (wq2.alloc (.cells #[.int .i64 m'.e, .int .i64 m'.l, .slice ma' m'.cells.length mc'] 54)) (.slice ma' m'.cells.length mc') m'.cells := SlV.below hrq (Nat.le_refl _) (by go_grown)
            refine hK.out _ _ ?_ (fun hH4 => ?_)
            · exact ⟨HN4.out.below (Nat.le_refl _) HBs, HA4.out.below (Nat.le_refl _) HBs⟩
            clear hK K
            refine wpAnyH_take (i := 11) (oi := _) (v := .int .i64 (yn : Nat)) rfl (by kernel_rfl) (by kernel_rfl) (by kernel_rfl) (fun _ _ _ h => h) (Or.inl ⟨by rfl, ?_⟩) hH4 ?_
            · intro w hSw; go_simp
            simp only [Act.put, List.getElem_toArray, List.getElem_cons_zero, List.getElem_cons_succ, List.setIfInBounds_toArray, List.set_cons_zero, List.set_cons_succ]
            refine wpAnyH_done (by kernel_rfl) ?_ _
            go_wp2_with fail
            go_meet
            exact ⟨_, ma', mc', rfl, rfl, rfl, hgq, Lib.hid' HGs, Lib.hid' HRs, Lib.hid' HBs⟩
          · skip
            go_simp
            have HBq2 : Below w4.heap.size w4 (wq1.alloc (.cells #[.int .i64 0, .int .i64 0, .slice none 0 0] 54)) := HBq1.alloc HBq1.size _
            have HGq2 : BoxW wq1.heap.size [.int .i64 0, .int .i64 0, .slice none 0 0] 54 (wq1.alloc (.cells #[.int .i64 0, .int .i64 0, .slice none 0 0] 54)) := BoxW.start wq1 [.int .i64 0, .int .i64 0, .slice none 0 0] 54
            have hgq : w4.heap.size ≤ wq1.heap.size := HBq1.size
            refine hK.out _ _ ?_ (fun hH2 => ?_)
            · exact ⟨HN4.out.below (Nat.le_refl _) HBq2, HA4.out.below (Nat.le_refl _) HBq2⟩
            clear hK K
            refine wpAnyH_ready (rs := [3]) (by kernel_rfl) (by simp) (AllReadyH.cons (o := _) rfl (fun K hK => ?_) AllReadyH.nil)
            go_simp
            have h9 := rapply09_any m ma mc x (wq1.alloc (.cells #[.int .i64 0, .int .i64 0, .slice none 0 0] 54)) (SlV.below HR4.out (Nat.le_refl _) HBq2) (by omega) (by rw [HM.out]; exact doc_ok HOK.out) (by omega)
            rw [HAR.out] at h9
            simp only at h9
            refine h9.mono ?_
            clear h9
            rintro en wq3 ⟨ma', mc', rfl, hrq, hbq⟩
            unfold ruV
            have HBq3 : Below w4.heap.size w4 wq3 := HBq2.trans (hbq.mono HBq2.size)
            have HGq3 := HGq2.below (Nat.le_refl _) hbq
            clear hbq
            refine hK.out _ _ ?_ (fun hH3 => ?_)
            · exact ⟨HN4.out.below (Nat.le_refl _) HBq3, HA4.out.below (Nat.le_refl _) HBq3⟩
            clear hK K
            refine wpAnyH_take (i := 4) (oi := _) (v := .tuple #[.int .i64 yt, .agg #[.int .i64 m'.e, .int .i64 m'.l, .slice ma' m'.cells.length mc'], .int .i64 (yn : Nat)]) rfl (by kernel_rfl) (by kernel_rfl) (by kernel_rfl) (fun _ _ _ h => h) (Or.inl ⟨by rfl, ?_⟩) hH3 ?_
            · intro w hSw; go_simp
            simp only [Act.put, List.getElem_toArray, List.getElem_cons_zero, List.getElem_cons_succ, List.setIfInBounds_toArray, List.set_cons_zero, List.set_cons_succ]
            refine wpAnyH_take (i := 5) (oi := _) (v := .int .i64 yt) rfl (by kernel_rfl) (by kernel_rfl) (by kernel_rfl) (fun _ _ _ h => h) (Or.inl ⟨by rfl, ?_⟩) hH3 ?_
            · intro w hSw; go_simp
            simp only [Act.put, List.getElem_toArray, List.getElem_cons_zero, List.getElem_cons_succ, List.setIfInBounds_toArray, List.set_cons_zero, List.set_cons_succ]
            refine wpAnyH_take (i := 6) (oi := _) (v := .agg #[.int .i64 m'.e, .int .i64 m'.l, .slice ma' m'.cells.length mc']) rfl (by kernel_rfl) (by kernel_rfl) (by kernel_rfl) (fun _ _ _ h => h) (Or.inl ⟨by rfl, ?_⟩) hH3 ?_
            · intro w hSw; go_simp
            simp only [Act.put, List.getElem_toArray, List.getElem_cons_zero, List.getElem_cons_succ, List.setIfInBounds_toArray, List.set_cons_zero, List.set_cons_succ]
            refine wpAnyH_take (i := 7) (oi := _) (v := .int .i64 (yn : Nat)) rfl (by kernel_rfl) (by kernel_rfl) (by kernel_rfl) (fun _ _ _ h => h) (Or.inl ⟨by rfl, ?_⟩) hH3 ?_
            · intro w hSw; go_simp
            simp only [Act.put, List.getElem_toArray, List.getElem_cons_zero, List.getElem_cons_succ, List.setIfInBounds_toArray, List.set_cons_zero, List.set_cons_succ]
            refine wpAnyH_take (i := 9) (oi := _) (v := .int .i64 yt) rfl (by kernel_rfl) (by kernel_rfl) (by kernel_rfl) (fun _ _ _ h => h) (Or.inl ⟨by rfl, ?_⟩) hH3 ?_
            · intro w hSw; go_simp
            simp only [Act.put, List.getElem_toArray, List.getElem_cons_zero, List.getElem_cons_succ, List.setIfInBounds_toArray, List.set_cons_zero, List.set_cons_succ]
            refine wpAnyH_ready (rs := [10]) (by kernel_rfl) (by simp) (AllReadyH.cons (o := _) rfl (fun K hK => ?_) AllReadyH.nil)
            have z0 := HGq3.box.1 0 _ rfl; have z1 := HGq3.box.1 1 _ rfl; have z2 := HGq3.box.1 2 _ rfl
            have y0 := HGq3.box.2.1 0; have y1 := HGq3.box.2.1 1; have y2 := HGq3.box.2.1 2
            have hzl := HGq3.lt
            go_simp
            have HGs := BoxW.set3 (a' := .int .i64 m'.e) (b' := .int .i64 m'.l) (c' := .slice ma' m'.cells.length mc') HGq3
            have HRs := HGq3.rlist (by intro b hb; simp at hb) hrq (fr3 (.int .i64 m'.e) (.int .i64 m'.l) (.slice ma' m'.cells.length mc'))
            have HBs := ((HBq3.setCell (p := ⟨wq1.heap.size, 0, none⟩) hgq (.int .i64 m'.e)).setCell (p := ⟨wq1.heap.size, 1, none⟩) hgq (.int .i64 m'.l)).setCell (p := ⟨wq1.heap.size, 2, none⟩) hgq (.slice ma' m'.cells.length mc')
            refine hK.out _ _ ?_ (fun hH4 => ?_)
            · exact ⟨HN4.out.below (Nat.le_refl _) HBs, HA4.out.below (Nat.le_refl _) HBs⟩
            clear hK K
            refine wpAnyH_take (i := 11) (oi := _) (v := .int .i64 (yn : Nat)) rfl (by kernel_rfl) (by kernel_rfl) (by kernel_rfl) (fun _ _ _ h => h) (Or.inl ⟨by rfl, ?_⟩) hH4 ?_
            · intro w hSw; go_simp
            simp only [Act.put, List.getElem_toArray, List.getElem_cons_zero, List.getElem_cons_succ, List.setIfInBounds_toArray, List.set_cons_zero, List.set_cons_succ]
            refine wpAnyH_done (by kernel_rfl) ?_ _
            go_wp2_with fail
            go_meet
            exact ⟨_, ma', mc', rfl, rfl, rfl, hgq, Lib.hid' HGs, Lib.hid' HRs, Lib.hid' HBs⟩
        · skip
          go_simp
          have HBq1 : Below w4.heap.size w4 (w4.drew.alloc (.cells #[.int .i64 0, .int .i64 0, .slice none 0 0] 54)) := HB0.alloc HB0.size _
          have HGq1 : BoxW w4.heap.size [.int .i64 0, .int .i64 0, .slice none 0 0] 54 (w4.drew.alloc (.cells #[.int .i64 0, .int .i64 0, .slice none 0 0] 54)) := BoxW.start w4.drew [.int .i64 0, .int .i64 0, .slice none 0 0] 54
          have hgq : w4.heap.size ≤ w4.heap.size := HB0.size
          refine hK.out _ _ ?_ (fun hH1 => ?_)
          · exact ⟨HN4.out.below (Nat.le_refl _) HBq1, HA4.out.below (Nat.le_refl _) HBq1⟩
          clear hK K
          refine wpAnyH_ready (rs := [2]) (by kernel_rfl) (by simp) (AllReadyH.cons (o := _) rfl (fun K hK => ?_) AllReadyH.nil)
          go_simp
          refine (doc9_any x da dc _ (SlV.below HD4.out (Nat.le_refl _) HBq1)).mono ?_
          rintro en wq2 ⟨rfl, hbq⟩
          have HBq2 : Below w4.heap.size w4 wq2 := HBq1.trans (hbq.mono HBq1.size)
          have HGq2 := HGq1.below (Nat.le_refl _) hbq
          clear hbq
          refine hK.out _ _ ?_ (fun hH2 => ?_)
          · exact ⟨HN4.out.below (Nat.le_refl _) HBq2, HA4.out.below (Nat.le_refl _) HBq2⟩
          clear hK K
          refine wpAnyH_ready (rs := [3]) (by kernel_rfl) (by simp) (AllReadyH.cons (o := _) rfl (fun K hK => ?_) AllReadyH.nil)
          go_simp
          have h9 := rapply09_any m ma mc x wq2 (SlV.below HR4.out (Nat.le_refl _) HBq2) (by omega) (by rw [HM.out]; exact doc_ok HOK.out) (by omega)
          rw [HAR.out] at h9
          simp only at h9
          refine h9.mono ?_
          clear h9
          rintro en wq3 ⟨ma', mc', rfl, hrq, hbq⟩
          unfold ruV
          have HBq3 : Below w4.heap.size w4 wq3 := HBq2.trans (hbq.mono HBq2.size)
          have HGq3 := HGq2.below (Nat.le_refl _) hbq
          clear hbq
          refine hK.out _ _ ?_ (fun hH3 => ?_)
          · exact ⟨HN4.out.below (Nat.le_refl _) HBq3, HA4.out.below (Nat.le_refl _) HBq3⟩
          clear hK K
          refine wpAnyH_take (i := 4) (oi := _) (v := .tuple #[.int .i64 yt, .agg #[.int .i64 m'.e, .int .i64 m'.l, .slice ma' m'.cells.length mc'], .int .i64 (yn : Nat)]) rfl (by kernel_rfl) (by kernel_rfl) (by kernel_rfl) (fun _ _ _ h => h) (Or.inl ⟨by rfl, ?_⟩) hH3 ?_
          · intro w hSw; go_simp
          simp only [Act.put, List.getElem_toArray, List.getElem_cons_zero, List.getElem_cons_succ, List.setIfInBounds_toArray, List.set_cons_zero, List.set_cons_succ]
          refine wpAnyH_take (i := 5) (oi := _) (v := .int .i64 yt) rfl (by kernel_rfl) (by kernel_rfl) (by kernel_rfl) (fun _ _ _ h => h) (Or.inl ⟨by rfl, ?_⟩) hH3 ?_
          · intro w hSw; go_simp
          simp only [Act.put, List.getElem_toArray, List.getElem_cons_zero, List.getElem_cons_succ, List.setIfInBounds_toArray, List.set_cons_zero, List.set_cons_succ]
          refine wpAnyH_take (i := 6) (oi := _) (v := .agg #[.int .i64 m'.e, .int .i64 m'.l, .slice ma' m'.cells.length mc']) rfl (by kernel_rfl) (by kernel_rfl) (by kernel_rfl) (fun _ _ _ h => h) (Or.inl ⟨by rfl, ?_⟩) hH3 ?_
          · intro w hSw; go_simp
          simp only [Act.put, List.getElem_toArray, List.getElem_cons_zero, List.getElem_cons_succ, List.setIfInBounds_toArray, List.set_cons_zero, List.set_cons_succ]
          refine wpAnyH_take (i := 7) (oi := _) (v := .int .i64 (yn : Nat)) rfl (by kernel_rfl) (by kernel_rfl) (by kernel_rfl) (fun _ _ _ h => h) (Or.inl ⟨by rfl, ?_⟩) hH3 ?_
          · intro w hSw; go_simp
          simp only [Act.put, List.getElem_toArray, List.getElem_cons_zero, List.getElem_cons_succ, List.setIfInBounds_toArray, List.set_cons_zero, List.set_cons_succ]
          refine wpAnyH_take (i := 9) (oi := _) (v := .int .i64 yt) rfl (by kernel_rfl) (by kernel_rfl) (by kernel_rfl) (fun _ _ _ h => h) (Or.inl ⟨by rfl, ?_⟩) hH3 ?_
          · intro w hSw; go_simp
          simp only [Act.put, List.getElem_toArray, List.getElem_cons_zero, List.getElem_cons_succ, List.setIfInBounds_toArray, List.set_cons_zero, List.set_cons_succ]
          refine wpAnyH_ready (rs := [10]) (by kernel_rfl) (by simp) (AllReadyH.cons (o := _) rfl (fun K hK => ?_) AllReadyH.nil)
          have z0 := HGq3.box.1 0 _ rfl; have z1 := HGq3.box.1 1 _ rfl; have z2 := HGq3.box.1 2 _ rfl
          have y0 := HGq3.box.2.1 0; have y1 := HGq3.box.2.1 1; have y2 := HGq3.box.2.1 2
          have hzl := HGq3.lt
          go_simp
          have HGs := BoxW.set3 (a' := .int .i64 m'.e) (b' := .int .i64 m'.l) (c' := .slice ma' m'.cells.length mc') HGq3
          have HRs := HGq3.rlist (by intro b hb; simp at hb) hrq (fr3 (.int .i64 m'.e) (.int .i64 m'.l) (.slice ma' m'.cells.length mc'))
          have HBs := ((HBq3.setCell (p := ⟨w4.heap.size, 0, none⟩) hgq (.int .i64 m'.e)).setCell (p := ⟨w4.heap.size, 1, none⟩) hgq (.int .i64 m'.l)).setCell (p := ⟨w4.heap.size, 2, none⟩) hgq (.slice ma' m'.cells.length mc')
          refine hK.out _ _ ?_ (fun hH4 => ?_)
          · exact ⟨HN4.out.below (Nat.le_refl _) HBs, HA4.out.below (Nat.le_refl _) HBs⟩
          clear hK K
          refine wpAnyH_take (i := 11) (oi := _) (v := .int .i64 (yn : Nat)) rfl (by kernel_rfl) (by kernel_rfl) (by kernel_rfl) (fun _ _ _ h => h) (Or.inl ⟨by rfl, ?_⟩) hH4 ?_
          · intro w hSw; go_simp
          simp only [Act.put, List.getElem_toArray, List.getElem_cons_zero, List.getElem_cons_succ, List.setIfInBounds_toArray, List.set_cons_zero, List.set_cons_succ]
          refine wpAnyH_done (by kernel_rfl) ?_ _
          go_wp2_with fail
          go_meet
          exact ⟨_, ma', mc', rfl, rfl, rfl, hgq, Lib.hid' HGs, Lib.hid' HRs, Lib.hid' HBs⟩
      case rest =>
      obtain ⟨g, ma', mc', rfl, rfl, rfl, hg, HX7, HR7, HB47⟩ := hcut
      obtain ⟨w7, hw7⟩ : ∃ w7, w7 = wc := ⟨_, rfl⟩
      rw [← hw7] at HX7 HR7 HB47 ⊢
      clear hw7
      have hn4 := HN4.out.lt
      have HN7 := Lib.hid' (HN4.out.below (Nat.le_refl _) HB47.out)
      have HU7 := Lib.hid' (HU4.out.below (Nat.le_refl _) HB47.out)
      have HBW7 := Lib.hid' (HB4.out.trans (HB47.out.mono HB4.out.size))
      clear HN4 HA4 HU4 HB4 HB47 HD4 HR4
      have n0 := HX7.out.box.1 0 _ rfl; have n1 := HX7.out.box.1 1 _ rfl; have n2 := HX7.out.box.1 2 _ rfl
      have m0 := HN7.out.box.1 0 _ rfl; have m1 := HN7.out.box.1 1 _ rfl; have m2 := HN7.out.box.1 2 _ rfl
      have f0 := HN7.out.box.2.1 0; have f1 := HN7.out.box.2.1 1; have f2 := HN7.out.box.2.1 2
      have hn7 := HN7.out.lt
      have HST := Lib.hid' (ap_store HN7.out HU7.out HR7.out HBW7.out (by omega) (by omega) (by omega))
      go_upto_region 21 with fail
      clear n0 n1 n2 m0 m1 m2 f0 f1 f2 hn7 HX7 HN7 HU7 HR7 HBW7
      generalize ((w7.setCell ⟨N, 0, none⟩ (.int .i64 m'.e)).setCell ⟨N, 1, none⟩ (.int .i64 m'.l)).setCell ⟨N, 2, none⟩ (.slice ma' m'.cells.length mc') = w8 at *
      obtain ⟨s1, s2, s3, s4⟩ := HST.out
      have HN8 := Lib.hid' s1
      have HU8 := Lib.hid' s2
      have HR8 := Lib.hid' s3
      have HB8 := Lib.hid' s4
      have hyl : yu.cells.length ≤ 61 := by have := HAL.out; omega
      clear HST s1 s2 s3 s4
      refine wp_region_held_drew (S := (fun w' => BoxW N (mV m' ma' mc') 54 w')) (by kernel_rfl) HN8.out (fun hH0 => ?_)
      refine wpAnyH_take (i := 0) (oi := _) (v := .int .i64 yt) rfl (by kernel_rfl) (by kernel_rfl) (by kernel_rfl) (fun _ _ _ h => h) (Or.inl ⟨by rfl, ?_⟩) hH0 ?_
      · intro w hSw; go_simp
      simp only [Act.put, List.getElem_toArray, List.getElem_cons_zero, List.getElem_cons_succ, List.setIfInBounds_toArray, List.set_cons_zero, List.set_cons_succ]
      refine wpAnyH_take (i := 1) (oi := _) (v := .int .i64 yt) rfl (by kernel_rfl) (by kernel_rfl) (by kernel_rfl) (fun _ _ _ h => h) (Or.inl ⟨by rfl, ?_⟩) hH0 ?_
      · intro w hSw; go_simp
      simp only [Act.put, List.getElem_toArray, List.getElem_cons_zero, List.getElem_cons_succ, List.setIfInBounds_toArray, List.set_cons_zero, List.set_cons_succ]
      refine wpAnyH_take (i := 2) (oi := _) (v := .bool false) rfl (by kernel_rfl) (by kernel_rfl) (by kernel_rfl) (fun _ _ _ h => h) (Or.inl ⟨by rfl, ?_⟩) hH0 ?_
      · intro w hSw; go_simp
      simp only [Act.put, List.getElem_toArray, List.getElem_cons_zero, List.getElem_cons_succ, List.setIfInBounds_toArray, List.set_cons_zero, List.set_cons_succ]
      refine wpAnyH_take (i := 3) (oi := _) (v := .bool false) rfl (by kernel_rfl) (by kernel_rfl) (by kernel_rfl) (fun _ _ _ h => h) (Or.inl ⟨by rfl, ?_⟩) hH0 ?_
      · intro w hSw; go_simp
      simp only [Act.put, List.getElem_toArray, List.getElem_cons_zero, List.getElem_cons_succ, List.setIfInBounds_toArray, List.set_cons_zero, List.set_cons_succ]
      refine wpAnyH_take (i := 4) (oi := _) (v := errV yn) rfl (by kernel_rfl) (by kernel_rfl) (by kernel_rfl) (fun _ _ _ h => h) (Or.inl ⟨by rfl, ?_⟩) hH0 ?_
      · intro w hSw; go_simp
      simp only [Act.put, List.getElem_toArray, List.getElem_cons_zero, List.getElem_cons_succ, List.setIfInBounds_toArray, List.set_cons_zero, List.set_cons_succ]
      refine wpAnyH_take (i := 6) (oi := _) (v := .int .i64 (yn : Int)) rfl (by kernel_rfl) (by kernel_rfl) (by kernel_rfl) (fun _ _ _ h => h) (Or.inl ⟨by rfl, ?_⟩) hH0 ?_
      · intro w hSw; go_simp
      simp only [Act.put, List.getElem_toArray, List.getElem_cons_zero, List.getElem_cons_succ, List.setIfInBounds_toArray, List.set_cons_zero, List.set_cons_succ]
      refine wpAnyH_ready (rs := [5]) (by kernel_rfl) (by simp) (AllReadyH.cons (o := _) rfl (fun K hK => ?_) AllReadyH.nil)
      go_simp
      refine (num_any yn _).mono ?_
      rintro en wz ⟨rfl, rfl⟩
      refine hK.out _ _ ?_ (fun hH1 => ?_)
      · exact HN8.out
      clear hK K
      refine wpAnyH_take (i := 7) (oi := _) (v := .bool false) rfl (by kernel_rfl) (by kernel_rfl) (by kernel_rfl) (fun _ _ _ h => h) (Or.inl ⟨by rfl, ?_⟩) hH1 ?_
      · intro w hSw; go_simp
      simp only [Act.put, List.getElem_toArray, List.getElem_cons_zero, List.getElem_cons_succ, List.setIfInBounds_toArray, List.set_cons_zero, List.set_cons_succ]
      refine wpAnyH_take (i := 8) (oi := _) (v := .bool false) rfl (by kernel_rfl) (by kernel_rfl) (by kernel_rfl) (fun _ _ _ h => h) (Or.inl ⟨by rfl, ?_⟩) hH1 ?_
      · intro w hSw; go_simp
      simp only [Act.put, List.getElem_toArray, List.getElem_cons_zero, List.getElem_cons_succ, List.setIfInBounds_toArray, List.set_cons_zero, List.set_cons_succ]
      refine wpAnyH_take (i := 9) (oi := _) (v := .bool false) rfl (by kernel_rfl) (by kernel_rfl) (by kernel_rfl) (fun _ _ _ h => h) (Or.inl ⟨by rfl, ?_⟩) hH1 ?_
      · intro w hSw; go_simp
      simp only [Act.put, List.getElem_toArray, List.getElem_cons_zero, List.getElem_cons_succ, List.setIfInBounds_toArray, List.set_cons_zero, List.set_cons_succ]
      refine wpAnyH_take (i := 10) (oi := _) (v := .pointer (some ⟨bu, 0, none⟩)) rfl (by kernel_rfl) (by kernel_rfl) (by kernel_rfl) (fun _ _ _ h => h) (Or.inl ⟨by rfl, ?_⟩) hH1 ?_
      · intro w hSw; go_simp
      simp only [Act.put, List.getElem_toArray, List.getElem_cons_zero, List.getElem_cons_succ, List.setIfInBounds_toArray, List.set_cons_zero, List.set_cons_succ]
      refine wpAnyH_take (i := 12) (oi := _) (v := .agg #[.int .i64 m'.e, .int .i64 m'.l, .slice ma' m'.cells.length mc']) rfl (by kernel_rfl) (by kernel_rfl) (by kernel_rfl) (fun _ _ _ h => h) (Or.inl ⟨by rfl, ?_⟩) hH1 ?_
      · intro w hSw; have q0 := hSw.box.1 0 _ rfl; have q1 := hSw.box.1 1 _ rfl; have q2 := hSw.box.1 2 _ rfl; go_simp
      simp only [Act.put, List.getElem_toArray, List.getElem_cons_zero, List.getElem_cons_succ, List.setIfInBounds_toArray, List.set_cons_zero, List.set_cons_succ]
      refine wpAnyH_ready (rs := [11]) (by kernel_rfl) (by simp) (AllReadyH.cons (o := _) rfl (fun K hK => ?_) AllReadyH.nil)
      go_simp
      have HUd := Lib.hid' (HU8.out.below (Nat.le_refl _) (Below.drew (Below.refl _ w8)))
      refine (doc_all _ HUd.out (by omega)).mono ?_
      rw [← HM'.out]
      rintro en w9 ⟨va, vc, rfl, hr9, hb9⟩
      have HB9 := Lib.hid' (show Below w8.heap.size w8 w9 from (Below.drew (Below.refl _ w8)).trans hb9)
      have HV9 := Lib.hid' hr9
      have HR9 := Lib.hid' (show RList w9 (.slice ma' m'.cells.length mc') m'.cells from SlV.below HR8.out (Nat.le_refl _) HB9.out)
      have HN9 := Lib.hid' (HN8.out.below (Nat.le_refl _) HB9.out)
      clear hr9 hb9
      refine hK.out _ _ ?_ (fun hH2 => ?_)
      · exact HN9.out
      clear hK K
      refine wpAnyH_ready (rs := [13]) (by kernel_rfl) (by simp) (AllReadyH.cons (o := _) rfl (fun K hK => ?_) AllReadyH.nil)
      go_simp
      have hsm := rSame_any m' m' va vc ma' mc' w9 HV9.out HR9.out
      rw [rSame_self] at hsm
      refine hsm.mono ?_
      clear hsm
      rintro en w10 ⟨rfl, hb10⟩
      have HB10 := Lib.hid' (HB9.out.trans (hb10.mono HB9.out.size))
      have HN10 := Lib.hid' (HN9.out.below (Nat.le_refl _) hb10)
      clear hb10
      refine hK.out _ _ ?_ (fun hH3 => ?_)
      · exact HN10.out
      clear hK K
      refine wpAnyH_take (i := 14) (oi := _) (v := .bool false) rfl (by kernel_rfl) (by kernel_rfl) (by kernel_rfl) (fun _ _ _ h => h) (Or.inl ⟨by rfl, ?_⟩) hH3 ?_
      · intro w hSw; go_simp
      simp only [Act.put, List.getElem_toArray, List.getElem_cons_zero, List.getElem_cons_succ, List.setIfInBounds_toArray, List.set_cons_zero, List.set_cons_succ]
      refine wpAnyH_take (i := 15) (oi := _) (v := .bool false) rfl (by kernel_rfl) (by kernel_rfl) (by kernel_rfl) (fun _ _ _ h => h) (Or.inl ⟨by rfl, ?_⟩) hH3 ?_
      · intro w hSw; go_simp
      simp only [Act.put, List.getElem_toArray, List.getElem_cons_zero, List.getElem_cons_succ, List.setIfInBounds_toArray, List.set_cons_zero, List.set_cons_succ]
      refine wpAnyH_done (by kernel_rfl) ?_ _
      go_wp2_with fail
      go_roundw
      case rel => exact ⟨k + 1, by go_num, by omega, Lib.hid' ⟨⟨yu, m', ma', mc', HM'.out, HAL.out, HU8.out.below (Nat.le_refl _) HB10.out, HN10.out, SlV.below HR8.out (Nat.le_refl _) HB10.out⟩, HB8.out.trans (HB10.out.mono HB8.out.size)⟩⟩
      case measure => simp [intOf]; omega
    obtain rfl : k = X.length := by omega
    have HOF := Lib.hid' (ok_of HU.out.ok)
    have hpu := rputu_any wr HU.out HOF.out (by omega)
    have hpr := fun wq hq => putu09_any m ma mc wq hq (by rw [HM.out]; exact HOF.out) (by omega)
    rw [show putU m.e m.l m.cells = putU u.e u.l (sortC u.cells) by rw [HM.out]; rfl] at hpr
    obtain ⟨q, hq⟩ : ∃ q, q = putU u.e u.l (sortC u.cells) := ⟨_, rfl⟩
    rw [← hq] at hpu hpr
    clear hq
    obtain ⟨qn, qb⟩ := q
    have HPU := Lib.hid' hpu
    have HPR := Lib.hid' hpr
    clear hpu hpr
    go_wp2_with fail
    refine HPU.out.mono ?_
    clear HPU
    rintro en w5 ⟨a5, c5, rfl, ho5, hb5⟩
    have HO5 := Lib.hid' (show Bytes w5 (.slice a5 qb.length c5) qb from SlV.of_own ho5)
    have HB5 := Lib.hid' hb5
    simp only at ho5 ⊢
    clear ho5 hb5
    obtain ⟨xr, xf, xs⟩ := (HBX.out.below (Nat.le_refl _) HB5.out).box
    have m0' := xr 0 _ rfl; have m1' := xr 1 _ rfl; have m2' := xr 2 _ rfl
    clear xr xf xs m0 m1 m2
    go_wp2_with fail
    refine (HPR.out w5 (SlV.below HR.out (Nat.le_refl _) HB5.out)).mono ?_
    clear HPR
    rintro en w6 ⟨a6, c6, rfl, ho6, hb6⟩
    have HO6 := Lib.hid' (show Bytes w6 (.slice a6 qb.length c6) qb from SlV.of_own ho6)
    have HO5' := Lib.hid' (show Bytes w6 (.slice a5 qb.length c5) qb from SlV.below HO5.out (Nat.le_refl _) hb6)
    have HB6 := Lib.hid' (HBW.out.trans ((HB5.out.trans (hb6.mono HB5.out.size)).mono HBW.out.size))
    simp only at ho6 ⊢
    clear ho6 hb6 m0' m1' m2' HO5
    have HNB := Lib.hid' (numBytes_any _ _ qb qb w6 HO5'.out HO6.out)
    rw [show (qb == qb) = true by simp] at HNB
    go_wp2_with fail
    refine HNB.out.mono ?_
    rintro en wz ⟨rfl, rfl⟩
    go_wp2_with fail
    refine (num_any qn _).mono ?_
    rintro en wz ⟨rfl, rfl⟩
    go_wp2
    go_ret
    exact ⟨ret_eq (by simp), HB6.out⟩
end Go.Proofs.YtkljeefncopodaaGreat
