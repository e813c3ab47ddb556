/- UnitMakes: which cells are a unit's, one apart is the same, and apart, and which two are the same. -/
import Derived.Test.YthjigopnlgngdaaUMakD
import Derived.Test.YthjigopnlgngdaaDoc
import Derived.Test.YthjigopnlgngdaaAlive8
import Derived.Laws.BitsAllLaws
import Derived.Deep.DeepCutAuto
import Derived.Deep.CutBlock
import Derived.Deep.RegionHeld3
import Derived.BigQuiet
namespace Go.Proofs.Ythjigopnlgngdaa
open Go.RowKit
set_option linter.unusedSimpArgs false
set_option linter.unusedVariables false
set_option maxRecDepth 20000

@[go_sem] theorem eq_nil_ptr (b : Nat) (w : World) : (binOp BinOp.eql 93 (.pointer none) (.pointer (some ⟨b, 0, none⟩))).run Try.prog w = .ok (.bool false) w := by kernel_rfl
theorem same_nil (b : Nat) (w : World) : Calls Try.prog 49 #[.pointer none, .pointer (some ⟨b, 0, none⟩)] w fun en w' => en = .returned (.bool false) ∧ w = w' := by
  go_enter Try.func49, Try.ntmps49
  go_wp2
  go_ret
  exact ⟨rfl, rfl⟩
theorem same_nils (w : World) : Calls Try.prog 49 #[.pointer none, .pointer none] w fun en w' => en = .returned (.bool true) ∧ w = w' := by
  go_enter Try.func49, Try.ntmps49
  go_wp2
  go_ret
  exact ⟨rfl, rfl⟩
theorem rSame_self (u : U) : u.rSame u = true := by simp [U.rSame]
theorem rlist_nil (w : World) : RList w (.slice none 0 0) [] := SlV.of_own (own_nil w 0 0 0)
theorem rSameE_any (e l : Int) (E : List Ent) (v : U) (a1 : Option Addr) (c1 : Nat) (a2 : Option Addr) (c2 : Nat) (w : World) (h : SlV w (.slice a1 E.length c1) E.length (rents (docE E))) (h' : RList w (.slice a2 v.cells.length c2) v.cells) :
    Calls Try.prog 57 #[.agg #[.int .i64 e, .int .i64 l, .slice a1 E.length c1], ruV v a2 c2] w fun en w' => en = .returned (.bool ((⟨e, l, docE E⟩ : U).rSame v)) ∧ Below w.heap.size w w' := by
  have := rSame_any ⟨e, l, docE E⟩ v a1 c1 a2 c2 w (by unfold RList; simpa only [docE_len] using h) h'
  simpa only [ruV, docE_len] using this
theorem rSameEE_any (e l : Int) (E : List Ent) (a1 : Option Addr) (c1 : Nat) (a2 : Option Addr) (c2 : Nat) (w : World) (h : SlV w (.slice a1 E.length c1) E.length (rents (docE E))) (h' : SlV w (.slice a2 E.length c2) E.length (rents (docE E))) :
    Calls Try.prog 57 #[.agg #[.int .i64 e, .int .i64 l, .slice a1 E.length c1], .agg #[.int .i64 e, .int .i64 l, .slice a2 E.length c2]] w fun en w' => en = .returned (.bool true) ∧ Below w.heap.size w w' := by
  have := rSame_any ⟨e, l, docE E⟩ ⟨e, l, docE E⟩ a1 c1 a2 c2 w (by unfold RList; simpa only [docE_len] using h) (by unfold RList; simpa only [docE_len] using h')
  simpa only [ruV, docE_len, rSame_self] using this
def DocER (e l : Int) (n : Nat) (L : List (Int × C)) (w : World) (en : Ending) (w' : World) : Prop :=
  ∃ (a : Option Addr) (c : Nat), en = .returned (.agg #[.int .i64 e, .int .i64 l, .slice a n c]) ∧ SlV w' (.slice a n c) n (rents L) ∧ Below w.heap.size w w'
theorem docE_any {A : Nat → Prop} {bu bm : Nat} {e l : Int} {E : List Ent} (w : World) (h : UnitAt A w bu bm ⟨e, l, docE E⟩) (hg : ofErr e l (docE E) = 0) (hlen : E.length ≤ 1048576) :
    Calls Try.prog 58 #[.pointer (some ⟨bu, 0, none⟩)] w (DocER e l E.length (docE E) w) := by
  refine (doc_any w h (by show (docE E).length ≤ _; rw [docE_len]; exact hlen)).mono ?_
  rintro en w' ⟨a, c, rfl, ho, hb⟩
  have h2 := of_doc hg
  have h3 : sortC (docE E) = docE E := congrArg U.cells h2
  have h4 : (⟨e, l, docE E⟩ : U).cells.length = E.length := docE_len E
  rw [h4] at ho
  refine ⟨a, c, by rw [h4], ?_, hb⟩
  have h5 := SlV.of_own ho
  rwa [show sortC (U.cells ⟨e, l, docE E⟩) = docE E from h3] at h5
theorem ents_at {E F : List Ent} {e l : Int} (hg : ofErr e l (docE E) = 0) (hF : F.map noAd = sortC (U.cells ⟨e, l, docE E⟩)) : F.length = E.length ∧ ∀ j (hj : j < F.length) (hj' : j < E.length), F[j].2.1 = E[j].2.1 := by
  have h3 : sortC (docE E) = docE E := congrArg U.cells (of_doc hg)
  rw [show sortC (U.cells ⟨e, l, docE E⟩) = docE E from h3] at hF
  have hl : F.length = E.length := by have := congrArg List.length hF; simpa [docE] using this
  refine ⟨hl, fun j hj hj' => ?_⟩
  have h1 : (F.map noAd)[j]? = (docE E)[j]? := by rw [hF]
  simp only [docE, List.getElem?_map, List.getElem?_eq_getElem hj, List.getElem?_eq_getElem hj', Option.map_some, noAd, Option.some.injEq, Prod.mk.injEq] at h1
  exact h1.2
theorem trim_max {e l : Int} {L : List (Int × C)} (hok : U.ok ⟨e, l, L⟩) (he : e = 0) (hl : l < 1048576) : (U.trim ⟨e, l, L⟩ e 1048576).1 = 0 ∧ (U.trim ⟨e, l, L⟩ e 1048576).2.l = 1048576 ∧ (U.trim ⟨e, l, L⟩ e 1048576).2.e = e := by
  subst he
  have h0 := hok.l0
  have ha : U.asks ⟨0, l, L⟩ 0 (inR 1048576 1048576) = 0 := by simp [U.asks, inR, U.cur]
  unfold U.trim
  rw [if_neg (by rw [ha]; decide)]
  refine ⟨rfl, ?_, rfl⟩
  show max l 1048576 = 1048576
  omega

theorem trim_full {A : Nat → Prop} {bu bm : Nat} {e l : Int} {L : List (Int × C)} (w : World) (b : Int) (hb : b = 1048576) (he : e = 0) (hl : l < 1048576) (h : UnitAt A w bu bm ⟨e, l, L⟩) (hA : ∀ k, A k → k < w.heap.size) :
    Calls Try.prog 59 #[.pointer (some ⟨bu, 0, none⟩), .int .i64 e, .int .i64 b] w fun en w' => en = .returned .nilIface ∧ ∃ ut : U, ut.l = b ∧ ut.cells.length ≤ L.length ∧ UnitAt A w' bu bm ut ∧ Fr (fun k => k = bu ∨ k = bm) w w' := by
  have hok := h.ok
  refine (trim_any e b w h hA).mono ?_
  rintro en w' ⟨rfl, hu, hf⟩
  have ht := trim_max hok he hl
  rw [← hb] at ht
  refine ⟨by rw [ht.1, errV_0], _, ht.2.1, ?_, hu, hf⟩
  unfold U.trim; split
  · exact Nat.le_refl _
  · exact List.length_filter_le _ _

theorem long_no {E : List Ent} (h : ¬ (E.any longE || decide (60 < E.length)) = true) : E.length ≤ 60 ∧ ∀ q ∈ docE E, q.2.d.length ≤ 100 := by
  simp only [Bool.or_eq_true, decide_eq_true_eq, not_or] at h
  refine ⟨by omega, fun q hq => ?_⟩
  obtain ⟨x, hx, rfl⟩ := List.mem_map.1 hq
  have := h.1
  rw [List.any_eq_true] at this
  by_cases h2 : 100 < x.2.1.d.length
  · exact absurd ⟨x, hx, by simpa [longE] using h2⟩ this
  · show x.2.1.d.length ≤ 100; omega

set_option maxHeartbeats 8000000 in
theorem makes_bad (e l : Int) (E : List Ent) (a : Option Addr) (c : Nat) (W : World) (h : EL W a c E) (hs : (E.any longE || decide (60 < E.length)) = false) (hbad : ofErr e l (docE E) ≠ 0) :
    Calls Try.prog 9 #[.int .i64 e, .int .i64 l, .slice a E.length c] W fun en w' => en = .returned (.bool true) ∧ Below W.heap.size W w' := by
  have HS := Lib.hid' h
  have HBAD := Lib.hid' hbad
  have HLG := Lib.hid' hs
  have HNO := Lib.hid' (long_no (E := E) (by rw [hs]; decide))
  have hlen := h.len
  clear h hbad hs
  go_enter Try.func9, Try.ntmps9
  go_wp2_with fail
  refine (alive8_any _).mono ?_
  rintro en w1 ⟨rfl, hb1⟩
  have HB1 := Lib.hid' hb1
  clear hb1
  go_wp2_with fail
  refine (long8_any E 60 (by decide) a c _ (HS.out.below (Nat.le_refl _) HB1.out)).mono ?_
  rintro en w2 ⟨rfl, hb2⟩
  rw [HLG.out]
  have HB2 := Lib.hid' (HB1.out.trans (hb2.mono HB1.out.size))
  clear hb2 HB1
  go_wp2_with fail
  refine (of_bad e l E a c _ (HS.out.below (Nat.le_refl _) HB2.out) HBAD.out).mono ?_
  rintro en w3 ⟨rfl, hb3⟩
  have HB3 := Lib.hid' (HB2.out.trans (hb3.mono HB2.out.size))
  clear hb3 HB2
  go_wp2_with fail
  have HS3 := Lib.hid' (HS.out.below (Nat.le_refl _) HB3.out)
  refine (lEntries_any E a c _ HS3.out.1 HS3.out.2 (by have := HNO.out.1; omega)).mono ?_
  rintro en w4 ⟨a4, c4, rfl, ho4, hb4⟩
  have HB4 := Lib.hid' (HB3.out.trans (hb4.mono HB3.out.size))
  have HO4 := Lib.hid' (show SlV w4 (.slice a4 E.length c4) E.length (rents (docE E)) from SlV.of_own ho4)
  clear ho4 hb4 HB3 HS3
  go_wp2_with fail
  have HG5 := Lib.hid' (show Below w4.heap.size w4 (w4.alloc (.cells #[.int .i64 e, .int .i64 l, .slice a4 E.length c4] 75)) by go_grown)
  have HB5 := Lib.hid' (HB4.out.trans (HG5.out.mono HB4.out.size))
  generalize w4.alloc (.cells #[.int .i64 e, .int .i64 l, .slice a4 E.length c4] 75) = w5 at *
  have hck := rcheckU_any e l (docE E) a4 c4 w5 (by unfold RList; rw [docE_len]; exact SlV.below HO4.out (Nat.le_refl _) HG5.out) (fun q hq => by have := HNO.out.2 q hq; omega)
  rw [docE_len] at hck
  refine hck.mono ?_
  clear hck
  rintro en w6 ⟨rfl, hb6⟩
  have HB6 := Lib.hid' (HB5.out.trans (hb6.mono HB5.out.size))
  clear hb6 HB5 HB4 HG5 HO4
  have hq1 : ((ofErr e l (docE E) : Nat) : Int) ≠ 0 := by have := HBAD.out; omega
  go_wp2_with fail
  refine (num_any _ _).mono ?_
  rintro en w7 ⟨rfl, rfl⟩
  go_wp2_with fail
  refine (new_any _).mono ?_
  rintro en w7 ⟨rfl, hb7, _, _⟩
  have HB7 := Lib.hid' (HB6.out.trans (hb7.mono HB6.out.size))
  clear hb7
  go_wp2_with fail
  refine (same_nil _ _).mono ?_
  rintro en w8 ⟨rfl, rfl⟩
  go_wp2_with fail
  refine (same_nils _).mono ?_
  rintro en w8 ⟨rfl, rfl⟩
  go_wp2_with fail
  go_ret
  exact ⟨rfl, HB7.out⟩

set_option maxHeartbeats 16000000 in
theorem makes_good (e l : Int) (E : List Ent) (a : Option Addr) (c : Nat) (W : World) (h : EL W a c E) (hs : (E.any longE || decide (60 < E.length)) = false) (hgood : ofErr e l (docE E) = 0) :
    Calls Try.prog 9 #[.int .i64 e, .int .i64 l, .slice a E.length c] W fun en w' => en = .returned (.bool true) ∧ Below W.heap.size W w' := by
  have HS := Lib.hid' h
  have HGOOD := Lib.hid' hgood
  have HOK := Lib.hid' (of_ok hgood).1
  have HLG := Lib.hid' hs
  have HNO := Lib.hid' (long_no (E := E) (by rw [hs]; decide))
  have hlen := h.len
  clear h hgood hs
  go_enter Try.func9, Try.ntmps9
  go_wp2_with fail
  refine (alive8_any _).mono ?_
  rintro en w1 ⟨rfl, hb1⟩
  have HB1 := Lib.hid' hb1
  clear hb1
  go_wp2_with fail
  refine (long8_any E 60 (by decide) a c _ (HS.out.below (Nat.le_refl _) HB1.out)).mono ?_
  rintro en w2 ⟨rfl, hb2⟩
  rw [HLG.out]
  have HB2 := Lib.hid' (HB1.out.trans (hb2.mono HB1.out.size))
  clear hb2 HB1
  go_wp2_with fail
  refine (of_good e l E a c _ (HS.out.below (Nat.le_refl _) HB2.out) HGOOD.out).mono ?_
  rintro en w3 ⟨bu, bm, rfl, hbu, hbm, hu3, hb3⟩
  have HB3 := Lib.hid' (HB2.out.trans (hb3.mono HB2.out.size))
  have HU3 := Lib.hid' hu3
  clear hb3 HB2 hu3 hbu hbm
  go_wp2_with fail
  have HS3 := Lib.hid' (HS.out.below (Nat.le_refl _) HB3.out)
  refine (lEntries_any E a c _ HS3.out.1 HS3.out.2 (by have := HNO.out.1; omega)).mono ?_
  rintro en w4 ⟨a4, c4, rfl, ho4, hb4⟩
  have HB4 := Lib.hid' (HB3.out.trans (hb4.mono HB3.out.size))
  have HU4 := Lib.hid' (HU3.out.below (Nat.le_refl _) hb4)
  have HO4 := Lib.hid' (show SlV w4 (.slice a4 E.length c4) E.length (rents (docE E)) from SlV.of_own ho4)
  clear ho4 hb4 HB3 HS3 HU3
  go_wp2_with fail
  have HG5 := Lib.hid' (show Below w4.heap.size w4 (w4.alloc (.cells #[.int .i64 e, .int .i64 l, .slice a4 E.length c4] 75)) by go_grown)
  have HB5 := Lib.hid' (HB4.out.trans (HG5.out.mono HB4.out.size))
  have HX5 := Lib.hid' (show BoxW w4.heap.size [.int .i64 e, .int .i64 l, .slice a4 E.length c4] 75 (w4.alloc (.cells #[.int .i64 e, .int .i64 l, .slice a4 E.length c4] 75)) from BoxW.start w4 [.int .i64 e, .int .i64 l, .slice a4 E.length c4] 75)
  generalize w4.alloc (.cells #[.int .i64 e, .int .i64 l, .slice a4 E.length c4] 75) = w5 at *
  have HO5 := Lib.hid' (SlV.below HO4.out (Nat.le_refl _) HG5.out)
  have HU5 := Lib.hid' (HU4.out.below (Nat.le_refl _) HG5.out)
  generalize w4.heap.size = N at *
  clear HO4 HU4 HB4 HG5
  have hck := rcheckU_any e l (docE E) a4 c4 w5 (by unfold RList; rw [docE_len]; exact HO5.out) (fun q hq => by have := HNO.out.2 q hq; omega)
  rw [docE_len] at hck
  refine hck.mono ?_
  clear hck
  rintro en w6 ⟨rfl, hb6⟩
  have HB6 := Lib.hid' (HB5.out.trans (hb6.mono HB5.out.size))
  have HX6 := Lib.hid' (HX5.out.below (Nat.le_refl _) hb6)
  have HO6 := Lib.hid' (SlV.below HO5.out (Nat.le_refl _) hb6)
  have HU6 := Lib.hid' (HU5.out.below (Nat.le_refl _) hb6)
  rw [HGOOD.out]
  clear hb6 HB5 HX5 HO5 HU5
  go_upto_region 10 with fail
  have x0 := HX6.out.box.1 0 _ rfl; have x1 := HX6.out.box.1 1 _ rfl; have x2 := HX6.out.box.1 2 _ rfl
  have hNl := HX6.out.lt
  refine wp_region_held_drew (S := (fun w' => w'.cell? ⟨N, 0, none⟩ = some (.int .i64 e) ∧ w'.cell? ⟨N, 1, none⟩ = some (.int .i64 l) ∧ w'.cell? ⟨N, 2, none⟩ = some (.slice a4 E.length c4))) (by kernel_rfl) ⟨by simpa using x0, by simpa using x1, by simpa using x2⟩ (fun hH0 => ?_)
  refine wpAnyH_take (i := 0) (oi := _) (v := .nilIface) rfl (by kernel_rfl) (by kernel_rfl) (by kernel_rfl) (fun _ _ _ h => h) (Or.inl ⟨by rfl, ?_⟩) hH0 ?_
  · intro w hSw; go_simp
  simp only [Act.put, List.getElem_toArray, List.getElem_cons_zero, List.getElem_cons_succ, List.setIfInBounds_toArray, List.set_cons_zero, List.set_cons_succ]
  refine wpAnyH_take (i := 1) (oi := _) (v := .bool false) rfl (by kernel_rfl) (by kernel_rfl) (by kernel_rfl) (fun _ _ _ h => h) (Or.inl ⟨by rfl, ?_⟩) hH0 ?_
  · intro w hSw; go_simp
  simp only [Act.put, List.getElem_toArray, List.getElem_cons_zero, List.getElem_cons_succ, List.setIfInBounds_toArray, List.set_cons_zero, List.set_cons_succ]
  refine wpAnyH_take (i := 2) (oi := _) (v := .bool false) rfl (by kernel_rfl) (by kernel_rfl) (by kernel_rfl) (fun _ _ _ h => h) (Or.inl ⟨by rfl, ?_⟩) hH0 ?_
  · intro w hSw; go_simp
  simp only [Act.put, List.getElem_toArray, List.getElem_cons_zero, List.getElem_cons_succ, List.setIfInBounds_toArray, List.set_cons_zero, List.set_cons_succ]
  refine wpAnyH_take (i := 3) (oi := _) (v := .pointer (some ⟨bu, 0, none⟩)) rfl (by kernel_rfl) (by kernel_rfl) (by kernel_rfl) (fun _ _ _ h => h) (Or.inl ⟨by rfl, ?_⟩) hH0 ?_
  · intro w hSw; go_simp
  simp only [Act.put, List.getElem_toArray, List.getElem_cons_zero, List.getElem_cons_succ, List.setIfInBounds_toArray, List.set_cons_zero, List.set_cons_succ]
  refine wpAnyH_take (i := 4) (oi := _) (v := .bool false) rfl (by kernel_rfl) (by kernel_rfl) (by kernel_rfl) (fun _ _ _ h => h) (Or.inl ⟨by rfl, ?_⟩) hH0 ?_
  · intro w hSw; go_simp
  simp only [Act.put, List.getElem_toArray, List.getElem_cons_zero, List.getElem_cons_succ, List.setIfInBounds_toArray, List.set_cons_zero, List.set_cons_succ]
  refine wpAnyH_take (i := 5) (oi := _) (v := .bool false) rfl (by kernel_rfl) (by kernel_rfl) (by kernel_rfl) (fun _ _ _ h => h) (Or.inl ⟨by rfl, ?_⟩) hH0 ?_
  · intro w hSw; go_simp
  simp only [Act.put, List.getElem_toArray, List.getElem_cons_zero, List.getElem_cons_succ, List.setIfInBounds_toArray, List.set_cons_zero, List.set_cons_succ]
  refine wpAnyH_take (i := 6) (oi := _) (v := .bool false) rfl (by kernel_rfl) (by kernel_rfl) (by kernel_rfl) (fun _ _ _ h => h) (Or.inl ⟨by rfl, ?_⟩) hH0 ?_
  · intro w hSw; go_simp
  simp only [Act.put, List.getElem_toArray, List.getElem_cons_zero, List.getElem_cons_succ, List.setIfInBounds_toArray, List.set_cons_zero, List.set_cons_succ]
  refine wpAnyH_take (i := 7) (oi := _) (v := .pointer (some ⟨bu, 0, none⟩)) rfl (by kernel_rfl) (by kernel_rfl) (by kernel_rfl) (fun _ _ _ h => h) (Or.inl ⟨by rfl, ?_⟩) hH0 ?_
  · intro w hSw; go_simp
  simp only [Act.put, List.getElem_toArray, List.getElem_cons_zero, List.getElem_cons_succ, List.setIfInBounds_toArray, List.set_cons_zero, List.set_cons_succ]
  refine wpAnyH_take (i := 9) (oi := _) (v := .agg #[.int .i64 e, .int .i64 l, .slice a4 E.length c4]) rfl (by kernel_rfl) (by kernel_rfl) (by kernel_rfl) (fun _ _ _ h => h) (Or.inl ⟨by rfl, ?_⟩) hH0 ?_
  · intro w hSw; go_simp
  simp only [Act.put, List.getElem_toArray, List.getElem_cons_zero, List.getElem_cons_succ, List.setIfInBounds_toArray, List.set_cons_zero, List.set_cons_succ]
  refine wpAnyH_ready (rs := [8]) (by kernel_rfl) (by simp) (AllReadyH.cons (o := _) rfl (fun K hK => ?_) AllReadyH.nil)
  go_simp
  refine (docE_any _ (HU6.out.below (Nat.le_refl _) (Below.drew (Below.refl _ _))) HGOOD.out (by have := HNO.out.1; omega)).mono ?_
  rintro en wd1 ⟨a7, c7, rfl, ho7, hb7⟩
  have HO7 := Lib.hid' ho7
  have HBd1 := Lib.hid' (show Below w6.heap.size w6 wd1 from (Below.drew (Below.refl _ _)).trans (hb7.mono (Nat.le_refl _)))
  clear ho7 hb7
  refine hK.out _ _ ?_ (fun hH1 => ?_)
  · exact ⟨(HBd1.out.cell (p := ⟨N, 0, none⟩) hNl).trans x0, (HBd1.out.cell (p := ⟨N, 1, none⟩) hNl).trans x1, (HBd1.out.cell (p := ⟨N, 2, none⟩) hNl).trans x2⟩
  clear hK K
  refine wpAnyH_ready (rs := [10]) (by kernel_rfl) (by simp) (AllReadyH.cons (o := _) rfl (fun K hK => ?_) AllReadyH.nil)
  go_simp
  refine (rSameEE_any e l E a7 c7 a4 c4 _ HO7.out (SlV.below HO6.out (Nat.le_refl _) HBd1.out)).mono ?_
  rintro en wd2 ⟨rfl, hb8⟩
  have HBd2 := Lib.hid' (show Below w6.heap.size w6 wd2 from HBd1.out.trans (hb8.mono HBd1.out.size))
  clear hb8
  refine hK.out _ _ ?_ (fun hH2 => ?_)
  · exact ⟨(HBd2.out.cell (p := ⟨N, 0, none⟩) hNl).trans x0, (HBd2.out.cell (p := ⟨N, 1, none⟩) hNl).trans x1, (HBd2.out.cell (p := ⟨N, 2, none⟩) hNl).trans x2⟩
  clear hK K
  refine wpAnyH_take (i := 11) (oi := _) (v := .bool false) rfl (by kernel_rfl) (by kernel_rfl) (by kernel_rfl) (fun _ _ _ h => h) (Or.inl ⟨by rfl, ?_⟩) hH2 ?_
  · intro w hSw; go_simp
  simp only [Act.put, List.getElem_toArray, List.getElem_cons_zero, List.getElem_cons_succ, List.setIfInBounds_toArray, List.set_cons_zero, List.set_cons_succ]
  refine wpAnyH_take (i := 12) (oi := _) (v := .bool false) rfl (by kernel_rfl) (by kernel_rfl) (by kernel_rfl) (fun _ _ _ h => h) (Or.inl ⟨by rfl, ?_⟩) hH2 ?_
  · intro w hSw; go_simp
  simp only [Act.put, List.getElem_toArray, List.getElem_cons_zero, List.getElem_cons_succ, List.setIfInBounds_toArray, List.set_cons_zero, List.set_cons_succ]
  refine wpAnyH_done (by kernel_rfl) ?_ _
  go_wp2_with fail
  have HB7 := Lib.hid' (HB6.out.trans (HBd2.out.mono HB6.out.size))
  have HX7 := Lib.hid' (HX6.out.below (Nat.le_refl _) HBd2.out)
  have HO7 := Lib.hid' (SlV.below HO6.out (Nat.le_refl _) HBd2.out)
  have HU7 := Lib.hid' (HU6.out.below (Nat.le_refl _) HBd2.out)
  clear HBd1 HBd2 HB6 HX6 HO6 HU6 x0 x1 x2 hNl
  -- one apart
  refine (ucopy_any _ HU7.out).mono ?_
  rintro en w8 ⟨rfl, hb8, hz8, hc8⟩
  have HC8 := Lib.hid' (hc8 (fun q => q = wd2.heap.size + 1 ∨ q = wd2.heap.size) (fun q hq => .inr (by omega)) (.inr rfl) (.inl rfl))
  have HB8 := Lib.hid' hb8
  have HX8 := Lib.hid' (HX7.out.below (Nat.le_refl _) hb8)
  have HO8 := Lib.hid' (SlV.below HO7.out (Nat.le_refl _) hb8)
  have HU8 := Lib.hid' (HU7.out.below (Nat.le_refl _) hb8)
  have HZ8 := Lib.hid' hz8
  clear hb8 hz8 hc8
  go_upto_region 13 with fail
  have x0 := HX8.out.box.1 0 _ rfl; have x1 := HX8.out.box.1 1 _ rfl; have x2 := HX8.out.box.1 2 _ rfl
  have hNl := HX8.out.lt
  have HSM := Lib.hid' (sameB_self HOK.out)
  have HSN := Lib.hid' (sameB_new HOK.out)
  have HL := Lib.hid' (show (U.cells ⟨e, l, docE E⟩).length ≤ 4194304 by have := HNO.out.1; show (docE E).length ≤ _; rw [docE_len]; omega)
  go_cut [79] (fun v79 wx => v79 = .bool false ∧ Below w8.heap.size w8 wx)
  case first =>
    obtain ⟨rq, hrq⟩ : ∃ rq, (⟨e, l, docE E⟩ : U).rSame ⟨0, 0, []⟩ = rq := ⟨_, rfl⟩
    have HRQ := Lib.hid' hrq
    have HSN := Lib.hid' (HSN.out.trans hrq)
    clear hrq
    refine wp_region_held_drew (S := (fun w' => w'.cell? ⟨N, 0, none⟩ = some (.int .i64 e) ∧ w'.cell? ⟨N, 1, none⟩ = some (.int .i64 l) ∧ w'.cell? ⟨N, 2, none⟩ = some (.slice a4 E.length c4))) (by kernel_rfl) ⟨by simpa using x0, by simpa using x1, by simpa using x2⟩ (fun hH0 => ?_)
    refine wpAnyH_take (i := 0) (oi := _) (v := .pointer (some ⟨(wd2.heap.size + 1), 0, none⟩)) rfl (by kernel_rfl) (by kernel_rfl) (by kernel_rfl) (fun _ _ _ h => h) (Or.inl ⟨by rfl, ?_⟩) hH0 ?_
    · intro w hSw; go_simp
    simp only [Act.put, List.getElem_toArray, List.getElem_cons_zero, List.getElem_cons_succ, List.setIfInBounds_toArray, List.set_cons_zero, List.set_cons_succ]
    refine wpAnyH_take (i := 1) (oi := _) (v := .pointer (some ⟨bu, 0, none⟩)) rfl (by kernel_rfl) (by kernel_rfl) (by kernel_rfl) (fun _ _ _ h => h) (Or.inl ⟨by rfl, ?_⟩) hH0 ?_
    · intro w hSw; go_simp
    simp only [Act.put, List.getElem_toArray, List.getElem_cons_zero, List.getElem_cons_succ, List.setIfInBounds_toArray, List.set_cons_zero, List.set_cons_succ]
    refine wpAnyH_ready (rs := [2]) (by kernel_rfl) (by simp) (AllReadyH.cons (o := _) rfl (fun K hK => ?_) AllReadyH.nil)
    go_simp
    refine (usame_any _ (HC8.out.below (Nat.le_refl _) (Below.drew (Below.refl _ _))) (HU8.out.below (Nat.le_refl _) (Below.drew (Below.refl _ _))) HL.out HL.out).mono ?_
    rintro en we1 ⟨rfl, hb9⟩
    rw [HSM.out]
    have HBe1 := Lib.hid' (show Below w8.heap.size w8 we1 from (Below.drew (Below.refl _ _)).trans (hb9.mono (Nat.le_refl _)))
    clear hb9
    refine hK.out _ _ ?_ (fun hH1 => ?_)
    · exact ⟨(HBe1.out.cell (p := ⟨N, 0, none⟩) hNl).trans x0, (HBe1.out.cell (p := ⟨N, 1, none⟩) hNl).trans x1, (HBe1.out.cell (p := ⟨N, 2, none⟩) hNl).trans x2⟩
    clear hK K
    refine wpAnyH_take (i := 3) (oi := _) (v := .bool false) rfl (by kernel_rfl) (by kernel_rfl) (by kernel_rfl) (fun _ _ _ h => h) (Or.inl ⟨by rfl, ?_⟩) hH1 ?_
    · intro w hSw; go_simp
    simp only [Act.put, List.getElem_toArray, List.getElem_cons_zero, List.getElem_cons_succ, List.setIfInBounds_toArray, List.set_cons_zero, List.set_cons_succ]
    refine wpAnyH_take (i := 4) (oi := _) (v := .bool false) rfl (by kernel_rfl) (by kernel_rfl) (by kernel_rfl) (fun _ _ _ h => h) (Or.inl ⟨by rfl, ?_⟩) hH1 ?_
    · intro w hSw; go_simp
    simp only [Act.put, List.getElem_toArray, List.getElem_cons_zero, List.getElem_cons_succ, List.setIfInBounds_toArray, List.set_cons_zero, List.set_cons_succ]
    refine wpAnyH_take (i := 5) (oi := _) (v := .pointer (some ⟨bu, 0, none⟩)) rfl (by kernel_rfl) (by kernel_rfl) (by kernel_rfl) (fun _ _ _ h => h) (Or.inl ⟨by rfl, ?_⟩) hH1 ?_
    · intro w hSw; go_simp
    simp only [Act.put, List.getElem_toArray, List.getElem_cons_zero, List.getElem_cons_succ, List.setIfInBounds_toArray, List.set_cons_zero, List.set_cons_succ]
    refine wpAnyH_take (i := 8) (oi := _) (v := .agg #[.int .i64 e, .int .i64 l, .slice a4 E.length c4]) rfl (by kernel_rfl) (by kernel_rfl) (by kernel_rfl) (fun _ _ _ h => h) (Or.inl ⟨by rfl, ?_⟩) hH1 ?_
    · intro w hSw; go_simp
    simp only [Act.put, List.getElem_toArray, List.getElem_cons_zero, List.getElem_cons_succ, List.setIfInBounds_toArray, List.set_cons_zero, List.set_cons_succ]
    refine wpAnyH_take (i := 9) (oi := _) (v := .agg #[.int .i64 0, .int .i64 0, .slice none 0 0]) rfl (by kernel_rfl) (by kernel_rfl) (by kernel_rfl) (fun _ _ _ h => h) (Or.inl ⟨by rfl, ?_⟩) hH1 ?_
    · intro w hSw; go_simp
    simp only [Act.put, List.getElem_toArray, List.getElem_cons_zero, List.getElem_cons_succ, List.setIfInBounds_toArray, List.set_cons_zero, List.set_cons_succ]
    refine wpAnyH_ready (rs := [6]) (by kernel_rfl) (by simp) (AllReadyH.cons (o := _) rfl (fun K hK => ?_) AllReadyH.nil)
    go_simp
    refine (new_any _).mono ?_
    rintro en we2 ⟨rfl, hb9, hz9, hu9⟩
    have HUN := Lib.hid' (hu9 (fun q => q = we1.heap.size ∨ q = we1.heap.size + 1) (.inl rfl) (.inr rfl))
    have HBe2 := Lib.hid' (show Below w8.heap.size w8 we2 from HBe1.out.trans (hb9.mono HBe1.out.size))
    clear hb9 hz9 hu9
    refine hK.out _ _ ?_ (fun hH2 => ?_)
    · exact ⟨(HBe2.out.cell (p := ⟨N, 0, none⟩) hNl).trans x0, (HBe2.out.cell (p := ⟨N, 1, none⟩) hNl).trans x1, (HBe2.out.cell (p := ⟨N, 2, none⟩) hNl).trans x2⟩
    clear hK K
    refine wpAnyH_ready (rs := [7]) (by kernel_rfl) (by simp) (AllReadyH.cons (o := _) rfl (fun K hK => ?_) AllReadyH.nil)
    go_simp
    refine (usame_any _ (HU8.out.below (Nat.le_refl _) HBe2.out) HUN.out HL.out (by simp [U.new])).mono ?_
    rintro en we3 ⟨rfl, hb9⟩
    rw [HSN.out]
    have HBe3 := Lib.hid' (show Below w8.heap.size w8 we3 from HBe2.out.trans (hb9.mono HBe2.out.size))
    have HUN := Lib.hid' (HUN.out.below (Nat.le_refl _) hb9)
    clear hb9
    refine hK.out _ _ ?_ (fun hH3 => ?_)
    · exact ⟨(HBe3.out.cell (p := ⟨N, 0, none⟩) hNl).trans x0, (HBe3.out.cell (p := ⟨N, 1, none⟩) hNl).trans x1, (HBe3.out.cell (p := ⟨N, 2, none⟩) hNl).trans x2⟩
    clear hK K
    refine wpAnyH_ready (rs := [10]) (by kernel_rfl) (by simp) (AllReadyH.cons (o := _) rfl (fun K hK => ?_) AllReadyH.nil)
    go_simp
    refine (rSameE_any e l E ⟨0, 0, []⟩ a4 c4 none 0 _ (SlV.below HO8.out (Nat.le_refl _) HBe3.out) (rlist_nil _)).mono ?_
    rintro en we4 ⟨rfl, hb9⟩
    rw [HRQ.out]
    have HBe4 := Lib.hid' (show Below w8.heap.size w8 we4 from HBe3.out.trans (hb9.mono HBe3.out.size))
    have HUN := Lib.hid' (HUN.out.below (Nat.le_refl _) hb9)
    clear hb9
    refine hK.out _ _ ?_ (fun hH4 => ?_)
    · exact ⟨(HBe4.out.cell (p := ⟨N, 0, none⟩) hNl).trans x0, (HBe4.out.cell (p := ⟨N, 1, none⟩) hNl).trans x1, (HBe4.out.cell (p := ⟨N, 2, none⟩) hNl).trans x2⟩
    clear hK K
    refine wpAnyH_take (i := 11) (oi := _) (v := .bool false) rfl (by kernel_rfl) (by kernel_rfl) (by kernel_rfl) (fun _ _ _ h => h) (Or.inl ⟨by rfl, ?_⟩) hH4 ?_
    · intro w hSw; go_simp; (try simp)
    simp only [Act.put, List.getElem_toArray, List.getElem_cons_zero, List.getElem_cons_succ, List.setIfInBounds_toArray, List.set_cons_zero, List.set_cons_succ]
    refine wpAnyH_take (i := 12) (oi := _) (v := .bool false) rfl (by kernel_rfl) (by kernel_rfl) (by kernel_rfl) (fun _ _ _ h => h) (Or.inl ⟨by rfl, ?_⟩) hH4 ?_
    · intro w hSw; go_simp
    simp only [Act.put, List.getElem_toArray, List.getElem_cons_zero, List.getElem_cons_succ, List.setIfInBounds_toArray, List.set_cons_zero, List.set_cons_succ]
    refine wpAnyH_done (by kernel_rfl) ?_ _
    go_wp2_with fail
    go_meet
    exact ⟨rfl, HBe4.out⟩
  case rest =>
  obtain ⟨rfl, hbx⟩ := hcut
  have HX9 := Lib.hid' (HX8.out.below (Nat.le_refl _) hbx)
  have HO9 := Lib.hid' (SlV.below HO8.out (Nat.le_refl _) hbx)
  have HU9 := Lib.hid' (HU8.out.below (Nat.le_refl _) hbx)
  have HC9 := Lib.hid' (HC8.out.below (Nat.le_refl _) hbx)
  have HB9 := Lib.hid' (HB8.out.trans (hbx.mono HB8.out.size))
  have HZ9 := Lib.hid' (Nat.le_trans (Nat.le_of_eq HZ8.out.symm) hbx.size)
  clear hbx HX8 HO8 HU8 HC8 x0 x1 x2 hNl HB8 HZ8
  go_wp2_with fail
  refine (entries_any _ HU9.out (by have := HNO.out.1; show (docE E).length ≤ _; rw [docE_len]; omega)).mono ?_
  rintro en w10 ⟨F, af, cf, rfl, hF, ho, hby, hb10⟩
  obtain ⟨hFl, hFe⟩ := ents_at HGOOD.out hF
  have HFE := Lib.hid' hFe
  have HFL := Lib.hid' hFl
  have HOF := Lib.hid' (show SlV w10 (.slice af F.length cf) F.length (F.flatMap entV) from SlV.of_own ho)
  have HBF := Lib.hid' (show ∀ x ∈ F, Bytes w10 (.slice x.2.2.1 x.2.1.d.length x.2.2.2) x.2.1.d from fun x hx => SlV.of_own (hby x hx))
  have hEl : F.length ≤ 9223372036854775807 := by obtain ⟨_, _, he, h1, h2, _⟩ := HOF.out; cases he; unfold maxLen at h2; omega
  have HX10 := Lib.hid' (HX9.out.below (Nat.le_refl _) hb10)
  have HO10 := Lib.hid' (SlV.below HO9.out (Nat.le_refl _) hb10)
  have HU10 := Lib.hid' (HU9.out.below (Nat.le_refl _) hb10)
  have HC10 := Lib.hid' (HC9.out.below (Nat.le_refl _) hb10)
  have HB10 := Lib.hid' (HB9.out.trans (hb10.mono HB9.out.size))
  have HZ10 := Lib.hid' (Nat.le_trans HZ9.out hb10.size)
  have HS10 := Lib.hid' (HS.out.below (Nat.le_refl _) (HB7.out.trans (HB10.out.mono HB7.out.size)))
  clear hF ho hby hb10 hFe hFl HX9 HO9 HU9 HC9 HB9 HZ9
  go_wp2_with fail
  go_loopw [83] (fun v83 wr => ∃ j : Nat, v83 = .int .i64 j ∧ j ≤ F.length ∧ Below w10.heap.size w10 wr) (fun v83 _ => F.length - (intOf v83).toNat)
  case atStart => exact ⟨0, rfl, Nat.zero_le _, Below.refl _ _⟩
  case round =>
    obtain ⟨j, rfl, hj, hbj⟩ := hrel
    have HBj := Lib.hid' hbj
    clear hbj
    by_cases hltj : j < F.length
    · have hltE : j < E.length := by rw [← HFL.out]; exact hltj
      obtain ⟨b2, off2, rfl, hb2, hc2⟩ := SlV.row (s := 3) (fun _ => rfl) (by decide) (SlV.below HOF.out (Nat.le_refl _) HBj.out) hltj
      have d0 := hc2 0 _ rfl; have d1 := hc2 1 _ rfl; have d2 := hc2 2 _ rfl
      simp only [Nat.add_zero] at d0
      obtain ⟨hsl, hsb⟩ := HS10.out.below (Nat.le_refl _) HBj.out
      obtain ⟨b3, off3, rfl, hb3, hc3⟩ := SlV.row (s := 3) (fun _ => rfl) (by decide) hsl hltE
      have f0 := hc3 0 _ rfl; have f1 := hc3 1 _ rfl; have f2 := hc3 2 _ rfl
      simp only [Nat.add_zero] at f0
      have HFj := Lib.hid' (HBF.out _ (List.getElem_mem hltj))
      have HEj := Lib.hid' (hsb _ (List.getElem_mem hltE))
      have HQ := Lib.hid' (HFE.out j hltj hltE)
      clear hc2 hc3 hsl hsb
      generalize F[j] = fj at *
      generalize E[j] = ej at *
      obtain ⟨ja, jc, jad, jcap⟩ := fj
      obtain ⟨ka, kc, kad, kcap⟩ := ej
      simp only at HFj HEj HQ
      obtain rfl := HQ.out
      clear HQ
      go_upto_region 18 with fail
      have HBy := Lib.hid' (show Below wr.heap.size wr (wr.alloc (.cells #[.int .i64 ja, .int .i64 jc.k, .slice jad jc.d.length jcap] 102)) by go_grown)
      have HY := Lib.hid' (show BoxW wr.heap.size [.int .i64 ja, .int .i64 jc.k, .slice jad jc.d.length jcap] 102 (wr.alloc (.cells #[.int .i64 ja, .int .i64 jc.k, .slice jad jc.d.length jcap] 102)) from BoxW.start wr [.int .i64 ja, .int .i64 jc.k, .slice jad jc.d.length jcap] 102)
      have g1 := (HBy.out.cell (p := ⟨b3, off3 + j * 3 + 1, none⟩) hb3).trans f1
      have g2 := (HBy.out.cell (p := ⟨b3, off3 + j * 3 + 2, none⟩) hb3).trans f2
      have HFy := Lib.hid' (SlV.below HFj.out (Nat.le_refl _) (HBj.out.trans (HBy.out.mono HBj.out.size)))
      have HEy := Lib.hid' (SlV.below HEj.out (Nat.le_refl _) HBy.out)
      generalize wr.alloc (.cells #[.int .i64 ja, .int .i64 jc.k, .slice jad jc.d.length jcap] 102) = wy at *
      clear d0 d1 d2 f0 f1 f2
      have y1 := HY.out.box.1 1 _ rfl
      have y2 := HY.out.box.1 2 _ rfl
      have hzy := HY.out.lt
      have hb3y : b3 < wy.heap.size := Nat.lt_of_lt_of_le hb3 HBy.out.size
      have hltz : (j : Int) < (E.length : Int) := by omega
      refine wp_region_held_drew (S := (fun w' => w'.cell? ⟨wr.heap.size, 1, none⟩ = some (.int .i64 jc.k) ∧ w'.cell? ⟨wr.heap.size, 2, none⟩ = some (.slice jad jc.d.length jcap) ∧ w'.cell? ⟨b3, off3 + j * 3 + 1, none⟩ = some (.int .i64 jc.k) ∧ w'.cell? ⟨b3, off3 + j * 3 + 2, none⟩ = some (.slice kad jc.d.length kcap))) (by kernel_rfl) ⟨by simpa using y1, by simpa using y2, by simpa using g1, by simpa using g2⟩ (fun hH0 => ?_)
      refine wpAnyH_take (i := 0) (oi := _) (v := .int .i64 (j : Int)) rfl (by kernel_rfl) (by kernel_rfl) (by kernel_rfl) (fun _ _ _ h => h) (Or.inl ⟨by rfl, ?_⟩) hH0 ?_
      · intro w hSw; go_simp
      simp only [Act.put, List.getElem_toArray, List.getElem_cons_zero, List.getElem_cons_succ, List.setIfInBounds_toArray, List.set_cons_zero, List.set_cons_succ]
      refine wpAnyH_take (i := 1) (oi := _) (v := .slice (some ⟨b3, off3, none⟩) E.length c) rfl (by kernel_rfl) (by kernel_rfl) (by kernel_rfl) (fun _ _ _ h => h) (Or.inl ⟨by rfl, ?_⟩) hH0 ?_
      · intro w hSw; go_simp
      simp only [Act.put, List.getElem_toArray, List.getElem_cons_zero, List.getElem_cons_succ, List.setIfInBounds_toArray, List.set_cons_zero, List.set_cons_succ]
      refine wpAnyH_take (i := 2) (oi := _) (v := .int .i64 (E.length : Int)) rfl (by kernel_rfl) (by kernel_rfl) (by kernel_rfl) (fun _ _ _ h => h) (Or.inl ⟨by rfl, ?_⟩) hH0 ?_
      · intro w hSw; go_simp
      simp only [Act.put, List.getElem_toArray, List.getElem_cons_zero, List.getElem_cons_succ, List.setIfInBounds_toArray, List.set_cons_zero, List.set_cons_succ]
      refine wpAnyH_take (i := 3) (oi := _) (v := .bool true) rfl (by kernel_rfl) (by kernel_rfl) (by kernel_rfl) (fun _ _ _ h => h) (Or.inl ⟨by rfl, ?_⟩) hH0 ?_
      · intro w hSw; go_simp
      simp only [Act.put, List.getElem_toArray, List.getElem_cons_zero, List.getElem_cons_succ, List.setIfInBounds_toArray, List.set_cons_zero, List.set_cons_succ]
      refine wpAnyH_take (i := 4) (oi := _) (v := .bool true) rfl (by kernel_rfl) (by kernel_rfl) (by kernel_rfl) (fun _ _ _ h => h) (Or.inl ⟨by rfl, ?_⟩) hH0 ?_
      · intro w hSw; go_simp
      simp only [Act.put, List.getElem_toArray, List.getElem_cons_zero, List.getElem_cons_succ, List.setIfInBounds_toArray, List.set_cons_zero, List.set_cons_succ]
      refine wpAnyH_take (i := 5) (oi := _) (v := .pointer (some ⟨wr.heap.size, 1, none⟩)) rfl (by kernel_rfl) (by kernel_rfl) (by kernel_rfl) (fun _ _ _ h => h) (Or.inl ⟨by rfl, ?_⟩) hH0 ?_
      · intro w hSw; go_simp
      simp only [Act.put, List.getElem_toArray, List.getElem_cons_zero, List.getElem_cons_succ, List.setIfInBounds_toArray, List.set_cons_zero, List.set_cons_succ]
      refine wpAnyH_take (i := 6) (oi := _) (v := .agg #[.int .i64 jc.k, .slice jad jc.d.length jcap]) rfl (by kernel_rfl) (by kernel_rfl) (by kernel_rfl) (fun _ _ _ h => h) (Or.inl ⟨by rfl, ?_⟩) hH0 ?_
      · intro w hSw; go_simp
      simp only [Act.put, List.getElem_toArray, List.getElem_cons_zero, List.getElem_cons_succ, List.setIfInBounds_toArray, List.set_cons_zero, List.set_cons_succ]
      refine wpAnyH_take (i := 7) (oi := _) (v := .slice (some ⟨b3, off3, none⟩) E.length c) rfl (by kernel_rfl) (by kernel_rfl) (by kernel_rfl) (fun _ _ _ h => h) (Or.inl ⟨by rfl, ?_⟩) hH0 ?_
      · intro w hSw; go_simp
      simp only [Act.put, List.getElem_toArray, List.getElem_cons_zero, List.getElem_cons_succ, List.setIfInBounds_toArray, List.set_cons_zero, List.set_cons_succ]
      refine wpAnyH_take (i := 8) (oi := _) (v := .int .i64 (j : Int)) rfl (by kernel_rfl) (by kernel_rfl) (by kernel_rfl) (fun _ _ _ h => h) (Or.inl ⟨by rfl, ?_⟩) hH0 ?_
      · intro w hSw; go_simp
      simp only [Act.put, List.getElem_toArray, List.getElem_cons_zero, List.getElem_cons_succ, List.setIfInBounds_toArray, List.set_cons_zero, List.set_cons_succ]
      refine wpAnyH_take (i := 9) (oi := _) (v := .pointer (some ⟨b3, off3 + j * 3, none⟩)) rfl (by kernel_rfl) (by kernel_rfl) (by kernel_rfl) (fun _ _ _ h => h) (Or.inl ⟨by rfl, ?_⟩) hH0 ?_
      · intro w hSw; go_simp; (try (intro h; exfalso; omega))
      simp only [Act.put, List.getElem_toArray, List.getElem_cons_zero, List.getElem_cons_succ, List.setIfInBounds_toArray, List.set_cons_zero, List.set_cons_succ]
      refine wpAnyH_take (i := 10) (oi := _) (v := .pointer (some ⟨b3, off3 + j * 3 + 1, none⟩)) rfl (by kernel_rfl) (by kernel_rfl) (by kernel_rfl) (fun _ _ _ h => h) (Or.inl ⟨by rfl, ?_⟩) hH0 ?_
      · intro w hSw; go_simp
      simp only [Act.put, List.getElem_toArray, List.getElem_cons_zero, List.getElem_cons_succ, List.setIfInBounds_toArray, List.set_cons_zero, List.set_cons_succ]
      refine wpAnyH_take (i := 11) (oi := _) (v := .agg #[.int .i64 jc.k, .slice kad jc.d.length kcap]) rfl (by kernel_rfl) (by kernel_rfl) (by kernel_rfl) (fun _ _ _ h => h) (Or.inl ⟨by rfl, ?_⟩) hH0 ?_
      · intro w hSw; go_simp
      simp only [Act.put, List.getElem_toArray, List.getElem_cons_zero, List.getElem_cons_succ, List.setIfInBounds_toArray, List.set_cons_zero, List.set_cons_succ]
      refine wpAnyH_ready (rs := [12]) (by kernel_rfl) (by simp) (AllReadyH.cons (o := _) rfl (fun K hK => ?_) AllReadyH.nil)
      go_simp
      refine (same_any _ _ jc jc _ ⟨jad, jcap, rfl, SlV.below HFy.out (Nat.le_refl _) (Below.drew (Below.refl _ _))⟩ ⟨kad, kcap, rfl, SlV.below HEy.out (Nat.le_refl _) (Below.drew (Below.refl _ _))⟩).mono ?_
      rintro en wz ⟨rfl, hbz⟩
      rw [show (decide (jc = jc)) = true from by simp]
      have HBz := Lib.hid' (show Below wy.heap.size wy wz from (Below.drew (Below.refl _ _)).trans (hbz.mono (Nat.le_refl _)))
      clear hbz
      refine hK.out _ _ ?_ (fun hH1 => ?_)
      · exact ⟨(HBz.out.cell (p := ⟨wr.heap.size, 1, none⟩) hzy).trans y1, (HBz.out.cell (p := ⟨wr.heap.size, 2, none⟩) hzy).trans y2, (HBz.out.cell (p := ⟨b3, off3 + j * 3 + 1, none⟩) hb3y).trans g1, (HBz.out.cell (p := ⟨b3, off3 + j * 3 + 2, none⟩) hb3y).trans g2⟩
      clear hK K
      refine wpAnyH_take (i := 13) (oi := _) (v := .bool false) rfl (by kernel_rfl) (by kernel_rfl) (by kernel_rfl) (fun _ _ _ h => h) (Or.inl ⟨by rfl, ?_⟩) hH1 ?_
      · intro w hSw; go_simp
      simp only [Act.put, List.getElem_toArray, List.getElem_cons_zero, List.getElem_cons_succ, List.setIfInBounds_toArray, List.set_cons_zero, List.set_cons_succ]
      refine wpAnyH_take (i := 14) (oi := _) (v := .bool false) rfl (by kernel_rfl) (by kernel_rfl) (by kernel_rfl) (fun _ _ _ h => h) (Or.inl ⟨by rfl, ?_⟩) hH1 ?_
      · intro w hSw; go_simp
      simp only [Act.put, List.getElem_toArray, List.getElem_cons_zero, List.getElem_cons_succ, List.setIfInBounds_toArray, List.set_cons_zero, List.set_cons_succ]
      refine wpAnyH_done (by kernel_rfl) ?_ _
      go_wp2_with fail
      go_roundw
      case rel => exact ⟨j + 1, by go_num, by omega, HBj.out.trans ((HBy.out.trans (HBz.out.mono HBy.out.size)).mono HBj.out.size)⟩
      case measure => simp [intOf]; omega
    · have HXr := Lib.hid' (HX10.out.below (Nat.le_refl _) HBj.out)
      have HOr := Lib.hid' (SlV.below HO10.out (Nat.le_refl _) HBj.out)
      have HUr := Lib.hid' (HU10.out.below (Nat.le_refl _) HBj.out)
      have HCr := Lib.hid' (HC10.out.below (Nat.le_refl _) HBj.out)
      have HBr := Lib.hid' (HB10.out.trans (HBj.out.mono HB10.out.size))
      have HZr := Lib.hid' (Nat.le_trans HZ10.out HBj.out.size)
      clear HX10 HO10 HU10 HC10 HB10 HZ10 HS10 HOF HBF HFE HFL
      by_cases hlow : l < 1048576 ∧ e = 0
      rotate_left
      · rcases (show ¬ l < 1048576 ∨ (l < 1048576 ∧ (e == 0) = false) from by
          by_cases hl : l < 1048576
          · right; exact ⟨hl, by rw [beq_eq_false_iff_ne]; intro he; exact hlow ⟨hl, he⟩⟩
          · left; exact hl) with q1 | ⟨q1, q2⟩
        all_goals
          go_wp2_with fail
          go_ret
          exact ⟨rfl, HB7.out.trans (HBr.out.mono HB7.out.size)⟩
      obtain ⟨hl1, he0⟩ := hlow
      have he1 : (e == 0) = true := by simp [he0]
      have HLow := Lib.hid' hl1
      have HE0 := Lib.hid' he0
      have HA := Lib.hid' (show ∀ q, (q = wd2.heap.size + 1 ∨ q = wd2.heap.size) → q < wr.heap.size from fun q hq => by have := HZr.out; omega)
      clear he0
      go_wp2_with fail
      refine (trim_full _ _ rfl HE0.out HLow.out HCr.out HA.out).mono ?_
      rintro en w11 ⟨rfl, ut, hul, htl, hc11, hf11⟩
      have HBt := Lib.hid' (show Below wd2.heap.size wd2 w11 from HBr.out.trans (hf11.below HBr.out.size (fun q hq => by omega)))
      have HC11 := Lib.hid' hc11
      have HX11 := Lib.hid' (HX7.out.below (Nat.le_refl _) HBt.out)
      have HO11 := Lib.hid' (SlV.below HO7.out (Nat.le_refl _) HBt.out)
      have HU11 := Lib.hid' (HU7.out.below (Nat.le_refl _) HBt.out)
      have HSF := Lib.hid' (show sameB ut ⟨e, l, docE E⟩ = false from sameB_low (by rw [hul]; show (1048576 : Int) ≠ l; have := HLow.out; omega))
      have HTL := Lib.hid' (show ut.cells.length ≤ 4194304 from Nat.le_trans htl HL.out)
      clear hc11 hf11 HXr HOr HUr HCr HBr HZr hul htl
      go_upto_region 23 with fail
      have x0 := HX11.out.box.1 0 _ rfl; have x1 := HX11.out.box.1 1 _ rfl; have x2 := HX11.out.box.1 2 _ rfl
      have hNl := HX11.out.lt
      refine wp_region_held_drew (S := (fun w' => w'.cell? ⟨N, 0, none⟩ = some (.int .i64 e) ∧ w'.cell? ⟨N, 1, none⟩ = some (.int .i64 l) ∧ w'.cell? ⟨N, 2, none⟩ = some (.slice a4 E.length c4))) (by kernel_rfl) ⟨by simpa using x0, by simpa using x1, by simpa using x2⟩ (fun hH0 => ?_)
      refine wpAnyH_take (i := 0) (oi := _) (v := .pointer (some ⟨(wd2.heap.size + 1), 0, none⟩)) rfl (by kernel_rfl) (by kernel_rfl) (by kernel_rfl) (fun _ _ _ h => h) (Or.inl ⟨by rfl, ?_⟩) hH0 ?_
      · intro w hSw; go_simp
      simp only [Act.put, List.getElem_toArray, List.getElem_cons_zero, List.getElem_cons_succ, List.setIfInBounds_toArray, List.set_cons_zero, List.set_cons_succ]
      refine wpAnyH_take (i := 1) (oi := _) (v := .pointer (some ⟨bu, 0, none⟩)) rfl (by kernel_rfl) (by kernel_rfl) (by kernel_rfl) (fun _ _ _ h => h) (Or.inl ⟨by rfl, ?_⟩) hH0 ?_
      · intro w hSw; go_simp
      simp only [Act.put, List.getElem_toArray, List.getElem_cons_zero, List.getElem_cons_succ, List.setIfInBounds_toArray, List.set_cons_zero, List.set_cons_succ]
      refine wpAnyH_ready (rs := [2]) (by kernel_rfl) (by simp) (AllReadyH.cons (o := _) rfl (fun K hK => ?_) AllReadyH.nil)
      go_simp
      refine (usame_any _ (HC11.out.below (Nat.le_refl _) (Below.drew (Below.refl _ _))) (HU11.out.below (Nat.le_refl _) (Below.drew (Below.refl _ _))) HTL.out HL.out).mono ?_
      rintro en wg1 ⟨rfl, hb9⟩
      rw [HSF.out]
      have HBg1 := Lib.hid' (show Below w11.heap.size w11 wg1 from (Below.drew (Below.refl _ _)).trans (hb9.mono (Nat.le_refl _)))
      clear hb9
      refine hK.out _ _ ?_ (fun hH1 => ?_)
      · exact ⟨(HBg1.out.cell (p := ⟨N, 0, none⟩) hNl).trans x0, (HBg1.out.cell (p := ⟨N, 1, none⟩) hNl).trans x1, (HBg1.out.cell (p := ⟨N, 2, none⟩) hNl).trans x2⟩
      clear hK K
      refine wpAnyH_take (i := 3) (oi := _) (v := .bool true) rfl (by kernel_rfl) (by kernel_rfl) (by kernel_rfl) (fun _ _ _ h => h) (Or.inl ⟨by rfl, ?_⟩) hH1 ?_
      · intro w hSw; go_simp
      simp only [Act.put, List.getElem_toArray, List.getElem_cons_zero, List.getElem_cons_succ, List.setIfInBounds_toArray, List.set_cons_zero, List.set_cons_succ]
      refine wpAnyH_take (i := 4) (oi := _) (v := .bool true) rfl (by kernel_rfl) (by kernel_rfl) (by kernel_rfl) (fun _ _ _ h => h) (Or.inl ⟨by rfl, ?_⟩) hH1 ?_
      · intro w hSw; go_simp
      simp only [Act.put, List.getElem_toArray, List.getElem_cons_zero, List.getElem_cons_succ, List.setIfInBounds_toArray, List.set_cons_zero, List.set_cons_succ]
      refine wpAnyH_take (i := 5) (oi := _) (v := .pointer (some ⟨bu, 0, none⟩)) rfl (by kernel_rfl) (by kernel_rfl) (by kernel_rfl) (fun _ _ _ h => h) (Or.inl ⟨by rfl, ?_⟩) hH1 ?_
      · intro w hSw; go_simp
      simp only [Act.put, List.getElem_toArray, List.getElem_cons_zero, List.getElem_cons_succ, List.setIfInBounds_toArray, List.set_cons_zero, List.set_cons_succ]
      refine wpAnyH_take (i := 7) (oi := _) (v := .agg #[.int .i64 e, .int .i64 l, .slice a4 E.length c4]) rfl (by kernel_rfl) (by kernel_rfl) (by kernel_rfl) (fun _ _ _ h => h) (Or.inl ⟨by rfl, ?_⟩) hH1 ?_
      · intro w hSw; go_simp
      simp only [Act.put, List.getElem_toArray, List.getElem_cons_zero, List.getElem_cons_succ, List.setIfInBounds_toArray, List.set_cons_zero, List.set_cons_succ]
      refine wpAnyH_ready (rs := [6]) (by kernel_rfl) (by simp) (AllReadyH.cons (o := _) rfl (fun K hK => ?_) AllReadyH.nil)
      go_simp
      refine (docE_any _ (HU11.out.below (Nat.le_refl _) HBg1.out) HGOOD.out (by have := HNO.out.1; omega)).mono ?_
      rintro en wg2 ⟨a7, c7, rfl, ho7, hb9⟩
      have HO12 := Lib.hid' ho7
      have HBg2 := Lib.hid' (show Below w11.heap.size w11 wg2 from HBg1.out.trans (hb9.mono HBg1.out.size))
      clear ho7 hb9
      refine hK.out _ _ ?_ (fun hH2 => ?_)
      · exact ⟨(HBg2.out.cell (p := ⟨N, 0, none⟩) hNl).trans x0, (HBg2.out.cell (p := ⟨N, 1, none⟩) hNl).trans x1, (HBg2.out.cell (p := ⟨N, 2, none⟩) hNl).trans x2⟩
      clear hK K
      refine wpAnyH_ready (rs := [8]) (by kernel_rfl) (by simp) (AllReadyH.cons (o := _) rfl (fun K hK => ?_) AllReadyH.nil)
      go_simp
      refine (rSameEE_any e l E a7 c7 a4 c4 _ HO12.out (SlV.below HO11.out (Nat.le_refl _) HBg2.out)).mono ?_
      rintro en wg3 ⟨rfl, hb9⟩
      have HBg3 := Lib.hid' (show Below w11.heap.size w11 wg3 from HBg2.out.trans (hb9.mono HBg2.out.size))
      clear hb9
      refine hK.out _ _ ?_ (fun hH3 => ?_)
      · exact ⟨(HBg3.out.cell (p := ⟨N, 0, none⟩) hNl).trans x0, (HBg3.out.cell (p := ⟨N, 1, none⟩) hNl).trans x1, (HBg3.out.cell (p := ⟨N, 2, none⟩) hNl).trans x2⟩
      clear hK K
      refine wpAnyH_take (i := 9) (oi := _) (v := .bool true) rfl (by kernel_rfl) (by kernel_rfl) (by kernel_rfl) (fun _ _ _ h => h) (Or.inl ⟨by rfl, ?_⟩) hH3 ?_
      · intro w hSw; go_simp
      simp only [Act.put, List.getElem_toArray, List.getElem_cons_zero, List.getElem_cons_succ, List.setIfInBounds_toArray, List.set_cons_zero, List.set_cons_succ]
      refine wpAnyH_take (i := 10) (oi := _) (v := .bool true) rfl (by kernel_rfl) (by kernel_rfl) (by kernel_rfl) (fun _ _ _ h => h) (Or.inl ⟨by rfl, ?_⟩) hH3 ?_
      · intro w hSw; go_simp
      simp only [Act.put, List.getElem_toArray, List.getElem_cons_zero, List.getElem_cons_succ, List.setIfInBounds_toArray, List.set_cons_zero, List.set_cons_succ]
      refine wpAnyH_done (by kernel_rfl) ?_ _
      go_wp2_with fail
      go_ret
      exact ⟨rfl, HB7.out.trans ((HBt.out.trans (HBg3.out.mono HBt.out.size)).mono HB7.out.size)⟩

theorem unitMakes_any (e l : Int) (E : List Ent) (a : Option Addr) (c : Nat) (W : World) (h : EL W a c E) :
    Calls Try.prog 9 #[.int .i64 e, .int .i64 l, .slice a E.length c] W fun en w' => en = .returned (.bool true) ∧ Below W.heap.size W w' := by
  cases hs : (E.any longE || decide (60 < E.length))
  · by_cases hb : ofErr e l (docE E) = 0
    · exact makes_good e l E a c W h hs hb
    · exact makes_bad e l E a c W h hs hb
  · have HS := Lib.hid' h
    have HLG := Lib.hid' hs
    clear h hs
    go_enter Try.func9, Try.ntmps9
    go_wp2_with fail
    refine (alive8_any _).mono ?_
    rintro en w1 ⟨rfl, hb1⟩
    have HB1 := Lib.hid' hb1
    clear hb1
    go_wp2_with fail
    refine (long8_any E 60 (by decide) a c _ (HS.out.below (Nat.le_refl _) HB1.out)).mono ?_
    rintro en w2 ⟨rfl, hb2⟩
    rw [HLG.out]
    have HB2 := Lib.hid' (HB1.out.trans (hb2.mono HB1.out.size))
    go_wp2_with fail
    go_ret
    exact ⟨rfl, HB2.out⟩
end Go.Proofs.Ythjigopnlgngdaa
