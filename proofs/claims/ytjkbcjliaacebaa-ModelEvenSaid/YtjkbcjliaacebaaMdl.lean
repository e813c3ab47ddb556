/- Layer 33 (model): what each method of model.Log answers and does, over the plain machine of XMdlM. -/
import Derived.Test.YtjkbcjliaacebaaMdlM
import Derived.Test.YtjkbcjliaacebaaUnitE
namespace Go.Proofs.Ytjkbcjliaacebaa
open Go.RowKit
set_option linter.unusedSimpArgs false
set_option linter.unusedVariables false
set_option maxRecDepth 20000

structure LogAt (A : Nat → Prop) (w : World) (bl bm : Nat) (m : M) : Prop where
  blk : w.heap[bl]? = some (.cells #[.map (some bm), .int .i64 m.u.l, .int .i64 m.t] 108 (0, 0))
  map : CellsAt A w bm m.u.cells
  ok : m.ok
  abl : A bl
  abm : A bm
theorem LogAt.lt {A : Nat → Prop} {w : World} {bl bm : Nat} {m : M} (h : LogAt A w bl bm m) : bl < w.heap.size ∧ bm < w.heap.size := by
  obtain ⟨L, h1, _⟩ := h.map
  exact ⟨(Array.getElem?_eq_some_iff.1 h.blk).1, h1.lt⟩
theorem LogAt.ne {A : Nat → Prop} {w : World} {bl bm : Nat} {m : M} (h : LogAt A w bl bm m) : bl ≠ bm := by
  obtain ⟨L, ⟨es, clock, h1, _⟩, _⟩ := h.map
  intro e; have := h.blk; rw [e, h1] at this; simp at this
theorem LogAt.fr {A F : Nat → Prop} {w w' : World} {bl bm : Nat} {m : M} (h : LogAt A w bl bm m) (hf : Fr F w w') (h1 : ¬ F bl) (h2 : ¬ F bm) (hF : ∀ k, F k → A k) : LogAt A w' bl bm m :=
  ⟨(hf.block _ h.lt.1 h1).trans h.blk, h.map.fr hf (hf.block _ h.lt.2 h2) hF, h.ok, h.abl, h.abm⟩
theorem LogAt.below {A : Nat → Prop} {w w' : World} {bl bm : Nat} {m : M} (h : LogAt A w bl bm m) {B : Nat} (hB : w.heap.size ≤ B) (hb : Below B w w') : LogAt A w' bl bm m :=
  h.fr (Fr.of_below (F := fun _ => False) (hb.mono hB)) (fun h => h) (fun h => h) (fun _ h => h.elim)
theorem LogAt.cell {A : Nat → Prop} {w : World} {bl bm : Nat} {m : M} (h : LogAt A w bl bm m) :
    w.cell? ⟨bl, 0, none⟩ = some (.map (some bm)) ∧ w.cell? ⟨bl, 1, none⟩ = some (.int .i64 m.u.l) ∧ w.cell? ⟨bl, 2, none⟩ = some (.int .i64 m.t) := by
  refine ⟨?_, ?_, ?_⟩ <;> simp [World.cell?, h.blk]
theorem LogAt.free {A : Nat → Prop} {w : World} {bl bm : Nat} {m : M} (h : LogAt A w bl bm m) (o : Nat) : w.frozen? ⟨bl, o, none⟩ = false := by
  simp [World.frozen?, h.blk]
def LogR (v : Value) (A : Nat → Prop) (bl bm : Nat) (m : M) (w : World) (en : Ending) (w' : World) : Prop :=
  en = .returned v ∧ LogAt A w' bl bm m ∧ Fr (fun k => k = bl ∨ k = bm) w w'
theorem LogR.same {v : Value} {A : Nat → Prop} {bl bm : Nat} {m : M} {w : World} {en : Ending} {w' : World} (h : LogAt A w bl bm m) (he : en = .returned v) (hb : Below w.heap.size w w') : LogR v A bl bm m w en w' :=
  ⟨he, h.below (Nat.le_refl _) hb, Fr.of_below hb⟩

theorem mnew_any (w : World) : Calls Try.prog 28 #[] w fun e w' => e = .returned (.pointer (some ⟨w.heap.size + 1, 0, none⟩)) ∧ Below w.heap.size w w' ∧ w'.heap.size = w.heap.size + 2 ∧ ∀ A : Nat → Prop, A w.heap.size → A (w.heap.size + 1) → LogAt A w' (w.heap.size + 1) w.heap.size M.new := by
  have hmm := @run_makeMap Try.prog
  go_enter Try.func28, Try.ntmps28
  go_wp2
  go_ret
  refine ⟨rfl, by go_grown, by simp, fun A h1 h2 => ⟨?_, ⟨[], ?_, .nil⟩, M.ok_new, h2, h1⟩⟩
  · exact heap_alloc2_new w _ _
  · exact (MapAt.made w).block (Below.heap_alloc _ _ _ (by simp))
theorem min_any (x m : Int) (w : World) : Calls Try.prog 60 #[.int .i64 x, .int .i64 m] w fun e w' => e = .returned (.bool (inR x m)) ∧ w = w' := by
  go_enter Try.func60, Try.ntmps60
  go_wp2
  all_goals go_ret
  all_goals refine ⟨ret_eq ?_, rfl⟩
  · have h : (0 : Int) ≤ x := by assumption
    simp [inR, h]
  · have h : x < 0 := by assumption
    have h' : ¬ (0 : Int) ≤ x := by omega
    simp [inR, h']
theorem masks_any (bl : Nat) (f : Bool) (w : World) : Calls Try.prog 59 #[.pointer (some ⟨bl, 0, none⟩), .bool f] w fun en w' => en = .returned (errV (if f then 0 else 1)) ∧ w = w' := by
  cases f
  · go_enter Try.func59, Try.ntmps59
    go_wp2
    go_ret
    exact ⟨rfl, rfl⟩
  · go_enter Try.func59, Try.ntmps59
    go_wp2
    go_ret
    exact ⟨rfl, rfl⟩
theorem masks_nil (f : Bool) (w : World) : Calls Try.prog 59 #[.pointer none, .bool f] w fun en w' => en = .returned (errV 4) ∧ w = w' := by
  go_enter Try.func59, Try.ntmps59
  go_wp2
  go_ret
  exact ⟨rfl, rfl⟩
theorem mtail_any {A : Nat → Prop} {bl bm : Nat} {m : M} (w : World) (h : LogAt A w bl bm m) : Calls Try.prog 21 #[.pointer (some ⟨bl, 0, none⟩)] w fun en w' => en = .returned (.tuple #[.int .i64 m.t, .nilIface]) ∧ w = w' := by
  obtain ⟨_, _, c2⟩ := h.cell
  clear h
  go_enter Try.func21, Try.ntmps21
  go_wp2
  go_ret2
  exact ⟨rfl, rfl⟩
theorem mtail_nil (w : World) : Calls Try.prog 21 #[.pointer none] w fun en w' => en = .returned (.tuple #[.int .i64 0, errV 4]) ∧ w = w' := by
  go_enter Try.func21, Try.ntmps21
  go_wp2
  go_ret2
  exact ⟨rfl, rfl⟩

set_option maxHeartbeats 1000000 in
theorem mat_any {A : Nat → Prop} {bl bm : Nat} {m : M} (a : Int) (w : World) (h : LogAt A w bl bm m) : Calls Try.prog 61 #[.pointer (some ⟨bl, 0, none⟩), .int .i64 a] w (CopyR (m.u.at a) w) := by
  obtain ⟨c0, c1, _⟩ := h.cell
  have hlt := h.lt.1
  by_cases hl : a < m.u.l
  · have e1 := Lib.hid' (show m.u.at a = ⟨3, []⟩ by simp [U.at, hl])
    clear h
    go_enter Try.func61, Try.ntmps61
    go_wp2
    refine bodyPost_ret (v := .agg #[.int .i64 3, .slice none 0 0]) (by simp [results, Try.results61, go_sem]) rfl ?_
    rw [e1.out]
    exact ⟨_, _, rfl, own_nil _ _ _ _, by go_grown⟩
  · have e1 := Lib.hid' (show m.u.at a = lookC m.u.cells a by simp [U.at, hl])
    obtain ⟨L, ad, cap, hm, hv, hb⟩ := h.map.look a
    have HM := Lib.hid' hm
    have HV := Lib.hid' hv
    have HB := Lib.hid' hb
    have Hlen := Lib.hid' (show (lookC m.u.cells a).d.length ≤ 1099511627776 by have := U.at_len h.ok.u a; rw [e1.out] at this; omega)
    clear h hm hv hb
    go_enter Try.func61, Try.ntmps61
    go_wp2_with (at_lookup; refine wp_look (b := bm) (L := L) mtCells rfl (.tmp 15) (.tmp 16) rfl rfl a rfl (HM.out.block (Below.heap_alloc _ _ _ HM.out.lt)) ?_; rw [HV.out])
    refine (copy_any _ (lookC m.u.cells a) _ ⟨_, _, rfl, SlV.below HB.out (Nat.le_refl _) (by go_grown)⟩ Hlen.out).mono ?_
    rintro en w2 ⟨a2, cp2, rfl, ho, hb2⟩
    have HO := Lib.hid' ho
    have hc2 := (bcell hb2).1
    have hz2 := hb2.size
    have lt1 : w.heap.size < w2.heap.size := by simp at hz2; omega
    have k0 : w2.cell? ⟨w.heap.size, 0, none⟩ = some (.int .i64 0) := (hc2 _ _ (by simp)).trans (by simp [go_sem])
    have k1 : w2.cell? ⟨w.heap.size, 1, none⟩ = some (.slice none 0 0) := (hc2 _ _ (by simp)).trans (by simp [go_sem])
    have f0 : w2.frozen? ⟨w.heap.size, 0, none⟩ = false := ((bcell hb2).2 _ _ (by simp)).trans (by simp [go_sem])
    have f1 : w2.frozen? ⟨w.heap.size, 1, none⟩ = false := ((bcell hb2).2 _ _ (by simp)).trans (by simp [go_sem])
    clear ho hc2
    go_wp2
    refine bodyPost_ret (v := .agg #[.int .i64 (lookC m.u.cells a).k, .slice a2 (lookC m.u.cells a).d.length cp2]) (by simp [results, Try.results61, go_sem, k0, k1]) rfl ?_
    rw [e1.out]
    refine ⟨_, _, rfl, own_base (ownsRow_setCell_below (ownsRow_setCell_below HO.out (by simp) _) (by simp) _) (by simp <;> omega), ?_⟩
    refine Below.setCell (Below.setCell ?_ (by simp) _) (by simp) _
    exact below_call (B := w.heap.size) (w := w) (by go_grown) (by go_size) hb2

theorem CellsAt.put {A F : Nat → Prop} {w w2 w3 : World} {bm : Nat} {M : List (Int × C)} (hA : ∀ k, A k → k < w.heap.size) {L : List (Int × Value)} {a : Int} {c : C} {ad : Option Addr} {cap : Nat}
    (hL : F2 (EntIs A w2) L M) (hm3 : MapAt w3 bm (putE L a (.agg #[.int .i64 c.k, .slice ad c.d.length cap]))) (hf3 : Fr F w2 w3) (hF : ∀ k, F k → A k) (hv : Bytes w2 (.slice ad c.d.length cap) c.d) (hin : ∀ x, ad = some x → w.heap.size ≤ x.block ∧ x.block < w2.heap.size) :
    CellsAt A w3 bm (putC M a c) := by
  refine ⟨_, hm3, F2.put (hL.mono fun p q _ _ hpq => hpq.fr hf3 hF) ⟨rfl, ad, cap, rfl, ?_, ?_⟩⟩
  · refine SlV.fr hv hf3 ?_
    intro x n c' hx
    simp only [Value.slice.injEq] at hx
    have h5 := (hin x hx.1).1
    intro hk
    have := hA _ (hF _ hk); omega
  · intro x hx
    have h5 := hin x hx
    exact ⟨fun hk => by have := hA _ hk; omega, Nat.lt_of_lt_of_le h5.2 hf3.size⟩

set_option maxHeartbeats 1000000 in
theorem set_any {A : Nat → Prop} {bl bm : Nat} {m : M} (a : Int) (v : Value) (c : C) (w : World) (h : LogAt A w bl bm m) (hA : ∀ k, A k → k < w.heap.size) (hv : CellIs w v c) (hl : c.d.length ≤ 64) (hok : (m.put' a c).ok) (ha : 0 ≤ a ∧ a < 1048576) :
    Calls Try.prog 58 #[.pointer (some ⟨bl, 0, none⟩), .int .i64 a, v] w (LogR (.tuple #[]) A bl bm (m.put' a c) w) := by
  have H := Lib.hid' h
  obtain ⟨c0, c1, c2⟩ := h.cell
  have f2 := h.free 2
  have hlt := h.lt.1
  have hltm := h.lt.2
  have HNE := Lib.hid' h.ne
  have HA := Lib.hid' hA
  have HOK := Lib.hid' hok
  obtain ⟨ad, cp, rfl, hd⟩ := hv
  have HD := Lib.hid' hd
  have ht := h.ok.t1
  have ht0 : 0 ≤ m.t := Int.le_trans h.ok.u.l0 h.ok.lt
  clear h hA hok hd
  go_enter Try.func58, Try.ntmps58
  go_wp2_with fail
  refine wp_region_held_drew (S := (fun w' => w'.cell? ⟨bl, 0, none⟩ = some (.map (some bm)) ∧ w'.cell? ⟨w.heap.size, 0, none⟩ = some (.int .i64 c.k) ∧ w'.cell? ⟨w.heap.size, 1, none⟩ = some (.slice ad c.d.length cp))) (by kernel_rfl) ⟨by simp [go_sem, c0, hlt], by simp [go_sem], by simp [go_sem]⟩ (fun hH0 => ?_)
  refine wpAnyH_take (i := 0) (oi := _) (v := .pointer (some ⟨bl, 0, none⟩)) rfl (by kernel_rfl) (by kernel_rfl) (by kernel_rfl) (fun _ _ _ h => h) (Or.inl ⟨by rfl, ?_⟩) hH0 ?_
  · intro w hSw; go_simp
  simp only [Act.put, List.getElem_toArray, List.getElem_cons_zero, List.getElem_cons_succ, List.setIfInBounds_toArray, List.set_cons_zero, List.set_cons_succ]
  refine wpAnyH_take (i := 1) (oi := _) (v := .pointer (some ⟨bl, 0, none⟩)) rfl (by kernel_rfl) (by kernel_rfl) (by kernel_rfl) (fun _ _ _ h => h) (Or.inl ⟨by rfl, ?_⟩) hH0 ?_
  · intro w hSw; go_simp
  simp only [Act.put, List.getElem_toArray, List.getElem_cons_zero, List.getElem_cons_succ, List.setIfInBounds_toArray, List.set_cons_zero, List.set_cons_succ]
  refine wpAnyH_take (i := 2) (oi := _) (v := .pointer (some ⟨bl, 0, none⟩)) rfl (by kernel_rfl) (by kernel_rfl) (by kernel_rfl) (fun _ _ _ h => h) (Or.inl ⟨by rfl, ?_⟩) hH0 ?_
  · intro w hSw; go_simp
  simp only [Act.put, List.getElem_toArray, List.getElem_cons_zero, List.getElem_cons_succ, List.setIfInBounds_toArray, List.set_cons_zero, List.set_cons_succ]
  refine wpAnyH_take (i := 3) (oi := _) (v := .map (some bm)) rfl (by kernel_rfl) (by kernel_rfl) (by kernel_rfl) (fun _ _ _ h => h) (Or.inl ⟨by rfl, ?_⟩) hH0 ?_
  · intro w hSw; go_simp
  simp only [Act.put, List.getElem_toArray, List.getElem_cons_zero, List.getElem_cons_succ, List.setIfInBounds_toArray, List.set_cons_zero, List.set_cons_succ]
  refine wpAnyH_take (i := 4) (oi := _) (v := .int .i64 a) rfl (by kernel_rfl) (by kernel_rfl) (by kernel_rfl) (fun _ _ _ h => h) (Or.inl ⟨by rfl, ?_⟩) hH0 ?_
  · intro w hSw; go_simp
  simp only [Act.put, List.getElem_toArray, List.getElem_cons_zero, List.getElem_cons_succ, List.setIfInBounds_toArray, List.set_cons_zero, List.set_cons_succ]
  refine wpAnyH_take (i := 5) (oi := _) (v := .agg #[.int .i64 c.k, .slice ad c.d.length cp]) rfl (by kernel_rfl) (by kernel_rfl) (by kernel_rfl) (fun _ _ _ h => h) (Or.inl ⟨by rfl, ?_⟩) hH0 ?_
  · intro w hSw; go_simp
  simp only [Act.put, List.getElem_toArray, List.getElem_cons_zero, List.getElem_cons_succ, List.setIfInBounds_toArray, List.set_cons_zero, List.set_cons_succ]
  refine wpAnyH_ready (rs := [6]) (by kernel_rfl) (by simp) (AllReadyH.cons (o := _) rfl (fun K hK => ?_) AllReadyH.nil)
  go_simp
  refine (copy_any _ c _ ⟨ad, cp, rfl, SlV.below HD.out (Nat.le_refl _) (by go_grown)⟩ (by omega)).mono ?_
  rintro en w2 ⟨a2, cp2, rfl, ho, hb2⟩
  have HO := Lib.hid' ho
  have HB2 := Lib.hid' (show Below w.heap.size w w2 from below_call (B := w.heap.size) (w := w) (by go_grown) (by go_size) hb2)
  have HW2 := Lib.hid' (H.out.below (Nat.le_refl _) HB2.out)
  have z0 := HW2.out.cell.1
  have z1 : w2.cell? ⟨w.heap.size, 0, none⟩ = some (.int .i64 c.k) := ((bcell hb2).1 _ _ (by simp)).trans (by simp [go_sem])
  have z2 : w2.cell? ⟨w.heap.size, 1, none⟩ = some (.slice ad c.d.length cp) := ((bcell hb2).1 _ _ (by simp)).trans (by simp [go_sem])
  clear ho hb2
  refine hK.out _ _ ?_ (fun hH1 => ?_)
  · exact ⟨z0, z1, z2⟩
  clear hK K
  obtain ⟨L, hm, hL⟩ := HW2.out.map
  obtain ⟨ob, hrun, hm3⟩ := run_store mtCells hm a (.agg #[.int .i64 c.k, .slice a2 c.d.length cp2])
  have hnw : ¬ w.heap.size = bm := by have := hltm; omega
  refine wpAnyH_ready (rs := [7]) (by kernel_rfl) (by simp) (AllReadyH.cons (o := _) rfl (fun K hK => ?_) AllReadyH.nil)
  go_simp
  refine hK.out _ _ ?_ (fun hH2 => ?_)
  · exact ⟨(setBlk_fr _ _ _).cell z0 HNE.out, (setBlk_fr _ _ _).cell z1 hnw, (setBlk_fr _ _ _).cell z2 hnw⟩
  clear hK K
  refine wpAnyH_done (by kernel_rfl) ?_ _
  have HF3 := Lib.hid' (show Fr (· = bm) w2 (setBlk w2 bm ob) from setBlk_fr _ _ _)
  have HM3 := Lib.hid' hm3
  have HL := Lib.hid' hL
  have HM := Lib.hid' hm
  have y1 : (setBlk w2 bm ob).cell? ⟨bl, 2, none⟩ = some (.int .i64 m.t) := HF3.out.cell HW2.out.cell.2.2 HNE.out
  have y2 : (setBlk w2 bm ob).frozen? ⟨bl, 2, none⟩ = false := by
    have := HW2.out.free 2
    rw [← this]; simp only [World.frozen?, HF3.out.block bl HW2.out.lt.1 HNE.out]
  have HY := Lib.hid' (show (setBlk w2 bm ob).heap[bl]? = some (.cells #[.map (some bm), .int .i64 m.u.l, .int .i64 m.t] 108 (0, 0)) from (HF3.out.block bl HW2.out.lt.1 HNE.out).trans HW2.out.blk)
  clear hrun hm3 hm hL z0 z1 z2 hH0 hH1 hH2 c0 c1 c2 f2
  generalize setBlk w2 bm ob = w3 at *
  go_wp2
  go_end0
  have HF4 := Lib.hid' (show Fr (fun k => k = bl ∨ k = bm) w2 (w3.setCell ⟨bl, 2, none⟩ (.int .i64 (max m.t (a + 1)))) from (HF3.out.mono (fun k hk => Or.inr hk)).trans (fr_set w3 bl 2 _) (fun k hk => Or.inl (Or.inl hk)))
  refine ⟨rfl, ⟨heap_setCell_same w3 bl 2 _ _ _ HY.out, ?_, HOK.out, H.out.abl, H.out.abm⟩, (Fr.of_below HB2.out).trans HF4.out (fun k hk => .inl hk)⟩
  exact CellsAt.put HA.out HL.out (HM3.out.block (heap_setCell_other _ _ _ _ (fun h => HNE.out h.symm))) HF4.out (fun k hk => by rcases hk with rfl | rfl; exact H.out.abl; exact H.out.abm) (SlV.of_own HO.out) (fun x hx => by have := own_in HO.out x _ _ (by rw [hx]); simp at this; omega)
end Go.Proofs.Ytjkbcjliaacebaa
