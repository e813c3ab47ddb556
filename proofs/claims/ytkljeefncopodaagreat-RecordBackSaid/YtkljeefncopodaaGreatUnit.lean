/- Layer 8 (unit): what each method answers and does, over the plain machine of XUnitM. -/
import Derived.Test.YtkljeefncopodaaGreatCell
namespace Go.Proofs.YtkljeefncopodaaGreat
open Go.RowKit
set_option linter.unusedSimpArgs false
set_option linter.unusedVariables false
set_option maxRecDepth 20000

def zCell : Value := .agg #[.int .i64 0, .slice none 0 0]
theorem mtCells : MapT Tryz.prog 137 3 116 zCell := ⟨Tryz.underlying137, Tryz.underlying3, fun w => by kernel_rfl⟩

/-- an entry of a map of cells reads as this one; its bytes lie outside A -/
def EntIs (A : Nat → Prop) (w : World) (p : Int × Value) (q : Int × C) : Prop :=
  p.1 = q.1 ∧ ∃ a cap, p.2 = .agg #[.int .i64 q.2.k, .slice a q.2.d.length cap] ∧ Bytes w (.slice a q.2.d.length cap) q.2.d ∧ ∀ x, a = some x → ¬ A x.block ∧ x.block < w.heap.size

def CellsAt (A : Nat → Prop) (w : World) (bm : Nat) (M : List (Int × C)) : Prop := ∃ L, MapAt w bm L ∧ F2 (EntIs A w) L M

structure UnitAt (A : Nat → Prop) (w : World) (bu bm : Nat) (u : U) : Prop where
  blk : w.heap[bu]? = some (.cells #[.int .i64 u.e, .int .i64 u.l, .map (some bm)] 139 (0, 0))
  map : CellsAt A w bm u.cells
  ok : u.ok
  abu : A bu
  abm : A bm

theorem EntIs.fr {A F : Nat → Prop} {w w' : World} {p : Int × Value} {q : Int × C} (h : EntIs A w p q) (hf : Fr F w w') (hF : ∀ k, F k → A k) : EntIs A w' p q := by
  obtain ⟨h1, a, cap, h2, h3, h4⟩ := h
  refine ⟨h1, a, cap, h2, SlV.fr h3 hf ?_, fun x hx => ⟨(h4 x hx).1, Nat.lt_of_lt_of_le (h4 x hx).2 hf.size⟩⟩
  intro x n c hv
  simp only [Value.slice.injEq] at hv
  exact fun hk => (h4 x hv.1).1 (hF _ hk)

theorem CellsAt.fr {A F : Nat → Prop} {w w' : World} {bm : Nat} {M : List (Int × C)} (h : CellsAt A w bm M) (hf : Fr F w w') (hb : w'.heap[bm]? = w.heap[bm]?) (hF : ∀ k, F k → A k) : CellsAt A w' bm M := by
  obtain ⟨L, h1, h2⟩ := h
  exact ⟨L, h1.block hb, h2.mono fun _ _ _ _ h => h.fr hf hF⟩

theorem UnitAt.lt {A : Nat → Prop} {w : World} {bu bm : Nat} {u : U} (h : UnitAt A w bu bm u) : bu < w.heap.size ∧ bm < w.heap.size := by
  obtain ⟨L, h1, _⟩ := h.map
  exact ⟨(Array.getElem?_eq_some_iff.1 h.blk).1, h1.lt⟩
theorem UnitAt.ne {A : Nat → Prop} {w : World} {bu bm : Nat} {u : U} (h : UnitAt A w bu bm u) : bu ≠ bm := by
  obtain ⟨L, ⟨es, clock, h1, _⟩, _⟩ := h.map
  intro e; have := h.blk; rw [e, h1] at this; simp at this

theorem UnitAt.fr {A F : Nat → Prop} {w w' : World} {bu bm : Nat} {u : U} (h : UnitAt A w bu bm u) (hf : Fr F w w') (h1 : ¬ F bu) (h2 : ¬ F bm) (hF : ∀ k, F k → A k) : UnitAt A w' bu bm u :=
  ⟨(hf.block _ h.lt.1 h1).trans h.blk, h.map.fr hf (hf.block _ h.lt.2 h2) hF, h.ok, h.abu, h.abm⟩
theorem UnitAt.below {A : Nat → Prop} {w w' : World} {bu bm : Nat} {u : U} (h : UnitAt A w bu bm u) {B : Nat} (hB : w.heap.size ≤ B) (hb : Below B w w') : UnitAt A w' bu bm u :=
  h.fr (Fr.of_below (F := fun _ => False) (hb.mono hB)) (fun h => h) (fun h => h) (fun _ h => h.elim)
theorem UnitAt.cell {A : Nat → Prop} {w : World} {bu bm : Nat} {u : U} (h : UnitAt A w bu bm u) :
    w.cell? ⟨bu, 0, none⟩ = some (.int .i64 u.e) ∧ w.cell? ⟨bu, 1, none⟩ = some (.int .i64 u.l) ∧ w.cell? ⟨bu, 2, none⟩ = some (.map (some bm)) := by
  refine ⟨?_, ?_, ?_⟩ <;> simp [World.cell?, h.blk]
theorem UnitAt.free {A : Nat → Prop} {w : World} {bu bm : Nat} {u : U} (h : UnitAt A w bu bm u) (o : Nat) : w.frozen? ⟨bu, o, none⟩ = false := by
  simp [World.frozen?, h.blk]
/-- what an entry's look-up gives -/
theorem CellsAt.look {A : Nat → Prop} {w : World} {bm : Nat} {M : List (Int × C)} (h : CellsAt A w bm M) (a : Int) : ∃ L ad cap, MapAt w bm L ∧ (lookE L a).getD zCell = .agg #[.int .i64 (lookC M a).k, .slice ad (lookC M a).d.length cap] ∧ Bytes w (.slice ad (lookC M a).d.length cap) (lookC M a).d := by
  obtain ⟨L, h1, h2⟩ := h
  rcases h2.find (f := fun p => p.1 == a) (g := fun p => p.1 == a) (fun p q h => by rw [h.1]) with ⟨e1, e2⟩ | ⟨p, q, e1, e2, hr⟩
  · refine ⟨L, none, 0, h1, ?_, ?_⟩
    · simp [lookE, lookC, e1, e2, zCell]
    · simp only [lookC, e2]; exact SlV.empty _ _ _ (Nat.zero_le _) (fun _ => rfl)
  · obtain ⟨_, ad, cap, hv, hb, _⟩ := hr
    refine ⟨L, ad, cap, h1, ?_, ?_⟩
    · simp [lookE, lookC, e1, e2, hv]
    · simp only [lookC, e2]; exact hb

theorem in_any (x m : Int) (w : World) : Calls Tryz.prog 67 #[.int .i64 x, .int .i64 m] w fun e w' => e = .returned (.bool (inR x m)) ∧ w = w' := by
  go_enter Tryz.func67, Tryz.ntmps67
  go_wp2
  all_goals go_ret
  all_goals refine ⟨ret_eq ?_, rfl⟩
  · have h : (0 : Int) ≤ x := by assumption
    simp [inR, h]
  · have h : x < 0 := by assumption
    have h' : ¬ (0 : Int) ≤ x := by omega
    simp [inR, h']

theorem cur_any {A : Nat → Prop} {bu bm : Nat} {u : U} (e : Int) (w : World) (h : UnitAt A w bu bm u) : Calls Tryz.prog 132 #[.pointer (some ⟨bu, 0, none⟩), .int .i64 e] w fun en w' => en = .returned (errV (u.cur e)) ∧ w = w' := by
  obtain ⟨c0, _, _⟩ := h.cell
  clear h
  go_enter Tryz.func132, Tryz.ntmps132
  go_wp2
  all_goals go_ret
  all_goals refine ⟨ret_eq ?_, rfl⟩
  all_goals (unfold U.cur; (repeat' split) <;> first | rfl | (exfalso; omega))

theorem asks_any {A : Nat → Prop} {bu bm : Nat} {u : U} (e : Int) (f : Bool) (w : World) (h : UnitAt A w bu bm u) : Calls Tryz.prog 134 #[.pointer (some ⟨bu, 0, none⟩), .int .i64 e, .bool f] w fun en w' => en = .returned (errV (u.asks e f)) ∧ w = w' := by
  have H := Lib.hid' h
  clear h
  cases f
  · go_enter Tryz.func134, Tryz.ntmps134
    go_wp2
    go_ret
    exact ⟨rfl, rfl⟩
  · go_enter Tryz.func134, Tryz.ntmps134
    go_wp2_with (go_at_call 132; refine (cur_any _ _ H.out).mono ?_; rintro en w' ⟨rfl, rfl⟩)
    go_ret
    exact ⟨rfl, rfl⟩
theorem asks_nil (e : Int) (f : Bool) (w : World) : Calls Tryz.prog 134 #[.pointer none, .int .i64 e, .bool f] w fun en w' => en = .returned (errV 4) ∧ w = w' := by
  go_enter Tryz.func134, Tryz.ntmps134
  go_wp2
  go_ret
  exact ⟨rfl, rfl⟩

def NewR (w : World) (en : Ending) (w' : World) : Prop := en = .returned (.pointer (some ⟨w.heap.size + 1, 0, none⟩)) ∧ Below w.heap.size w w' ∧ w'.heap.size = w.heap.size + 2 ∧ ∀ A : Nat → Prop, A w.heap.size → A (w.heap.size + 1) → UnitAt A w' (w.heap.size + 1) w.heap.size U.new

theorem new_any (w : World) : Calls Tryz.prog 70 #[] w (NewR w) := by
  have hmm := @run_makeMap Tryz.prog
  go_enter Tryz.func70, Tryz.ntmps70
  go_wp2
  go_ret
  refine ⟨rfl, by go_grown, by simp, fun A h1 h2 => ⟨?_, ⟨[], ?_, .nil⟩, U.ok_new, h2, h1⟩⟩
  · exact heap_alloc2_new w _ _
  · exact (MapAt.made w).block (Below.heap_alloc _ _ _ (by simp))

theorem low_any {A : Nat → Prop} {bu bm : Nat} {u : U} (w : World) (h : UnitAt A w bu bm u) : Calls Tryz.prog 61 #[.pointer (some ⟨bu, 0, none⟩)] w fun en w' => en = .returned (.int .i64 u.l) ∧ w = w' := by
  obtain ⟨_, c1, _⟩ := h.cell
  clear h
  go_enter Tryz.func61, Tryz.ntmps61
  go_wp2
  go_ret
  exact ⟨rfl, rfl⟩
theorem epoch_any {A : Nat → Prop} {bu bm : Nat} {u : U} (w : World) (h : UnitAt A w bu bm u) : Calls Tryz.prog 60 #[.pointer (some ⟨bu, 0, none⟩)] w fun en w' => en = .returned (.int .i64 u.e) ∧ w = w' := by
  obtain ⟨c0, _, _⟩ := h.cell
  clear h
  go_enter Tryz.func60, Tryz.ntmps60
  go_wp2
  go_ret
  exact ⟨rfl, rfl⟩

def AtR (c : C) (w : World) (en : Ending) (w' : World) : Prop := ∃ a cap, en = .returned (.agg #[.int .i64 c.k, .slice a c.d.length cap]) ∧ Bytes w' (.slice a c.d.length cap) c.d ∧ Below w.heap.size w w'

theorem at_any {A : Nat → Prop} {bu bm : Nat} {u : U} (a : Int) (w : World) (h : UnitAt A w bu bm u) : Calls Tryz.prog 133 #[.pointer (some ⟨bu, 0, none⟩), .int .i64 a] w (AtR (u.at a) w) := by
  obtain ⟨_, c1, c2⟩ := h.cell
  have hlt := h.lt.1
  by_cases hl : a < u.l
  · have e1 := Lib.hid' (show u.at a = ⟨3, []⟩ by simp [U.at, hl])
    clear h
    go_enter Tryz.func133, Tryz.ntmps133
    go_wp2
    refine bodyPost_ret (v := .agg #[.int .i64 3, .slice none 0 0]) (by simp [results, Tryz.results133, go_sem]) rfl ?_
    rw [e1.out]
    exact ⟨_, _, rfl, SlV.empty _ _ _ (Nat.zero_le _) (fun _ => rfl), by go_grown⟩
  · have e1 := Lib.hid' (show u.at a = lookC u.cells a by simp [U.at, hl])
    obtain ⟨L, ad, cap, hm, hv, hb⟩ := h.map.look a
    have HM := Lib.hid' hm
    have HV := Lib.hid' hv
    have HB := Lib.hid' hb
    clear h hm hv hb
    go_enter Tryz.func133, Tryz.ntmps133
    go_wp2_with (at_lookup; refine wp_look (b := bm) (L := L) mtCells rfl (.tmp 15) (.tmp 16) rfl rfl a rfl (HM.out.block (Below.heap_alloc _ _ _ HM.out.lt)) ?_; rw [HV.out])
    refine bodyPost_ret (v := .agg #[.int .i64 (lookC u.cells a).k, .slice ad (lookC u.cells a).d.length cap]) (by simp [results, Tryz.results133, go_sem]) rfl ?_
    rw [e1.out]
    exact ⟨_, _, rfl, SlV.below HB.out (Nat.le_refl _) (by go_grown), by go_grown⟩

theorem F2.keys {A : Nat → Prop} {w : World} {L : List (Int × Value)} {M : List (Int × C)} (h : F2 (EntIs A w) L M) : L.map (·.1) = M.map (·.1) := h.map_eq fun _ _ h => h.1

set_option maxHeartbeats 400000 in
theorem tail_any {A : Nat → Prop} {bu bm : Nat} {u : U} (w : World) (h : UnitAt A w bu bm u) : Calls Tryz.prog 131 #[.pointer (some ⟨bu, 0, none⟩)] w fun en w' => en = .returned (.int .i64 u.tail) ∧ Below w.heap.size w w' := by
  obtain ⟨_, c1, c2⟩ := h.cell
  obtain ⟨L, hm, h2⟩ := h.map
  have hk := h2.keys
  have hok := h.ok
  have hbd : ∀ a v, (a, v) ∈ L → 0 ≤ a ∧ a < 1048576 := fun a v hav => by
    obtain ⟨q, hq, hr⟩ := h2.mem_left hav
    have h1 := hok.addr q hq
    have h2 := hok.l0
    have h3 : a = q.1 := hr.1
    omega
  have ht := tail_keys u
  rw [← hk] at ht
  have hl0 := hok.l0
  have hl1 := hok.l1
  have HM := Lib.hid' hm
  have HB := Lib.hid' hbd
  have HT := Lib.hid' ht
  clear h h2 hk hok hm hbd ht
  go_enter Tryz.func131, Tryz.ntmps131
  go_wp2_with (at_range; refine wp_range mtCells rfl (.tmp 12) rfl rfl HM.out ?_; intro w1 hi hb1 hz1)
  have Hi := Lib.hid' hi
  have Hb1 := Lib.hid' hb1
  clear hi hb1 hz1 c1 c2
  go_frame
  go_loopw [3, 4] (fun v3 _ wr => ∃ m left last, v3 = .int .i64 m ∧ IterAt wr w.heap.size bm L left last ∧ left.Sublist L ∧ (left.map (·.1)).foldl tailK m = u.tail ∧ 0 ≤ m ∧ m ≤ 1048576 ∧ Below w.heap.size w wr) (fun _ _ wr => iterLeft wr w.heap.size)
  case atStart => exact ⟨u.l, L, none, rfl, Hi.out, List.Sublist.refl _, HT.out.symm, by omega, by omega, Hb1.out⟩
  case round =>
    obtain ⟨m, left, last, rfl, hit, hsub, hfold, hm0, hm1, hbw⟩ := hrel
    have Hsub := Lib.hid' hsub
    have Hfold := Lib.hid' hfold
    have Hbw := Lib.hid' hbw
    have Hcnt := Lib.hid' hit.left_eq
    have hlt := hit.lt
    clear hsub hfold hbw
    go_wp2_with (refine wp_next rfl (.tmp 13) rfl rfl hit ?_ ?_)
    · intro hl w' hb hh
      have Hl := Lib.hid' hl
      have Hbb := Lib.hid' hb
      clear hl hb hh hlt hit
      go_wp2
      go_ret
      refine ⟨ret_eq ?_, (Hbw.out.trans (Hbb.out.mono Hbw.out.size))⟩
      have := Hfold.out
      rw [Hl.out] at this
      simp at this
      show Value.int .i64 m = _
      rw [this]
    · intro w2 x v pre post hl hit2 hf2
      have Hl := Lib.hid' hl
      have hx := HB.out x v (Hsub.out.mem (by rw [hl]; simp))
      have Hf2 := Lib.hid' hf2
      clear hl hf2 hit
      go_wp2_with (refine wp_entry rfl (.tmp 13) rfl rfl hit2 ?_)
      go_roundw
      case rel =>
        refine ⟨tailK m x, pre ++ post, some (x, v), ?_, hit2, ?_, ?_, ?_, ?_, ?_⟩
        · unfold tailK; go_num
        · exact List.Sublist.trans (by rw [Hl.out]; simp) Hsub.out
        · have := Hfold.out
          rw [Hl.out, List.map_append, List.map_cons, tailK_pick] at this
          rw [List.map_append]; exact this
        · unfold tailK; omega
        · unfold tailK; omega
        · exact Hbw.out.trans (Hf2.out.below (by omega) (by intro k hk; omega))
      case measure => rw [Hcnt.out, hit2.left_eq, Hl.out]; simp

end Go.Proofs.YtkljeefncopodaaGreat
