/- Proved here: a part of the proof (5 of 12). -/
import Derived.Test.YtkhnbdbcaebdaaaGreatDoorQ4
import Derived.Test.YtkhnbdbcaebdaaaGreatDoorKeysL
import Derived.StillTailTactics
import Derived.Laws.StructEq
namespace Go.Proofs
open Go.RowKit Go.Maps Go.Sort Go.Shelf


/-- slices.Sort's two contracts at this dump, at the fence that asks nothing. -/
theorem Tryz.sortsA (m : Nat) : AnyZI.SortsIn Tryz.prog Tryz.sortedA_ren Fence.wide m :=
  ⟨fun blk off cap ss W hH hblk hsz => callsIn_wide.2 (AnyM.slices_Sort_int Tryz.sortA blk off cap ss W hH hblk hsz),
   fun p cap W => callsIn_wide.2 (AnyM.slices_Sort_int_none Tryz.sortA p cap W)⟩
end Go.Proofs

namespace Go.Proofs.YtkhnbdbcaebdaaaGreatDoor
open Go.RowKit Go.Maps Go.Sort Go.Shelf
set_option linter.unusedSimpArgs false
set_option linter.unusedVariables false
set_option maxRecDepth 20000

def trivR (_ : Value) : Option (DataW Unit × List MemPlace) := some (.lit (.bool true), [])

theorem own_of_map {w : World} {b : Nat} {L : List (Int × Value)} (h : MapAt w b L) (hw : ∀ p ∈ L, (Lit.int .i64 p.1).wf = true) (hlen : L.length ≤ maxLen) :
    ∃ D0 : DataW Unit, w.ownsMap Tryz.prog 3 trivR b L.length D0 ∧ (intKeys D0).Perm (L.map (·.1)) := by
  obtain ⟨es, clock, hb, hs⟩ := h
  have hkeys : es.toList.map (·.key) = L.map (fun p => Value.int .i64 p.1) := by
    have := congrArg (List.map Prod.fst) hs.eq
    simpa [List.map_map, kv, vk, Function.comp_def] using this
  have hsz : es.size = L.length := by have := congrArg List.length hs.eq; simpa using this
  have hin : ∀ x ∈ es.toList, ∃ p ∈ L, x.key = .int .i64 p.1 := by
    intro x hx
    have : x.key ∈ es.toList.map (·.key) := List.mem_map_of_mem hx
    rw [hkeys] at this
    obtain ⟨p, hp, he⟩ := List.mem_map.1 this
    exact ⟨p, hp, he.symm⟩
  have hrd : ∀ x ∈ es.toList, ∃ a, x.key = .int .i64 a ∧ Go.WideElems.rd Tryz.prog 3 trivR x = some (.int .i64 a, .lit (.bool true)) := by
    intro x hx
    obtain ⟨p, hp, he⟩ := hin x hx
    refine ⟨p.1, he, ?_⟩
    unfold Go.WideElems.rd
    rw [he, Maps.keyOf_int_mk Tryz.underlying3 (hw p hp)]
    rfl
  have hst : Go.MapKept.Stamped es clock := by
    refine ⟨hs.old, ?_, ?_⟩
    · exact List.pairwise_map.2 (hs.rise.imp (fun h => Nat.ne_of_lt h))
    · rw [hkeys]
      refine List.pairwise_map.2 ((List.pairwise_map.1 hs.nodup).imp (fun h e => h (by simpa using e)))
  refine ⟨.map ((es.toList.map (Go.WideElems.rg Tryz.prog 3 trivR)).foldr DataW.insert []), ⟨es, clock, hb, ⟨by omega, hst, fun x hx => ?_⟩, by omega, rfl⟩, ?_⟩
  · obtain ⟨a, _, h⟩ := hrd x hx; exact ⟨_, h⟩
  · show (List.map (fun p : Lit × DataW Unit => Go.intOf p.1) _).Perm _
    refine ((WideShapes.sorted_perm _).map _).trans ?_
    rw [List.map_map]
    have : es.toList.map ((fun p : Lit × DataW Unit => Go.intOf p.1) ∘ Go.WideElems.rg Tryz.prog 3 trivR) = L.map (·.1) := by
      have h1 : es.toList.map ((fun p : Lit × DataW Unit => Go.intOf p.1) ∘ Go.WideElems.rg Tryz.prog 3 trivR) = (es.toList.map (·.key)).map (fun v => match v with | .int _ a => a | _ => 0) := by
        rw [List.map_map]
        refine List.map_congr_left fun x hx => ?_
        obtain ⟨a, ha, h⟩ := hrd x hx
        simp [Go.WideElems.rg, h, ha, Go.intOf]
      rw [h1, hkeys, List.map_map]; simp [Function.comp_def]
    rw [this]

def kfun (W : World) : Value := .func (.func 157) #[] #[.pointer (some ⟨W.heap.size, 0, none⟩)]
def kmap (W : World) (mb : Option Nat) : World := W.alloc (.cells #[.map mb] 89)
def sortK (L : List (Int × Value)) : List Int := (L.map (·.1)).mergeSort (fun x y => decide (x ≤ y))

theorem keys_any (mb : Option Nat) (W : World) : Calls Tryz.prog 120 #[.map mb] W fun e w' => e = .returned (kfun W) ∧ w' = kmap W mb :=
  (callsIn_wide (n := 5)).1 (AnyZI.keys_in Tryz.keysA Fence.wide 5 trivial rfl mb W)

theorem sorted_any (b : Nat) (L : List (Int × Value)) (w : World) (h : MapAt w b L) (hw : ∀ p ∈ L, (Lit.int .i64 p.1).wf = true) (hlen : L.length ≤ 1048576) :
    Calls Tryz.prog 119 #[kfun w] (kmap w (some b)) fun e w' => ∃ v : Value, e = .returned v ∧ w'.ownsRow (w.heap.size + 1) 3 1 v L.length ((sortK L).map encZ) ∧ (v = .slice none 0 0 ↔ L = []) ∧ Below (w.heap.size + 1) (kmap w (some b)) w' := by
  obtain ⟨D0, hown, hperm⟩ := own_of_map h hw (by unfold maxLen; omega)
  have hlenD : Maps.size D0 = L.length := by
    have := hperm.length_eq
    obtain ⟨es, clock, hb, Ft, hs, rfl⟩ := hown
    simpa [intKeys, Maps.size] using this
  have hbl := hown.lt
  have hseq : SeqGives Fence.wide 2 Tryz.prog 157 #[.pointer (some ⟨w.heap.size, 0, none⟩)] encZ (fun ss => ss.Perm (intKeys D0)) (Maps.size D0) (w.alloc (.cells #[.map (some b)] 89)) :=
    AnyZI.keys_gives (ρ := Tryz.keysA_ren) { Tryz.keysA with } Fence.wide _ trivial rfl (by omega) w.heap.size b L.length D0 _ (by simp) (by simp) (by
      obtain ⟨es, clock, hb, Ft, hs, hD⟩ := hown
      exact ⟨es, clock, (Below.heap_alloc _ _ b hbl).trans hb, Ft, hs, hD⟩)
  have cS := AnyZI.sorted_in Tryz.sortedA Fence.wide 5 trivial trivial trivial trivial rfl (by omega) (Tryz.sortsA _) (enters_of Tryz.func156 (by kernel_rfl) rfl) 157 #[.pointer (some ⟨w.heap.size, 0, none⟩)] trivial (enters_of Tryz.func157 (by kernel_rfl) rfl) _ _ (by rw [hlenD]; unfold maxLen; omega) (by rw [hlenD]; omega) _ hseq
  change CallsIn _ _ Tryz.prog 119 _ _ _ at cS
  refine ((callsIn_wide (n := 5)).1 cS).mono ?_
  rintro e w' ⟨v, ss, rfl, hS, hrow, hnil, hb⟩
  have hp := hS.trans hperm
  have hl : ss.length = L.length := by simpa using hp.length_eq
  have hz : (w.alloc (.cells #[.map (some b)] 89)).heap.size = w.heap.size + 1 := by simp
  refine ⟨v, rfl, ?_, ?_, ?_⟩
  · have := hrow
    rw [show ss.mergeSort _ = sortK L from mergeSort_of_perm_i hp, hl] at this
    first | exact this | (rw [hz] at this; exact this)
  · rw [hnil]
    constructor
    · rintro rfl; exact List.length_eq_zero_iff.1 hl.symm
    · rintro rfl; exact List.length_eq_zero_iff.1 hl
  · have := hb; rw [hz] at this; exact this

end Go.Proofs.YtkhnbdbcaebdaaaGreatDoor

namespace Go.Proofs.YtkhnbdbcaebdaaaGreatDoor
open Go.RowKit
set_option linter.unusedSimpArgs false
set_option linter.unusedVariables false
set_option maxRecDepth 20000

def zCell : Value := .agg #[.int .i64 0, .slice none 0 0]
theorem mtCells : MapT Tryz.prog 89 3 57 zCell := ⟨Tryz.underlying89, Tryz.underlying3, fun w => by kernel_rfl⟩

/-- an entry of a map of cells reads as this one; its bytes lie outside A -/
def EntIs (A : Nat → Prop) (w : World) (p : Int × Value) (q : Int × C) : Prop :=
  p.1 = q.1 ∧ ∃ a cap, p.2 = .agg #[.int .i64 q.2.k, .slice a q.2.d.length cap] ∧ Bytes w (.slice a q.2.d.length cap) q.2.d ∧ ∀ x, a = some x → ¬ A x.block ∧ x.block < w.heap.size

def CellsAt (A : Nat → Prop) (w : World) (bm : Nat) (M : List (Int × C)) : Prop := ∃ L, MapAt w bm L ∧ F2 (EntIs A w) L M

structure UnitAt (A : Nat → Prop) (w : World) (bu bm : Nat) (u : U) : Prop where
  blk : w.heap[bu]? = some (.cells #[.int .i64 u.e, .int .i64 u.l, .map (some bm)] 91 (0, 0))
  map : CellsAt A w bm u.cells
  ok : u.ok
  abu : A bu
  abm : A bm

theorem EntIs.fr {A F : Nat → Prop} {w w' : World} {p : Int × Value} {q : Int × C} (h : EntIs A w p q) (hf : Fr F w w') (hF : ∀ k, F k → A k) : EntIs A w' p q := by
  obtain ⟨h1, a, cap, h2, h3, h4⟩ := h
  refine ⟨h1, a, cap, h2, SlV.fr h3 hf ?_, fun x hx => ⟨(h4 x hx).1, Nat.lt_of_lt_of_le (h4 x hx).2 hf.size⟩⟩
  intro x n c hv
  simp only [Value.slice.injEq] at hv
  exact fun hk => (h4 x hv.1).1 (hF _ hk)

theorem CellsAt.fr {A F : Nat → Prop} {w w' : World} {bm : Nat} {M : List (Int × C)} (h : CellsAt A w bm M) (hf : Fr F w w') (hb : w'.heap[bm]? = w.heap[bm]?) (hF : ∀ k, F k → A k) : CellsAt A w' bm M := by
  obtain ⟨L, h1, h2⟩ := h
  exact ⟨L, h1.block hb, h2.mono fun _ _ _ _ h => h.fr hf hF⟩

theorem UnitAt.lt {A : Nat → Prop} {w : World} {bu bm : Nat} {u : U} (h : UnitAt A w bu bm u) : bu < w.heap.size ∧ bm < w.heap.size := by
  obtain ⟨L, h1, _⟩ := h.map
  exact ⟨(Array.getElem?_eq_some_iff.1 h.blk).1, h1.lt⟩
theorem UnitAt.ne {A : Nat → Prop} {w : World} {bu bm : Nat} {u : U} (h : UnitAt A w bu bm u) : bu ≠ bm := by
  obtain ⟨L, ⟨es, clock, h1, _⟩, _⟩ := h.map
  intro e; have := h.blk; rw [e, h1] at this; simp at this

theorem UnitAt.fr {A F : Nat → Prop} {w w' : World} {bu bm : Nat} {u : U} (h : UnitAt A w bu bm u) (hf : Fr F w w') (h1 : ¬ F bu) (h2 : ¬ F bm) (hF : ∀ k, F k → A k) : UnitAt A w' bu bm u :=
  ⟨(hf.block _ h.lt.1 h1).trans h.blk, h.map.fr hf (hf.block _ h.lt.2 h2) hF, h.ok, h.abu, h.abm⟩
theorem UnitAt.below {A : Nat → Prop} {w w' : World} {bu bm : Nat} {u : U} (h : UnitAt A w bu bm u) {B : Nat} (hB : w.heap.size ≤ B) (hb : Below B w w') : UnitAt A w' bu bm u :=
  h.fr (Fr.of_below (F := fun _ => False) (hb.mono hB)) (fun h => h) (fun h => h) (fun _ h => h.elim)
theorem UnitAt.cell {A : Nat → Prop} {w : World} {bu bm : Nat} {u : U} (h : UnitAt A w bu bm u) :
    w.cell? ⟨bu, 0, none⟩ = some (.int .i64 u.e) ∧ w.cell? ⟨bu, 1, none⟩ = some (.int .i64 u.l) ∧ w.cell? ⟨bu, 2, none⟩ = some (.map (some bm)) := by
  refine ⟨?_, ?_, ?_⟩ <;> simp [World.cell?, h.blk]
theorem UnitAt.free {A : Nat → Prop} {w : World} {bu bm : Nat} {u : U} (h : UnitAt A w bu bm u) (o : Nat) : w.frozen? ⟨bu, o, none⟩ = false := by
  simp [World.frozen?, h.blk]
/-- what an entry's look-up gives -/
theorem CellsAt.look {A : Nat → Prop} {w : World} {bm : Nat} {M : List (Int × C)} (h : CellsAt A w bm M) (a : Int) : ∃ L ad cap, MapAt w bm L ∧ (lookE L a).getD zCell = .agg #[.int .i64 (lookC M a).k, .slice ad (lookC M a).d.length cap] ∧ Bytes w (.slice ad (lookC M a).d.length cap) (lookC M a).d := by
  obtain ⟨L, h1, h2⟩ := h
  rcases h2.find (f := fun p => p.1 == a) (g := fun p => p.1 == a) (fun p q h => by rw [h.1]) with ⟨e1, e2⟩ | ⟨p, q, e1, e2, hr⟩
  · refine ⟨L, none, 0, h1, ?_, ?_⟩
    · simp [lookE, lookC, e1, e2, zCell]
    · simp only [lookC, e2]; exact SlV.empty _ _ _ (Nat.zero_le _) (fun _ => rfl)
  · obtain ⟨_, ad, cap, hv, hb, _⟩ := hr
    refine ⟨L, ad, cap, h1, ?_, ?_⟩
    · simp [lookE, lookC, e1, e2, hv]
    · simp only [lookC, e2]; exact hb

theorem in_any (x m : Int) (w : World) : Calls Tryz.prog 78 #[.int .i64 x, .int .i64 m] w fun e w' => e = .returned (.bool (inR x m)) ∧ w = w' := by
  go_enter Tryz.func78, Tryz.ntmps78
  go_wp2
  all_goals go_ret
  all_goals refine ⟨ret_eq ?_, rfl⟩
  · have h : (0 : Int) ≤ x := by assumption
    simp [inR, h]
  · have h : x < 0 := by assumption
    have h' : ¬ (0 : Int) ≤ x := by omega
    simp [inR, h']

theorem cur_any {A : Nat → Prop} {bu bm : Nat} {u : U} (e : Int) (w : World) (h : UnitAt A w bu bm u) : Calls Tryz.prog 80 #[.pointer (some ⟨bu, 0, none⟩), .int .i64 e] w fun en w' => en = .returned (errV (u.cur e)) ∧ w = w' := by
  obtain ⟨c0, _, _⟩ := h.cell
  clear h
  go_enter Tryz.func80, Tryz.ntmps80
  go_wp2
  all_goals go_ret
  all_goals refine ⟨ret_eq ?_, rfl⟩
  all_goals (unfold U.cur; (repeat' split) <;> first | rfl | (exfalso; omega))

theorem asks_any {A : Nat → Prop} {bu bm : Nat} {u : U} (e : Int) (f : Bool) (w : World) (h : UnitAt A w bu bm u) : Calls Tryz.prog 83 #[.pointer (some ⟨bu, 0, none⟩), .int .i64 e, .bool f] w fun en w' => en = .returned (errV (u.asks e f)) ∧ w = w' := by
  have H := Lib.hid' h
  clear h
  cases f
  · go_enter Tryz.func83, Tryz.ntmps83
    go_wp2
    go_ret
    exact ⟨rfl, rfl⟩
  · go_enter Tryz.func83, Tryz.ntmps83
    go_wp2_with (go_at_call 80; refine (cur_any _ _ H.out).mono ?_; rintro en w' ⟨rfl, rfl⟩)
    go_ret
    exact ⟨rfl, rfl⟩
def NewR (w : World) (en : Ending) (w' : World) : Prop := en = .returned (.pointer (some ⟨w.heap.size + 1, 0, none⟩)) ∧ Below w.heap.size w w' ∧ w'.heap.size = w.heap.size + 2 ∧ ∀ A : Nat → Prop, A w.heap.size → A (w.heap.size + 1) → UnitAt A w' (w.heap.size + 1) w.heap.size U.new

theorem new_any (w : World) : Calls Tryz.prog 19 #[] w (NewR w) := by
  have hmm := @run_makeMap Tryz.prog
  go_enter Tryz.func19, Tryz.ntmps19
  go_wp2
  go_ret
  refine ⟨rfl, by go_grown, by simp, fun A h1 h2 => ⟨?_, ⟨[], ?_, .nil⟩, U.ok_new, h2, h1⟩⟩
  · exact heap_alloc2_new w _ _
  · exact (MapAt.made w).block (Below.heap_alloc _ _ _ (by simp))

theorem low_any {A : Nat → Prop} {bu bm : Nat} {u : U} (w : World) (h : UnitAt A w bu bm u) : Calls Tryz.prog 68 #[.pointer (some ⟨bu, 0, none⟩)] w fun en w' => en = .returned (.int .i64 u.l) ∧ w = w' := by
  obtain ⟨_, c1, _⟩ := h.cell
  clear h
  go_enter Tryz.func68, Tryz.ntmps68
  go_wp2
  go_ret
  exact ⟨rfl, rfl⟩
theorem epoch_any {A : Nat → Prop} {bu bm : Nat} {u : U} (w : World) (h : UnitAt A w bu bm u) : Calls Tryz.prog 67 #[.pointer (some ⟨bu, 0, none⟩)] w fun en w' => en = .returned (.int .i64 u.e) ∧ w = w' := by
  obtain ⟨c0, _, _⟩ := h.cell
  clear h
  go_enter Tryz.func67, Tryz.ntmps67
  go_wp2
  go_ret
  exact ⟨rfl, rfl⟩

def AtR (c : C) (w : World) (en : Ending) (w' : World) : Prop := ∃ a cap, en = .returned (.agg #[.int .i64 c.k, .slice a c.d.length cap]) ∧ Bytes w' (.slice a c.d.length cap) c.d ∧ Below w.heap.size w w'

theorem at_any {A : Nat → Prop} {bu bm : Nat} {u : U} (a : Int) (w : World) (h : UnitAt A w bu bm u) : Calls Tryz.prog 81 #[.pointer (some ⟨bu, 0, none⟩), .int .i64 a] w (AtR (u.at a) w) := by
  obtain ⟨_, c1, c2⟩ := h.cell
  have hlt := h.lt.1
  by_cases hl : a < u.l
  · have e1 := Lib.hid' (show u.at a = ⟨3, []⟩ by simp [U.at, hl])
    clear h
    go_enter Tryz.func81, Tryz.ntmps81
    go_wp2
    refine bodyPost_ret (v := .agg #[.int .i64 3, .slice none 0 0]) (by simp [results, Tryz.results81, go_sem]) rfl ?_
    rw [e1.out]
    exact ⟨_, _, rfl, SlV.empty _ _ _ (Nat.zero_le _) (fun _ => rfl), by go_grown⟩
  · have e1 := Lib.hid' (show u.at a = lookC u.cells a by simp [U.at, hl])
    obtain ⟨L, ad, cap, hm, hv, hb⟩ := h.map.look a
    have HM := Lib.hid' hm
    have HV := Lib.hid' hv
    have HB := Lib.hid' hb
    clear h hm hv hb
    go_enter Tryz.func81, Tryz.ntmps81
    go_wp2_with (at_lookup; refine wp_look (b := bm) (L := L) mtCells rfl (.tmp 15) (.tmp 16) rfl rfl a rfl (HM.out.block (Below.heap_alloc _ _ _ HM.out.lt)) ?_; rw [HV.out])
    refine bodyPost_ret (v := .agg #[.int .i64 (lookC u.cells a).k, .slice ad (lookC u.cells a).d.length cap]) (by simp [results, Tryz.results81, go_sem]) rfl ?_
    rw [e1.out]
    exact ⟨_, _, rfl, SlV.below HB.out (Nat.le_refl _) (by go_grown), by go_grown⟩

theorem F2.keys {A : Nat → Prop} {w : World} {L : List (Int × Value)} {M : List (Int × C)} (h : F2 (EntIs A w) L M) : L.map (·.1) = M.map (·.1) := h.map_eq fun _ _ h => h.1

set_option maxHeartbeats 400000 in
theorem tail_any {A : Nat → Prop} {bu bm : Nat} {u : U} (w : World) (h : UnitAt A w bu bm u) : Calls Tryz.prog 79 #[.pointer (some ⟨bu, 0, none⟩)] w fun en w' => en = .returned (.int .i64 u.tail) ∧ Below w.heap.size w w' := by
  obtain ⟨_, c1, c2⟩ := h.cell
  obtain ⟨L, hm, h2⟩ := h.map
  have hk := h2.keys
  have hok := h.ok
  have hbd : ∀ a v, (a, v) ∈ L → 0 ≤ a ∧ a < 1048576 := fun a v hav => by
    obtain ⟨q, hq, hr⟩ := h2.mem_left hav
    have h1 := hok.addr q hq
    have h2 := hok.l0
    have h3 : a = q.1 := hr.1
    omega
  have ht := tail_keys u
  rw [← hk] at ht
  have hl0 := hok.l0
  have hl1 := hok.l1
  have HM := Lib.hid' hm
  have HB := Lib.hid' hbd
  have HT := Lib.hid' ht
  clear h h2 hk hok hm hbd ht
  go_enter Tryz.func79, Tryz.ntmps79
  go_wp2_with (at_range; refine wp_range mtCells rfl (.tmp 12) rfl rfl HM.out ?_; intro w1 hi hb1 hz1)
  have Hi := Lib.hid' hi
  have Hb1 := Lib.hid' hb1
  clear hi hb1 hz1 c1 c2
  go_frame
  go_loopw [3, 4] (fun v3 _ wr => ∃ m left last, v3 = .int .i64 m ∧ IterAt wr w.heap.size bm L left last ∧ left.Sublist L ∧ (left.map (·.1)).foldl tailK m = u.tail ∧ 0 ≤ m ∧ m ≤ 1048576 ∧ Below w.heap.size w wr) (fun _ _ wr => iterLeft wr w.heap.size)
  case atStart => exact ⟨u.l, L, none, rfl, Hi.out, List.Sublist.refl _, HT.out.symm, by omega, by omega, Hb1.out⟩
  case round =>
    obtain ⟨m, left, last, rfl, hit, hsub, hfold, hm0, hm1, hbw⟩ := hrel
    have Hsub := Lib.hid' hsub
    have Hfold := Lib.hid' hfold
    have Hbw := Lib.hid' hbw
    have Hcnt := Lib.hid' hit.left_eq
    have hlt := hit.lt
    clear hsub hfold hbw
    go_wp2_with (refine wp_next rfl (.tmp 13) rfl rfl hit ?_ ?_)
    · intro hl w' hb hh
      have Hl := Lib.hid' hl
      have Hbb := Lib.hid' hb
      clear hl hb hh hlt hit
      go_wp2
      go_ret
      refine ⟨ret_eq ?_, (Hbw.out.trans (Hbb.out.mono Hbw.out.size))⟩
      have := Hfold.out
      rw [Hl.out] at this
      simp at this
      show Value.int .i64 m = _
      rw [this]
    · intro w2 x v pre post hl hit2 hf2
      have Hl := Lib.hid' hl
      have hx := HB.out x v (Hsub.out.mem (by rw [hl]; simp))
      have Hf2 := Lib.hid' hf2
      clear hl hf2 hit
      go_wp2_with (refine wp_entry rfl (.tmp 13) rfl rfl hit2 ?_)
      go_roundw
      case rel =>
        refine ⟨tailK m x, pre ++ post, some (x, v), ?_, hit2, ?_, ?_, ?_, ?_, ?_⟩
        · unfold tailK; go_num
        · exact List.Sublist.trans (by rw [Hl.out]; simp) Hsub.out
        · have := Hfold.out
          rw [Hl.out, List.map_append, List.map_cons, tailK_pick] at this
          rw [List.map_append]; exact this
        · unfold tailK; omega
        · unfold tailK; omega
        · exact Hbw.out.trans (Hf2.out.below (by omega) (by intro k hk; omega))
      case measure => rw [Hcnt.out, hit2.left_eq, Hl.out]; simp

end Go.Proofs.YtkhnbdbcaebdaaaGreatDoor

namespace Go.Proofs.YtkhnbdbcaebdaaaGreatDoor
open Go.RowKit
set_option linter.unusedSimpArgs false
set_option linter.unusedVariables false
set_option maxRecDepth 20000

def IsCell (v : Value) : Prop := ∃ k a n c, v = .agg #[.int .i64 k, .slice a n c]

def DelR (p : Int → Bool) (b : Nat) (L : List (Int × Value)) (w : World) (e : Ending) (w' : World) : Prop :=
  e = .returned (.tuple #[]) ∧ MapAt w' b (L.filter (fun q => !p q.1)) ∧ Fr (· = b) w w'

theorem del_step {L left pre post : List (Int × Value)} {p : Int → Bool} {x : Int} {v : Value} {k : Bool} (hp : p x = k) (hl : left = pre ++ (x, v) :: post) (hn : (left.map (·.1)).Nodup) :
    (if k then delE (L.filter (fun q => !p q.1 || left.any (·.1 == q.1))) x else L.filter (fun q => !p q.1 || left.any (·.1 == q.1))) = L.filter (fun q => !p q.1 || (pre ++ post).any (·.1 == q.1)) := by
  subst hl
  simp only [List.map_append, List.map_cons, List.nodup_append, List.nodup_cons] at hn
  have hx : ∀ q ∈ pre ++ post, q.1 ≠ x := fun q hq he => by
    rcases List.mem_append.1 hq with hq | hq
    · exact hn.2.2 _ (List.mem_map_of_mem hq) _ List.mem_cons_self he
    · exact hn.2.1.1 (by rw [← he]; exact List.mem_map_of_mem hq)
  have hany : (pre ++ post).any (fun q => q.1 == x) = false := by
    rw [List.any_eq_false]; intro q hq; simpa using hx q hq
  cases k with
  | true =>
    simp only [if_true, delE, List.filter_filter]
    refine List.filter_congr fun q hq => ?_
    by_cases hqx : q.1 = x
    · rw [hqx, hp, hany]; simp
    · have e1 : (x == q.1) = false := by simp; exact fun h => hqx h.symm
      simp [hqx, e1, List.any_append, List.any_cons]
  | false =>
    simp only [Bool.false_eq_true, if_false]
    refine List.filter_congr fun q hq => ?_
    by_cases hqx : q.1 = x
    · rw [hqx, hp]; simp
    · have e1 : (x == q.1) = false := by simp; exact fun h => hqx h.symm
      simp [e1, List.any_append, List.any_cons]

set_option maxHeartbeats 1000000 in
theorem deleteFunc_any (fid : Nat) (caps : Array Value) (p : Int → Bool) (b : Nat) (L : List (Int × Value)) (w : World) (h : MapAt w b L) (hL : ∀ q ∈ L, IsCell q.2)
    (hcf : ∀ args w, (callFunc fid args).run Tryz.prog w = .ok (.enter fid args) w) (hcall : Hid (∀ w2 x v, Fr (· = b) w w2 → IsCell v → Calls Tryz.prog fid (#[.int .i64 x, v] ++ caps) w2 (fun e w' => e = .returned (.bool (p x)) ∧ Below w2.heap.size w2 w'))) :
    Calls Tryz.prog 84 #[.map (some b), .func (.func fid) #[] caps] w (DelR p b L w) := by
  have HL := h
  go_enter Tryz.func84, Tryz.ntmps84
  go_wp2_with (refine wp_range mtCells rfl _ rfl rfl HL ?_; intro w1 hi hb1 hz1)
  go_frame
  go_loopw [5] (fun _ wr => ∃ left last, IterAt wr w.heap.size b (L.filter (fun q => !p q.1 || left.any (·.1 == q.1))) left last ∧ left.Sublist L ∧ Fr (· = b) w wr) (fun _ wr => iterLeft wr w.heap.size)
  case atStart =>
    refine ⟨L, none, ?_, List.Sublist.refl _, Fr.of_below hb1⟩
    rw [List.filter_eq_self.2]; exact hi
    intro q hq; simp; right; exact ⟨_, hq⟩
  case round =>
    obtain ⟨left, last, hit, hsub, hfr⟩ := hrel
    have hlt := hit.lt
    have hm := hit.left_eq
    clear hi hb1 hz1
    go_wp2_with (refine wp_next rfl _ rfl rfl hit ?_ ?_)
    · intro hl w' hbw hh
      have HH : Hid (w'.heap = wr.heap) := hh
      subst hl
      clear hh hm hlt hcf
      go_wp2
      go_end0
      refine ⟨rfl, ?_, hfr.trans_below hbw⟩
      have h3 := hit.map.block (w' := w') (by rw [HH.out])
      simpa using h3
    · intro w2 x v pre post hl hit2 hf2
      have hv : IsCell v := hL (x, v) (hsub.mem (by rw [hl]; simp))
      have hv' := hv
      obtain ⟨k, a, n, c, rfl⟩ := hv
      have HL2 : Hid (left = pre ++ (x, .agg #[.int .i64 k, .slice a n c]) :: post) := hl
      clear hl hlt hL HL
      have hlt2 := hit2.lt
      go_wp2_with (refine wp_entry rfl _ rfl rfl hit2 ?_)
      have hfr2 : Fr (· = b) w w2 := hfr.trans hf2 (fun i hi => Or.inr (by omega))
      refine (hcall.out _ _ _ (hfr2.trans_below ((Below.refl _ _).alloc (Nat.le_refl _) _)) hv').mono ?_
      rintro e w3 ⟨rfl, hb3⟩
      have hb23 : Below w2.heap.size w2 w3 := below_call ((Below.refl _ _).alloc (Nat.le_refl _) _) (by simp) hb3
      have hfr3 : Fr (· = b) w w3 := hfr2.trans_below hb23
      have hit3 : IterAt w3 w.heap.size b (L.filter (fun q => !p q.1 || left.any (·.1 == q.1))) (pre ++ post) (some (x, .agg #[.int .i64 k, .slice a n c])) :=
        hit2.blocks (hb23.block _ hit2.map.lt) (hb23.block _ hlt2)
      have hnd : (left.map (·.1)).Nodup := h.nodup.sublist (hsub.map _)
      clear hb3 hit2 hf2 hfr2 hfr hlt2 hv' hcf hb23
      cases hp : p x with
      | true =>
        go_wp2_with (at_delete; refine wp_del (b := b) (x0 := x) mtCells rfl (.tmp 17) (.tmp 18) rfl rfl rfl hit3 ?hl ?_)
        case hl =>
          intro q hq he
          have h1 := HL2.out
          rw [h1] at hnd
          simp only [List.map_append, List.map_cons, List.nodup_append, List.nodup_cons] at hnd
          rcases List.mem_append.1 hq with hq | hq
          · exact hnd.2.2 _ (List.mem_map_of_mem hq) _ List.mem_cons_self he
          · exact hnd.2.1.1 (by rw [← he]; exact List.mem_map_of_mem hq)
        intro w4 hit4 hf4 hz4
        go_wp2
        go_roundw
        case rel =>
          refine ⟨pre ++ post, none, ?_, ?_, ?_⟩
          · rw [← del_step (k := true) hp HL2.out hnd]; exact hit4
          · exact List.Sublist.trans (by rw [HL2.out]; simp) hsub
          · exact hfr3.trans hf4 (fun i hi => Or.inl hi)
        case measure =>
          rw [hm, hit4.left_eq, HL2.out]; simp
      | false =>
        go_wp2
        go_roundw
        case rel =>
          refine ⟨pre ++ post, some (x, .agg #[.int .i64 k, .slice a n c]), ?_, ?_, hfr3⟩
          · rw [← del_step (k := false) hp HL2.out hnd]; exact hit3
          · exact List.Sublist.trans (by rw [HL2.out]; simp) hsub
        case measure =>
          rw [hm, hit3.left_eq, HL2.out]; simp

/-- the unit then: what was there stays, but for its own two blocks -/
def UnitR (v : Value) (A : Nat → Prop) (bu bm : Nat) (u : U) (w : World) (en : Ending) (w' : World) : Prop :=
  en = .returned v ∧ UnitAt A w' bu bm u ∧ Fr (fun k => k = bu ∨ k = bm) w w'
theorem UnitR.same {v : Value} {A : Nat → Prop} {bu bm : Nat} {u : U} {w : World} {en : Ending} {w' : World} (h : UnitAt A w bu bm u) (he : en = .returned v) (hb : Below w.heap.size w w') : UnitR v A bu bm u w en w' :=
  ⟨he, h.below (Nat.le_refl _) hb, Fr.of_below hb⟩

theorem UnitAt.set0 {A : Nat → Prop} {w : World} {bu bm : Nat} {u : U} (h : UnitAt A w bu bm u) {e : Int} (hok : U.ok { u with e := e }) : UnitAt A (w.setCell ⟨bu, 0, none⟩ (.int .i64 e)) bu bm { u with e := e } := by
  have hne := h.ne
  have hf : Fr (· = bu) w (w.setCell ⟨bu, 0, none⟩ (.int .i64 e)) := ⟨rfl, rfl, rfl, by simp, fun k _ hk => heap_setCell_other _ _ _ _ hk⟩
  exact ⟨heap_setCell_same w bu 0 _ _ _ h.blk, h.map.fr hf (heap_setCell_other _ _ _ _ (fun e => hne e.symm)) (fun k hk => by rw [hk]; exact h.abu), hok, h.abu, h.abm⟩
theorem UnitAt.set1 {A : Nat → Prop} {w : World} {bu bm : Nat} {u : U} (h : UnitAt A w bu bm u) {l : Int} (hok : U.ok { u with l := l }) : UnitAt A (w.setCell ⟨bu, 1, none⟩ (.int .i64 l)) bu bm { u with l := l } := by
  have hne := h.ne
  have hf : Fr (· = bu) w (w.setCell ⟨bu, 1, none⟩ (.int .i64 l)) := ⟨rfl, rfl, rfl, by simp, fun k _ hk => heap_setCell_other _ _ _ _ hk⟩
  exact ⟨heap_setCell_same w bu 1 _ _ _ h.blk, h.map.fr hf (heap_setCell_other _ _ _ _ (fun e => hne e.symm)) (fun k hk => by rw [hk]; exact h.abu), hok, h.abu, h.abm⟩
theorem fr_setCell (w : World) (b o : Nat) (v : Value) : Fr (· = b) w (w.setCell ⟨b, o, none⟩ v) := ⟨rfl, rfl, rfl, by simp, fun k _ hk => heap_setCell_other _ _ _ _ hk⟩

theorem seal_any {A : Nat → Prop} {bu bm : Nat} {u : U} (e : Int) (w : World) (h : UnitAt A w bu bm u) :
    Calls Tryz.prog 43 #[.pointer (some ⟨bu, 0, none⟩), .int .i64 e] w (UnitR (.tuple #[.int .i64 (u.sealE e).2.1, errV (u.sealE e).1]) A bu bm (u.sealE e).2.2 w) := by
  have H := Lib.hid' h
  obtain ⟨c0, _, _⟩ := h.cell
  have f0 := h.free 0
  have hok := Lib.hid' (U.ok_sealE h.ok e)
  have hlt := h.lt.1
  clear h
  cases hin : inR e 1099511627776 with
  | false =>
    have Hf := Lib.hid' (show u.sealE e = (1, 0, u) by simp [U.sealE, hin])
    go_enter Tryz.func43, Tryz.ntmps43
    go_wp2_with (go_at_call 78; refine (in_any _ _ _).mono ?_; rintro en w' ⟨rfl, rfl⟩; rw [hin])
    go_ret2
    rw [Hf.out]
    exact UnitR.same H.out rfl (Below.refl _ _)
  | true =>
    by_cases hle : e ≤ u.e
    · have Hf := Lib.hid' (show u.sealE e = (6, 0, u) by simp [U.sealE, hin, hle])
      go_enter Tryz.func43, Tryz.ntmps43
      go_wp2_with (go_at_call 78; refine (in_any _ _ _).mono ?_; rintro en w' ⟨rfl, rfl⟩; rw [hin])
      go_ret2
      rw [Hf.out]
      exact UnitR.same H.out rfl (Below.refl _ _)
    · have Hf := Lib.hid' (show u.sealE e = (0, u.tail, { u with e := e }) by simp [U.sealE, hin, hle])
      have hset := H.out.set0 (e := e) (by have := hok.out; rw [Hf.out] at this; exact this)
      have Hset := Lib.hid' hset
      clear hset
      go_enter Tryz.func43, Tryz.ntmps43
      go_wp2_with (go_at_call 78; refine (in_any _ _ _).mono ?_; rintro en w' ⟨rfl, rfl⟩; rw [hin])
      refine (tail_any _ Hset.out).mono ?_
      rintro en w1 ⟨rfl, hb⟩
      go_wp2
      go_ret2
      rw [Hf.out]
      exact ⟨rfl, Hset.out.below (Nat.le_refl _) hb, ((fr_setCell _ _ _ _).mono (fun _ h => Or.inl h)).trans_below hb⟩

end Go.Proofs.YtkhnbdbcaebdaaaGreatDoor

namespace Go.Proofs.YtkhnbdbcaebdaaaGreatDoor
open Go.RowKit
set_option linter.unusedSimpArgs false
set_option linter.unusedVariables false
set_option maxRecDepth 20000

theorem F2.put {A : Nat → Prop} {w : World} {L : List (Int × Value)} {M : List (Int × C)} (h : F2 (EntIs A w) L M) {a : Int} {v : Value} {c : C} (hv : EntIs A w (a, v) (a, c)) : F2 (EntIs A w) (putE L a v) (putC M a c) := by
  have hany := h.any (f := fun p => p.1 == a) (g := fun p => p.1 == a) (fun p q h => by rw [h.1])
  unfold putE putC
  rw [hany]
  split
  · refine h.map fun p q hpq => ?_
    rw [hpq.1]
    split
    · exact hv
    · exact hpq
  · exact h.append (.one hv)

theorem Bytes.in_own {w : World} {B e n : Nat} {a : Option Addr} {cap : Nat} {d : List UInt8} (h : w.ownsRow B e 1 (.slice a n cap) n (byteVs d)) : ∀ x, a = some x → B ≤ x.block ∧ x.block < w.heap.size := fun x hx => own_in h x n cap (by rw [hx])

theorem UnitAt.put {A : Nat → Prop} {w w2 w3 : World} {bu bm : Nat} {u : U} (h : UnitAt A w bu bm u) (hA : ∀ k, A k → k < w.heap.size) {L : List (Int × Value)} {a : Int} {c : C} {ad : Option Addr} {cap : Nat}
    (hm : MapAt w2 bm L) (hL : F2 (EntIs A w2) L u.cells) (hb : Below w.heap.size w w2) (hv : Bytes w2 (.slice ad c.d.length cap) c.d) (hin : ∀ x, ad = some x → w.heap.size ≤ x.block ∧ x.block < w2.heap.size)
    (hm3 : MapAt w3 bm (putE L a (.agg #[.int .i64 c.k, .slice ad c.d.length cap]))) (hf3 : Fr (· = bm) w2 w3) (hok : U.ok { u with cells := putC u.cells a c }) : UnitAt A w3 bu bm { u with cells := putC u.cells a c } := by
  have h2 := h.below (Nat.le_refl _) hb
  have hne := h.ne
  refine ⟨(hf3.block _ h2.lt.1 hne).trans h2.blk, ⟨_, hm3, ?_⟩, hok, h.abu, h.abm⟩
  refine F2.put (hL.mono fun p q _ _ hpq => hpq.fr hf3 (fun k hk => by rw [hk]; exact h.abm)) ⟨rfl, ad, cap, rfl, ?_, ?_⟩
  · refine SlV.fr hv hf3 ?_
    intro x n c' hx
    simp only [Value.slice.injEq] at hx
    have h5 := (hin x hx.1).1
    have h6 := h.lt.2
    show ¬ x.block = bm; omega
  · intro x hx
    have h5 := hin x hx
    exact ⟨fun hk => by have := hA _ hk; omega, Nat.lt_of_lt_of_le h5.2 hf3.size⟩

set_option maxHeartbeats 1000000 in
theorem write_any {A : Nat → Prop} {bu bm : Nat} {u : U} (e a : Int) (v : Value) (d : List UInt8) (w : World) (h : UnitAt A w bu bm u) (hA : ∀ k, A k → k < w.heap.size) (hd : Bytes w v d) :
    Calls Tryz.prog 44 #[.pointer (some ⟨bu, 0, none⟩), .int .i64 e, .int .i64 a, v] w (UnitR (errV (u.write e a d).1) A bu bm (u.write e a d).2 w) := by
  have H := Lib.hid' h
  have HD := Lib.hid' hd
  obtain ⟨ad, cp, rfl, _⟩ := hd
  obtain ⟨_, _, c2⟩ := h.cell
  have hok := Lib.hid' (U.ok_write h.ok e a d)
  have hlt := h.lt.1
  have hltm := h.lt.2
  have HNE := Lib.hid' h.ne
  have HA := Lib.hid' hA
  clear h hA
  cases hin : inR a 1048575 with
  | false =>
    have Hf := Lib.hid' (show u.write e a d = (1, u) by simp [U.write, hin])
    go_enter Tryz.func44, Tryz.ntmps44
    go_wp2_with (go_at_call 78; refine (in_any _ _ _).mono ?_; rintro en w' ⟨rfl, rfl⟩; rw [hin])
    go_ret
    rw [Hf.out]
    exact UnitR.same H.out rfl (Below.refl _ _)
  | true =>
  by_cases hlen : 64 < d.length
  · have Hf := Lib.hid' (show u.write e a d = (3, u) by simp [U.write, hin, hlen])
    go_enter Tryz.func44, Tryz.ntmps44
    go_wp2_with (go_at_call 78; refine (in_any _ _ _).mono ?_; rintro en w' ⟨rfl, rfl⟩; rw [hin])
    go_ret
    rw [Hf.out]
    exact UnitR.same H.out rfl (Below.refl _ _)
  by_cases hc : u.cur e = 0
  rotate_left
  · have Hf := Lib.hid' (show u.write e a d = (u.cur e, u) by simp [U.write, hin, hlen, hc])
    have HC := Lib.hid' hc
    clear hc
    go_enter Tryz.func44, Tryz.ntmps44
    go_wp2_with (go_at_call 78; refine (in_any _ _ _).mono ?_; rintro en w' ⟨rfl, rfl⟩; rw [hin])
    refine (cur_any _ _ H.out).mono ?_
    rintro en w1 ⟨rfl, rfl⟩
    rw [errV_pos HC.out]
    go_wp2
    go_ret
    rw [Hf.out, errV_pos HC.out]
    exact UnitR.same H.out rfl (Below.refl _ _)
  have HC := Lib.hid' hc
  have Hlen := Lib.hid' hlen
  have hlen' : ¬ (64 : Int) < d.length := by omega
  have hd1 : d.length ≤ 1099511627776 := by omega
  by_cases h3 : (u.at a).k = 3
  · have Hf := Lib.hid' (show u.write e a d = (9, u) by simp [U.write, hin, hlen, hc, h3])
    have h3' : ((u.at a).k == 3) = true := by simpa using h3
    clear hc h3
    go_enter Tryz.func44, Tryz.ntmps44
    go_wp2_with (go_at_call 78; refine (in_any _ _ _).mono ?_; rintro en w' ⟨rfl, rfl⟩; rw [hin])
    refine (cur_any _ _ H.out).mono ?_
    rintro en w1 ⟨rfl, rfl⟩
    rw [HC.out, errV_0]
    go_wp2_with fail
    refine (at_any _ _ H.out).mono ?_
    rintro en w1 ⟨a1, cp1, rfl, hb1, hbw⟩
    have HB1 := Lib.hid' hb1
    clear hb1
    go_wp2
    go_ret
    rw [Hf.out]
    exact UnitR.same H.out rfl hbw
  have h3' : ((u.at a).k == 3) = false := by simpa using h3
  by_cases h0 : (u.at a).k = 0
  rotate_left
  · have Hf := Lib.hid' (show u.write e a d = (8, u) by simp [U.write, hin, hlen, hc, h3, h0])
    have h0' : ((u.at a).k == 0) = false := by simpa using h0
    clear hc h3 h0
    go_enter Tryz.func44, Tryz.ntmps44
    go_wp2_with (go_at_call 78; refine (in_any _ _ _).mono ?_; rintro en w' ⟨rfl, rfl⟩; rw [hin])
    refine (cur_any _ _ H.out).mono ?_
    rintro en w1 ⟨rfl, rfl⟩
    rw [HC.out, errV_0]
    go_wp2_with fail
    refine (at_any _ _ H.out).mono ?_
    rintro en w1 ⟨a1, cp1, rfl, hb1, hbw⟩
    have HB1 := Lib.hid' hb1
    clear hb1
    go_wp2
    go_ret
    rw [Hf.out]
    exact UnitR.same H.out rfl hbw
  have Hf := Lib.hid' (show u.write e a d = (0, { u with cells := putC u.cells a ⟨1, d⟩ }) by simp [U.write, hin, hlen, hc, h0])
  have h0' : ((u.at a).k == 0) = true := by simpa using h0
  clear hc h3 h0
  go_enter Tryz.func44, Tryz.ntmps44
  go_wp2_with (go_at_call 78; refine (in_any _ _ _).mono ?_; rintro en w' ⟨rfl, rfl⟩; rw [hin])
  refine (cur_any _ _ H.out).mono ?_
  rintro en w1 ⟨rfl, rfl⟩
  rw [HC.out, errV_0]
  go_wp2_with fail
  refine (at_any _ _ H.out).mono ?_
  rintro en w1 ⟨a1, cp1, rfl, hb1, hbw⟩
  have HW1 := Lib.hid' (H.out.below (Nat.le_refl _) hbw)
  have c3 : w1.cell? ⟨bu, 2, none⟩ = some (.map (some bm)) := HW1.out.cell.2.2
  have hlt1 := HW1.out.lt.1
  have hltm1 := HW1.out.lt.2
  have hz1 := hbw.size
  have HBW := Lib.hid' hbw
  have HD1 := Lib.hid' (SlV.below HD.out (Nat.le_refl _) hbw)
  obtain ⟨L, hm, hL⟩ := HW1.out.map
  have HM := Lib.hid' hm
  have HL := Lib.hid' hL
  clear hb1 c2 hm hL hbw
  go_wp2_with fail
  go_region_held3 (fun w' => w'.cell? ⟨bu, 2, none⟩ = some (.map (some bm))) (go_keep) (first | (go_at_call 82; refine (clone_any _ d _ ?_ hd1).mono ?_; (exact SlV.below HD1.out (Nat.le_refl _) (by go_grown)); rintro e w2 ⟨a', c', rfl, ho, hb2⟩; have hb2' := below_call (Below.drew (Below.refl w1.heap.size w1)) (Nat.le_refl _) hb2; have hc2 := (bcell hb2').1 bu 2 hlt1; have hst := run_store mtCells (HM.out.block (hb2'.block _ HM.out.lt)) a (.agg #[.int .i64 1, .slice a' d.length c']); obtain ⟨ob, hrun, hm3⟩ := hst; have hc3 := (setBlk_fr w2 bm ob).cell (hc2.trans c3) HNE.out))
  go_wp2
  go_ret
  rw [Hf.out]
  have hbb := HBW.out.trans (hb2'.mono hz1)
  have hsz := hb2'.size
  refine ⟨rfl, ?_, ?_⟩
  · have hin := Bytes.in_own ho
    exact H.out.put (c := ⟨1, d⟩) HA.out (HM.out.block (hb2'.block _ HM.out.lt)) (HL.out.mono fun p q _ _ hpq => hpq.fr (Fr.of_below (F := fun _ => False) hb2') (fun _ h => h.elim)) hbb (SlV.of_own ho) (fun x hx => ⟨by have := (hin x hx).1; simp at this; omega, (hin x hx).2⟩) hm3 (setBlk_fr _ _ _) (by have := hok.out; rw [Hf.out] at this; exact this)
  · exact (Fr.of_below hbb).trans ((setBlk_fr w2 bm ob).mono (F' := fun k => k = bu ∨ k = bm) (fun k h => Or.inr h)) (fun k h => Or.inl h)

end Go.Proofs.YtkhnbdbcaebdaaaGreatDoor

namespace Go.Proofs.YtkhnbdbcaebdaaaGreatDoor
open Go.RowKit
set_option linter.unusedSimpArgs false
set_option linter.unusedVariables false
set_option maxRecDepth 20000

set_option maxHeartbeats 1000000 in
theorem fill_any {A : Nat → Prop} {bu bm : Nat} {u : U} (e a : Int) (w : World) (h : UnitAt A w bu bm u) (hA : ∀ k, A k → k < w.heap.size) :
    Calls Tryz.prog 45 #[.pointer (some ⟨bu, 0, none⟩), .int .i64 e, .int .i64 a] w (UnitR (errV (u.fill e a).1) A bu bm (u.fill e a).2 w) := by
  have H := Lib.hid' h
  have hok := Lib.hid' (U.ok_fill h.ok e a)
  have HNE := Lib.hid' h.ne
  have HA := Lib.hid' hA
  clear h hA
  by_cases hq : u.asks e (inR a 1048575) = 0
  rotate_left
  · have Hf := Lib.hid' (show u.fill e a = (u.asks e (inR a 1048575), u) by simp [U.fill, hq])
    have HQ := Lib.hid' hq
    clear hq
    go_enter Tryz.func45, Tryz.ntmps45
    go_wp2_with (go_at_call 78; refine (in_any _ _ _).mono ?_; rintro en w' ⟨rfl, rfl⟩)
    refine (asks_any _ _ _ H.out).mono ?_
    rintro en w1 ⟨rfl, rfl⟩
    rw [errV_pos HQ.out]
    go_wp2
    go_ret
    rw [Hf.out, errV_pos HQ.out]
    exact UnitR.same H.out rfl (Below.refl _ _)
  have HQ := Lib.hid' hq
  by_cases h3 : (u.at a).k = 3
  · have Hf := Lib.hid' (show u.fill e a = (9, u) by simp [U.fill, hq, h3])
    have h3' : ((u.at a).k == 3) = true := by simpa using h3
    clear hq h3
    go_enter Tryz.func45, Tryz.ntmps45
    go_wp2_with (go_at_call 78; refine (in_any _ _ _).mono ?_; rintro en w' ⟨rfl, rfl⟩)
    refine (asks_any _ _ _ H.out).mono ?_
    rintro en w1 ⟨rfl, rfl⟩
    rw [HQ.out, errV_0]
    go_wp2_with fail
    refine (at_any _ _ H.out).mono ?_
    rintro en w1 ⟨a1, cp1, rfl, hb1, hbw⟩
    have HB1 := Lib.hid' hb1
    clear hb1
    go_wp2
    go_ret
    rw [Hf.out]
    exact UnitR.same H.out rfl hbw
  have h3' : ((u.at a).k == 3) = false := by simpa using h3
  by_cases h1 : (u.at a).k = 1
  · have Hf := Lib.hid' (show u.fill e a = (8, u) by simp [U.fill, hq, h1])
    have h1' : ((u.at a).k == 1) = true := by simpa using h1
    clear hq h3 h1
    go_enter Tryz.func45, Tryz.ntmps45
    go_wp2_with (go_at_call 78; refine (in_any _ _ _).mono ?_; rintro en w' ⟨rfl, rfl⟩)
    refine (asks_any _ _ _ H.out).mono ?_
    rintro en w1 ⟨rfl, rfl⟩
    rw [HQ.out, errV_0]
    go_wp2_with fail
    refine (at_any _ _ H.out).mono ?_
    rintro en w1 ⟨a1, cp1, rfl, hb1, hbw⟩
    have HB1 := Lib.hid' hb1
    clear hb1
    go_wp2
    go_ret
    rw [Hf.out]
    exact UnitR.same H.out rfl hbw
  have h1' : ((u.at a).k == 1) = false := by simpa using h1
  have Hf := Lib.hid' (show u.fill e a = (0, { u with cells := putC u.cells a ⟨2, []⟩ }) by simp [U.fill, hq, h3, h1])
  clear hq h3 h1
  go_enter Tryz.func45, Tryz.ntmps45
  go_wp2_with (go_at_call 78; refine (in_any _ _ _).mono ?_; rintro en w' ⟨rfl, rfl⟩)
  refine (asks_any _ _ _ H.out).mono ?_
  rintro en w1 ⟨rfl, rfl⟩
  rw [HQ.out, errV_0]
  go_wp2_with fail
  refine (at_any _ _ H.out).mono ?_
  rintro en w1 ⟨a1, cp1, rfl, hb1, hbw⟩
  have HW1 := Lib.hid' (H.out.below (Nat.le_refl _) hbw)
  have c3 : w1.cell? ⟨bu, 2, none⟩ = some (.map (some bm)) := HW1.out.cell.2.2
  have HBW := Lib.hid' hbw
  obtain ⟨L, hm, hL⟩ := HW1.out.map
  have HM := Lib.hid' hm
  have HL := Lib.hid' hL
  clear hb1 hm hL hbw
  go_wp2_with (at_mapUpdate; refine wp_store (b := bm) (L := L) mtCells rfl (.tmp 29) (.tmp 30) (.tmp 31) rfl rfl a rfl (.agg #[.int .i64 2, .slice none 0 0]) rfl HM.out ?_; intro w3 hm3 hf3 hz3; have Hm3 := Lib.hid' hm3; have Hf3 := Lib.hid' hf3; clear hm3 hf3)
  go_ret
  rw [Hf.out]
  refine ⟨rfl, ?_, (Fr.of_below HBW.out).trans (Hf3.out.mono (F' := fun k => k = bu ∨ k = bm) (fun k h => Or.inr h)) (fun k h => Or.inl h)⟩
  exact H.out.put (c := ⟨2, []⟩) (ad := none) (cap := 0) HA.out HM.out HL.out HBW.out (SlV.empty _ _ _ (Nat.zero_le _) (fun _ => rfl)) (by simp) Hm3.out Hf3.out (by have := hok.out; rw [Hf.out] at this; exact this)

def ReadR (n : Nat) (c : C) (w : World) (en : Ending) (w' : World) : Prop :=
  ∃ a cap, en = .returned (.tuple #[.agg #[.int .i64 c.k, .slice a c.d.length cap], errV n]) ∧ w'.ownsRow w.heap.size 5 1 (.slice a c.d.length cap) c.d.length (byteVs c.d) ∧ Below w.heap.size w w'

theorem U.at_len {u : U} (h : u.ok) (a : Int) : (u.at a).d.length ≤ 64 := by
  unfold U.at
  split
  · simp
  · cases hq : u.cells.any (·.1 == a) with
    | true => exact (h.kind _ (lookC_mem hq)).2
    | false => rw [lookC_none hq]; simp

set_option maxHeartbeats 1000000 in
theorem read_any {A : Nat → Prop} {bu bm : Nat} {u : U} (e a : Int) (w : World) (h : UnitAt A w bu bm u) :
    Calls Tryz.prog 49 #[.pointer (some ⟨bu, 0, none⟩), .int .i64 e, .int .i64 a] w (ReadR (u.read e a).1 (u.read e a).2 w) := by
  have H := Lib.hid' h
  have Hlen := Lib.hid' (U.at_len h.ok a)
  clear h
  by_cases hq : u.asks e (inR a 1048575) = 0
  rotate_left
  · have Hf := Lib.hid' (show u.read e a = (u.asks e (inR a 1048575), ⟨0, []⟩) by simp [U.read, hq])
    have HQ := Lib.hid' hq
    clear hq
    go_enter Tryz.func49, Tryz.ntmps49
    go_wp2_with (go_at_call 78; refine (in_any _ _ _).mono ?_; rintro en w' ⟨rfl, rfl⟩)
    refine (asks_any _ _ _ (H.out.below (Nat.le_refl _) (by go_grown))).mono ?_
    rintro en w1 ⟨rfl, rfl⟩
    rw [errV_pos HQ.out]
    go_wp2
    refine bodyPost_ret (v := .tuple #[.agg #[.int .i64 0, .slice none 0 0], .iface 54 (.int .i64 (u.asks e (inR a 1048575)))]) (by simp [results, Tryz.results49, go_sem]) rfl ?_
    rw [Hf.out]
    exact ⟨none, 0, by rw [errV_pos HQ.out]; rfl, World.ownsRow_nil _ _ _ _, by go_grown⟩
  have Hf := Lib.hid' (show u.read e a = (0, u.at a) by simp [U.read, hq])
  have HQ := Lib.hid' hq
  clear hq
  go_enter Tryz.func49, Tryz.ntmps49
  go_wp2_with (go_at_call 78; refine (in_any _ _ _).mono ?_; rintro en w' ⟨rfl, rfl⟩)
  refine (asks_any _ _ _ (H.out.below (Nat.le_refl _) (by go_grown))).mono ?_
  rintro en w1 ⟨rfl, rfl⟩
  rw [HQ.out, errV_0]
  go_wp2_with fail
  refine (at_any _ _ (H.out.below (Nat.le_refl _) (by go_grown))).mono ?_
  rintro en w1 ⟨a1, cp1, rfl, hb1, hbw⟩
  have HB1 := Lib.hid' hb1
  have hc1 := (bcell hbw).1
  have hz1 := hbw.size
  clear hb1
  go_wp2_with fail
  refine (copy_any _ (u.at a) _ ⟨_, _, rfl, HB1.out⟩ (by have := Hlen.out; omega)).mono ?_
  rintro en w2 ⟨a2, cp2, rfl, ho, hb2⟩
  have HO := Lib.hid' ho
  have hc2 := (bcell hb2).1
  have lt1 : w.heap.size < w1.heap.size := by simp at hz1; omega
  have c0 : w2.cell? ⟨w.heap.size, 0, none⟩ = some (.int .i64 0) := (hc2 _ _ lt1).trans ((hc1 _ _ (by simp)).trans (by simp [go_sem]))
  have c1 : w2.cell? ⟨w.heap.size, 1, none⟩ = some (.slice none 0 0) := (hc2 _ _ lt1).trans ((hc1 _ _ (by simp)).trans (by simp [go_sem]))
  have f0 : w2.frozen? ⟨w.heap.size, 0, none⟩ = false := ((bcell hb2).2 _ _ lt1).trans (((bcell hbw).2 _ _ (by simp)).trans (by simp [go_sem]))
  have f1 : w2.frozen? ⟨w.heap.size, 1, none⟩ = false := ((bcell hb2).2 _ _ lt1).trans (((bcell hbw).2 _ _ (by simp)).trans (by simp [go_sem]))
  clear ho hc1 hc2
  go_wp2
  refine bodyPost_ret (v := .tuple #[.agg #[.int .i64 (u.at a).k, .slice a2 (u.at a).d.length cp2], .nilIface]) (by simp [results, Tryz.results49, go_sem, c0, c1]) rfl ?_
  rw [Hf.out]
  refine ⟨_, _, rfl, own_base (ownsRow_setCell_below (ownsRow_setCell_below HO.out lt1 _) lt1 _) (by omega), ?_⟩
  refine Below.setCell (Below.setCell ?_ (by simp) _) (by simp) _
  exact below_call (below_call (B := w.heap.size) (w := w) (by go_grown) (by go_size) hbw) (by omega) hb2

end Go.Proofs.YtkhnbdbcaebdaaaGreatDoor

namespace Go.Proofs.YtkhnbdbcaebdaaaGreatDoor
open Go.RowKit
set_option linter.unusedSimpArgs false
set_option linter.unusedVariables false
set_option maxRecDepth 20000

theorem F2.cells {A : Nat → Prop} {w : World} {L : List (Int × Value)} {M : List (Int × C)} (h : F2 (EntIs A w) L M) : ∀ q ∈ L, IsCell q.2 := fun q hq => by
  obtain ⟨r, _, _, a, cap, hv, _⟩ := h.mem_left hq
  exact ⟨_, _, _, _, hv⟩

theorem UnitAt.filt {A : Nat → Prop} {w w4 : World} {bu bm : Nat} {u : U} (h : UnitAt A w bu bm u) {L : List (Int × Value)} (hL : F2 (EntIs A w) L u.cells) (hf : Fr (fun k => k = bu ∨ k = bm) w w4) {p : Int → Bool} {l : Int}
    (hblk : w4.heap[bu]? = some (.cells #[.int .i64 u.e, .int .i64 l, .map (some bm)] 91 (0, 0))) (hm : MapAt w4 bm (L.filter (fun q => !p q.1))) (hok : U.ok { u with l := l, cells := u.cells.filter (fun q => !p q.1) }) :
    UnitAt A w4 bu bm { u with l := l, cells := u.cells.filter (fun q => !p q.1) } :=
  ⟨hblk, ⟨_, hm, (hL.mono fun q r _ _ hqr => hqr.fr hf (fun k hk => by rcases hk with rfl | rfl; exact h.abu; exact h.abm)).filter fun q r hqr => by rw [hqr.1]⟩, hok, h.abu, h.abm⟩

theorem trimF_any (b1 b2 : Nat) (x l : Int) (v : Value) (w : World) (hv : IsCell v) (h1 : w.cell? ⟨b1, 0, none⟩ = some (.pointer (some ⟨b2, 0, none⟩))) (h2 : w.cell? ⟨b2, 1, none⟩ = some (.int .i64 l)) :
    Calls Tryz.prog 85 #[.int .i64 x, v, .pointer (some ⟨b1, 0, none⟩)] w fun en w' => en = .returned (.bool (decide (x < l))) ∧ Below w.heap.size w w' := by
  obtain ⟨k, a, n, c, rfl⟩ := hv
  have l1 := World.block_lt_of_cell? w _ h1
  have l2 := World.block_lt_of_cell? w _ h2
  simp only at l1 l2
  go_enter Tryz.func85, Tryz.ntmps85
  go_wp2
  go_ret
  exact ⟨rfl, by go_grown⟩
theorem cutF_any (b1 : Nat) (x f : Int) (v : Value) (w : World) (hv : IsCell v) (h1 : w.cell? ⟨b1, 0, none⟩ = some (.int .i64 f)) :
    Calls Tryz.prog 86 #[.int .i64 x, v, .pointer (some ⟨b1, 0, none⟩)] w fun en w' => en = .returned (.bool (decide (f ≤ x))) ∧ Below w.heap.size w w' := by
  obtain ⟨k, a, n, c, rfl⟩ := hv
  have l1 := World.block_lt_of_cell? w _ h1
  simp only at l1
  go_enter Tryz.func86, Tryz.ntmps86
  go_wp2
  go_ret
  exact ⟨rfl, by go_grown⟩

theorem cf_trim (args : Array Value) (w : World) : (callFunc 85 args).run Tryz.prog w = .ok (.enter 85 args) w := by kernel_rfl
theorem cf_cut (args : Array Value) (w : World) : (callFunc 86 args).run Tryz.prog w = .ok (.enter 86 args) w := by kernel_rfl

set_option maxHeartbeats 1000000 in
theorem trim_any {A : Nat → Prop} {bu bm : Nat} {u : U} (e b : Int) (w : World) (h : UnitAt A w bu bm u) (hA : ∀ k, A k → k < w.heap.size) :
    Calls Tryz.prog 46 #[.pointer (some ⟨bu, 0, none⟩), .int .i64 e, .int .i64 b] w (UnitR (errV (u.trim e b).1) A bu bm (u.trim e b).2 w) := by
  have H := Lib.hid' h
  have hok := Lib.hid' (U.ok_trim h.ok e b)
  have HNE := Lib.hid' h.ne
  have hlt := h.lt.1
  have hltm := h.lt.2
  have c1 := h.cell.2.1
  have c2 := h.cell.2.2
  have f1 := h.free 1
  clear h hA
  by_cases hq : u.asks e (inR b 1048576) = 0
  rotate_left
  · have Hf := Lib.hid' (show u.trim e b = (u.asks e (inR b 1048576), u) by simp [U.trim, hq])
    have HQ := Lib.hid' hq
    clear hq
    go_enter Tryz.func46, Tryz.ntmps46
    go_wp2_with fail
    go_region_held3 (fun w' => w'.cell? ⟨w.heap.size, 0, none⟩ = some (.pointer (some ⟨bu, 0, none⟩))) (go_keep) (first | (go_at_call 78; refine (in_any _ _ _).mono ?_; rintro en w' ⟨rfl, rfl⟩) | (go_at_call 83; refine (asks_any _ _ _ (H.out.below (Nat.le_refl _) (by go_grown))).mono ?_; rintro en w' ⟨rfl, rfl⟩; rw [errV_pos HQ.out]))
    go_wp2
    go_ret
    rw [Hf.out, errV_pos HQ.out]
    exact UnitR.same H.out rfl (by go_grown)
  have HQ := Lib.hid' hq
  have hin := asks_in (show ¬ u.asks e (inR b 1048576) ≠ 0 by simp [hq])
  simp [inR] at hin
  have Hf := Lib.hid' (show u.trim e b = (0, { u with l := max u.l b, cells := u.cells.filter (fun p => !decide (p.1 < max u.l b)) }) by simp [U.trim, hq])
  obtain ⟨L, hm, hL⟩ := H.out.map
  have HM := Lib.hid' hm
  have HL := Lib.hid' hL
  clear hq hm hL
  go_enter Tryz.func46, Tryz.ntmps46
  go_wp2_with fail
  go_region_held3 (fun w' => w'.cell? ⟨w.heap.size, 0, none⟩ = some (.pointer (some ⟨bu, 0, none⟩))) (go_keep) (first | (go_at_call 78; refine (in_any _ _ _).mono ?_; rintro en w' ⟨rfl, rfl⟩) | (go_at_call 83; refine (asks_any _ _ _ (H.out.below (Nat.le_refl _) (by go_grown))).mono ?_; rintro en w' ⟨rfl, rfl⟩; rw [HQ.out, errV_0]))
  go_wp2_with fail
  have k1 : (w.alloc (.cells #[.pointer (some ⟨bu, 0, none⟩)] 37)).drew.cell? ⟨w.heap.size, 0, none⟩ = some (.pointer (some ⟨bu, 0, none⟩)) := by simp [go_sem]
  have k2 : (w.alloc (.cells #[.pointer (some ⟨bu, 0, none⟩)] 37)).drew.cell? ⟨bu, 1, none⟩ = some (.int .i64 u.l) := by simp [go_sem, c1, hlt]
  have k3 : (w.alloc (.cells #[.pointer (some ⟨bu, 0, none⟩)] 37)).drew.frozen? ⟨bu, 1, none⟩ = false := by simp [go_sem, f1, hlt]
  have k4 := Lib.hid' (show Below w.heap.size w (w.alloc (.cells #[.pointer (some ⟨bu, 0, none⟩)] 37)).drew by go_grown)
  have k5 : w.heap.size < (w.alloc (.cells #[.pointer (some ⟨bu, 0, none⟩)] 37)).drew.heap.size := by simp
  generalize (w.alloc (.cells #[.pointer (some ⟨bu, 0, none⟩)] 37)).drew = w1 at *
  go_region
  have hmx : (if u.l < b then b else u.l) = max u.l b := by split <;> omega
  rw [hmx]
  have HW1 := Lib.hid' (H.out.below (Nat.le_refl _) k4.out)
  have q1 : (w1.setCell ⟨bu, 1, none⟩ (.int .i64 (max u.l b))).drew.cell? ⟨w.heap.size, 0, none⟩ = some (.pointer (some ⟨bu, 0, none⟩)) := by
    rw [← k1]; exact World.cell?_of_block (w := w1) (heap_setCell_other _ _ _ _ (by simp; omega))
  have q2 : (w1.setCell ⟨bu, 1, none⟩ (.int .i64 (max u.l b))).drew.cell? ⟨bu, 1, none⟩ = some (.int .i64 (max u.l b)) := by
    show (w1.setCell ⟨bu, 1, none⟩ (.int .i64 (max u.l b))).cell? ⟨bu, 1, none⟩ = _
    rw [cell_of_row _ bu 1 _ _ _ (heap_setCell_same w1 bu 1 _ _ _ HW1.out.blk)]; rfl
  have q3 : (w1.setCell ⟨bu, 1, none⟩ (.int .i64 (max u.l b))).drew.cell? ⟨bu, 2, none⟩ = some (.map (some bm)) := by
    show (w1.setCell ⟨bu, 1, none⟩ (.int .i64 (max u.l b))).cell? ⟨bu, 2, none⟩ = _
    rw [cell_of_row _ bu 2 _ _ _ (heap_setCell_same w1 bu 1 _ _ _ HW1.out.blk)]; rfl
  have q4 := Lib.hid' (show (w1.setCell ⟨bu, 1, none⟩ (.int .i64 (max u.l b))).drew.heap[bu]? = _ from heap_setCell_same w1 bu 1 _ _ (.int .i64 (max u.l b)) HW1.out.blk)
  have q5 := Lib.hid' (show Fr (fun k => k = bu ∨ k = bm) w (w1.setCell ⟨bu, 1, none⟩ (.int .i64 (max u.l b))).drew from ((Fr.of_below k4.out).trans (fr_setCell w1 bu 1 _) (fun k hk => Or.inl (Or.inl hk))).trans_below (Below.refl _ _).drew)
  have q6 := Lib.hid' (show MapAt (w1.setCell ⟨bu, 1, none⟩ (.int .i64 (max u.l b))).drew bm L from HM.out.block ((heap_setCell_other _ _ _ _ (fun h => HNE.out h.symm)).trans (k4.out.block bm hltm)))
  clear hmx k1 k2 k3 k5 f1 c1 c2
  generalize (w1.setCell ⟨bu, 1, none⟩ (.int .i64 (max u.l b))).drew = w2 at *
  have lt2 := World.block_lt_of_cell? w2 _ q1
  simp only at lt2
  go_wp2_with fail
  refine (deleteFunc_any 85 #[.pointer (some ⟨w.heap.size, 0, none⟩)] (fun x => decide (x < max u.l b)) bm L _ q6.out HL.out.cells cf_trim (Lib.hid' ?_)).mono ?_
  · intro w3 x v hf3 hv
    exact trimF_any _ _ _ _ _ _ hv (hf3.cell q1 (by simp; omega)) (hf3.cell q2 HNE.out)
  rintro en w3 ⟨rfl, hm3, hf3⟩
  go_wp2
  go_ret
  rw [Hf.out]
  have hfr := q5.out.trans hf3 (fun k hk => Or.inl (Or.inr hk))
  refine ⟨rfl, ?_, hfr⟩
  exact H.out.filt (p := fun x => decide (x < max u.l b)) HL.out hfr ((hf3.block _ (Nat.lt_trans hlt lt2) HNE.out).trans q4.out) hm3 (by have := hok.out; rw [Hf.out] at this; exact this)

set_option maxHeartbeats 1000000 in
theorem cut_any {A : Nat → Prop} {bu bm : Nat} {u : U} (e f : Int) (w : World) (h : UnitAt A w bu bm u) (hA : ∀ k, A k → k < w.heap.size) (hcount : u.cells.length ≤ 1048576) :
    Calls Tryz.prog 47 #[.pointer (some ⟨bu, 0, none⟩), .int .i64 e, .int .i64 f] w (UnitR (.tuple #[.int .i64 (u.cut e f).2.1, errV (u.cut e f).1]) A bu bm (u.cut e f).2.2 w) := by
  have H := Lib.hid' h
  have hok := Lib.hid' (U.ok_cut h.ok e f)
  have HNE := Lib.hid' h.ne
  have hlt := h.lt.1
  have hltm := h.lt.2
  have c1 := h.cell.2.1
  have c2 := h.cell.2.2
  clear h hA
  by_cases hq : u.asks e (inR f 1048576) = 0
  rotate_left
  · have Hf := Lib.hid' (show u.cut e f = (u.asks e (inR f 1048576), 0, u) by simp [U.cut, hq])
    have HQ := Lib.hid' hq
    clear hq hcount
    go_enter Tryz.func47, Tryz.ntmps47
    go_wp2_with (go_at_call 78; refine (in_any _ _ _).mono ?_; rintro en w' ⟨rfl, rfl⟩)
    refine (asks_any _ _ _ (H.out.below (Nat.le_refl _) (by go_grown))).mono ?_
    rintro en w' ⟨rfl, rfl⟩
    rw [errV_pos HQ.out]
    go_wp2
    go_ret2
    rw [Hf.out, errV_pos HQ.out]
    exact UnitR.same H.out rfl (by go_grown)
  have HQ := Lib.hid' hq
  by_cases hl : f < u.l
  · have Hf := Lib.hid' (show u.cut e f = (9, 0, u) by simp [U.cut, hq, hl])
    clear hq hcount
    go_enter Tryz.func47, Tryz.ntmps47
    go_wp2_with (go_at_call 78; refine (in_any _ _ _).mono ?_; rintro en w' ⟨rfl, rfl⟩)
    refine (asks_any _ _ _ (H.out.below (Nat.le_refl _) (by go_grown))).mono ?_
    rintro en w' ⟨rfl, rfl⟩
    rw [HQ.out, errV_0]
    go_wp2_with fail
    go_region_held3 (fun w' => w'.cell? ⟨w.heap.size, 0, none⟩ = some (.int .i64 f) ∧ w'.cell? ⟨bu, 1, none⟩ = some (.int .i64 u.l)) (go_keep) (fail)
    go_wp2
    go_ret2
    rw [Hf.out]
    exact UnitR.same H.out rfl (by go_grown)
  have Hf := Lib.hid' (show u.cut e f = (0, (u.cells.length : Int) - (u.cells.filter (fun p => !decide (f ≤ p.1))).length, { u with cells := u.cells.filter (fun p => !decide (f ≤ p.1)) }) by simp [U.cut, hq, hl])
  obtain ⟨L, hm, hL⟩ := H.out.map
  have HM := Lib.hid' hm
  have HL := Lib.hid' hL
  have hn1 := Lib.hid' hL.length
  have hn2 := Lib.hid' (hL.filter (f := fun q => !decide (f ≤ q.1)) (g := fun q => !decide (f ≤ q.1)) (fun q r hqr => by rw [hqr.1])).length
  clear hq hm hL
  go_enter Tryz.func47, Tryz.ntmps47
  go_wp2_with (go_at_call 78; refine (in_any _ _ _).mono ?_; rintro en w' ⟨rfl, rfl⟩)
  refine (asks_any _ _ _ (H.out.below (Nat.le_refl _) (by go_grown))).mono ?_
  rintro en w' ⟨rfl, rfl⟩
  rw [HQ.out, errV_0]
  go_wp2_with fail
  go_region_held3 (fun w' => w'.cell? ⟨w.heap.size, 0, none⟩ = some (.int .i64 f) ∧ w'.cell? ⟨bu, 1, none⟩ = some (.int .i64 u.l)) (go_keep) (fail)
  have k1 : (w.alloc (.cells #[.int .i64 f] 3)).drew.cell? ⟨w.heap.size, 0, none⟩ = some (.int .i64 f) := by simp [go_sem]
  have k2 : (w.alloc (.cells #[.int .i64 f] 3)).drew.cell? ⟨bu, 2, none⟩ = some (.map (some bm)) := by simp [go_sem, c2, hlt]
  have k4 := Lib.hid' (show Below w.heap.size w (w.alloc (.cells #[.int .i64 f] 3)).drew by go_grown)
  have k5 : w.heap.size < (w.alloc (.cells #[.int .i64 f] 3)).drew.heap.size := by simp
  generalize (w.alloc (.cells #[.int .i64 f] 3)).drew = w1 at *
  have HM1 := Lib.hid' (HM.out.block (k4.out.block bm hltm))
  have hn1' : L.length ≤ 1048576 := by have := hn1.out; omega
  have hn2' : (L.filter (fun q => !decide (f ≤ q.1))).length ≤ L.length := List.length_filter_le _ _
  clear hcount c1 c2
  go_wp2_with (at_len; refine wp_len (b := bm) (L := L) mtCells rfl (.tmp 28) rfl rfl HM1.out ?_)
  refine (deleteFunc_any 86 #[.pointer (some ⟨w.heap.size, 0, none⟩)] (fun x => decide (f ≤ x)) bm L _ HM1.out HL.out.cells cf_cut (Lib.hid' ?_)).mono ?_
  · intro w3 x v hf3 hv
    exact cutF_any _ _ _ _ _ hv (hf3.cell k1 (by simp; omega))
  rintro en w3 ⟨rfl, hm3, hf3⟩
  have q3 : w3.cell? ⟨bu, 2, none⟩ = some (.map (some bm)) := hf3.cell k2 HNE.out
  have Hm3 := Lib.hid' hm3
  have Hf3 := Lib.hid' hf3
  clear hm3 hf3
  go_wp2_with (at_len; refine wp_len (b := bm) (L := L.filter (fun q => !decide (f ≤ q.1))) mtCells rfl (.tmp 40) rfl rfl Hm3.out ?_)
  go_ret2
  rw [Hf.out]
  have hfr := (Fr.of_below (F := fun k => k = bu ∨ k = bm) k4.out).trans Hf3.out (fun k hk => Or.inl (Or.inr hk))
  refine ⟨ret_eq ?_, ?_, hfr⟩
  · rw [← hn1.out, ← hn2.out]; rfl
  · exact H.out.filt (p := fun x => decide (f ≤ x)) (l := u.l) HL.out hfr (((Hf3.out.block _ (Nat.lt_trans hlt k5) HNE.out).trans (k4.out.block bu hlt)).trans H.out.blk) Hm3.out (by have := hok.out; rw [Hf.out] at this; exact this)

end Go.Proofs.YtkhnbdbcaebdaaaGreatDoor

namespace Go.Proofs.YtkhnbdbcaebdaaaGreatDoor
open Go.RowKit
set_option linter.unusedSimpArgs false
set_option linter.unusedVariables false
set_option maxRecDepth 20000

theorem CellsAt.put {A F : Nat → Prop} {w w2 w3 : World} {bm : Nat} {M : List (Int × C)} (hA : ∀ k, A k → k < w.heap.size) {L : List (Int × Value)} {a : Int} {c : C} {ad : Option Addr} {cap : Nat}
    (hL : F2 (EntIs A w2) L M) (hm3 : MapAt w3 bm (putE L a (.agg #[.int .i64 c.k, .slice ad c.d.length cap]))) (hf3 : Fr F w2 w3) (hF : ∀ k, F k → A k) (hv : Bytes w2 (.slice ad c.d.length cap) c.d) (hin : ∀ x, ad = some x → w.heap.size ≤ x.block ∧ x.block < w2.heap.size) :
    CellsAt A w3 bm (putC M a c) := by
  refine ⟨_, hm3, F2.put (hL.mono fun p q _ _ hpq => hpq.fr hf3 hF) ⟨rfl, ad, cap, rfl, ?_, ?_⟩⟩
  · refine SlV.fr hv hf3 ?_
    intro x n c' hx
    simp only [Value.slice.injEq] at hx
    have h5 := (hin x hx.1).1
    intro hk
    have := hA _ (hF _ hk); omega
  · intro x hx
    have h5 := hin x hx
    exact ⟨fun hk => by have := hA _ hk; omega, Nat.lt_of_lt_of_le h5.2 hf3.size⟩

end Go.Proofs.YtkhnbdbcaebdaaaGreatDoor

namespace Go.Proofs.YtkhnbdbcaebdaaaGreatDoor
open Go.RowKit
set_option linter.unusedSimpArgs false
set_option linter.unusedVariables false
set_option maxRecDepth 20000

abbrev Ent := Int × C × Option Addr × Nat
def entV (x : Ent) : List Value := [.int .i64 x.1, .int .i64 x.2.1.k, .slice x.2.2.1 x.2.1.d.length x.2.2.2]
def ents (E : List Ent) : List Value := E.flatMap entV
theorem ents_append (L M : List Ent) : ents (L ++ M) = ents L ++ ents M := by simp [ents]
def noAd (x : Ent) : Int × C := (x.1, x.2.1)


theorem etEnt : ElemT Tryz.prog 118 121 3 40 := ElemT.mk' (z := .agg #[.int .i64 0, .int .i64 0, .slice none 0 0]) Tryz.underlying118 (by kernel_rfl) rfl (by decide) (by decide)
def sortA (M : List (Int × C)) : List Int := (M.map (·.1)).mergeSort (fun x y => decide (x ≤ y))
def sortC (M : List (Int × C)) : List (Int × C) := (sortA M).map (fun a => (a, lookC M a))

theorem one3s (a b : Int) (p : Option Addr) (n c : Nat) : ∀ u ∈ [Value.int .i64 a, .int .i64 b, .slice p n c], u.oneCell' = true := by intro u hu; simp at hu; rcases hu with rfl | rfl | rfl <;> rfl

/-- all cells, by their addresses, as a row of the call's own, with data of its own -/
theorem sortC_len (M : List (Int × C)) : (sortC M).length = M.length := by simp [sortC, sortA]
def EntsR (M : List (Int × C)) (w : World) (en : Ending) (w' : World) : Prop :=
  ∃ (E : List Ent) (a : Option Addr) (c : Nat), en = .returned (.slice a E.length c) ∧ E.map noAd = sortC M ∧ w'.ownsRow w.heap.size 121 3 (.slice a E.length c) E.length (ents E) ∧
    (∀ x ∈ E, w'.ownsRow w.heap.size 5 1 (.slice x.2.2.1 x.2.1.d.length x.2.2.2) x.2.1.d.length (byteVs x.2.1.d)) ∧ Below w.heap.size w w'

theorem HLW {A : Nat → Prop} {w : World} {bu bm : Nat} {u : U} (h : UnitAt A w bu bm u) {L : List (Int × Value)} (hr : F2 (EntIs A w) L u.cells) : ∀ p ∈ L, (Lit.int .i64 p.1).wf = true := by
  intro p hp
  obtain ⟨q, hq, hr⟩ := F2.mem_left hr hp
  have h1 := h.ok.addr q hq
  have h2 := h.ok.l0
  rw [hr.1]
  show (decide _ && decide _) = true
  rw [Bool.and_eq_true]
  exact ⟨decide_eq_true (by show (-9223372036854775808 : Int) ≤ _; omega), decide_eq_true (by show _ ≤ (9223372036854775807 : Int); omega)⟩

theorem look_len {u : U} (h : u.ok) (a : Int) : (lookC u.cells a).d.length ≤ 64 := by
  cases ha : u.cells.any (·.1 == a) with
  | true => exact (h.kind _ (lookC_mem ha)).2
  | false => rw [lookC_none ha]; exact Nat.zero_le _

theorem entries_any {A : Nat → Prop} {bu bm : Nat} {u : U} (w : World) (h : UnitAt A w bu bm u) (hlen : u.cells.length ≤ 1048576) : Calls Tryz.prog 66 #[.pointer (some ⟨bu, 0, none⟩)] w (EntsR u.cells w) := by
  obtain ⟨c0, c1, c2⟩ := h.cell
  have HU := Lib.hid' h
  obtain ⟨L, hm, hrel⟩ := h.map
  have HM := Lib.hid' hm
  have HR := Lib.hid' hrel
  clear h hm hrel
  go_enter Tryz.func66, Tryz.ntmps66
  go_wp2_with fail
  refine (keys_any (some bm) w).mono ?_
  rintro en w1 ⟨rfl, rfl⟩
  go_wp2_with fail
  have hlen2 : L.length ≤ 1048576 := by rw [HR.out.length]; exact hlen
  refine (sorted_any bm L w HM.out (HLW HU.out HR.out) hlen2).mono ?_
  rintro en w2 ⟨ks, rfl, hks, hnil, hb⟩
  have HKS := Lib.hid' hks
  have HB := Lib.hid' hb
  obtain ⟨ka, kc, rfl⟩ := own_shape hks
  clear hks hb hnil
  go_wp2
  have HKL := Lib.hid' (show (sortK L) = sortA u.cells by unfold sortK sortA; rw [HR.out.map_eq (f := (·.1)) (g := (·.1)) (fun p q h => h.1)])
  go_loopw [3, 15] (fun vo vi wr => ∃ (k : Nat) (E : List Ent) (a' : Option Addr) (c' : Nat), vo = .slice a' E.length c' ∧ vi = .int .i64 k ∧ k ≤ L.length ∧ E.map noAd = (sortC u.cells).take k ∧ wr.ownsRow w2.heap.size 121 3 (.slice a' E.length c') E.length (ents E) ∧ (∀ x ∈ E, wr.ownsRow w2.heap.size 5 1 (.slice x.2.2.1 x.2.1.d.length x.2.2.2) x.2.1.d.length (byteVs x.2.1.d)) ∧ Below w2.heap.size w2 wr) (fun _ vi _ => L.length - (intOf vi).toNat)
  case atStart => exact ⟨0, [], none, 0, rfl, rfl, Nat.zero_le _, by simp, own_nil _ _ _ _, by simp, Below.refl _ _⟩
  case round =>
    obtain ⟨k, E, a', c', rfl, rfl, hk, hE, ho, hx, hbr⟩ := hrel
    have HE := Lib.hid' hE
    have HO := Lib.hid' ho
    have HX := Lib.hid' hx
    have HBW := Lib.hid' (show Below w.heap.size w wr from ((Below.refl w.heap.size w).alloc (Nat.le_refl _) _ |>.trans (HB.out.mono (by omega))).trans (hbr.mono (by have := HB.out.size; simp [kmap] at this; omega)))
    have HBR := Lib.hid' hbr
    clear hE ho hx
    have hKn : (sortK L).length = L.length := by simp [sortK]
    have hKm : (sortA u.cells).length = L.length := by rw [← HKL.out]; exact hKn
    have HEl := Lib.hid' (show E.length = k by have := congrArg List.length HE.out; rw [List.length_map, List.length_take, sortC, List.length_map, hKm] at this; omega)
    have hEb : E.length ≤ 1048576 := by have := HEl.out; omega
    by_cases hlt : k < L.length
    · have hkr : SlV wr (.slice ka L.length kc) L.length ((sortK L).map encZ) := SlV.below (SlV.of_own HKS.out) (Nat.le_refl _) hbr
      obtain ⟨kb, ko, rfl, hkb, hkc⟩ := SlV.addr hkr (by intro h0; have := congrArg List.length h0; rw [List.length_map, hKn] at this; simp only [List.length_nil] at this; omega)
      have ck : wr.cell? ⟨kb, ko + k, none⟩ = some (.int .i64 ((sortK L)[k]'(by omega))) := hkc k _ (by rw [List.getElem?_map, List.getElem?_eq_getElem (by omega : k < (sortK L).length)]; rfl)
      have HKe := Lib.hid' (show (sortK L)[k]'(by omega) = (sortA u.cells)[k]'(by omega) by simp only [HKL.out])
      have hkk : k < (sortK L).length := by omega
      generalize (sortK L)[k]'hkk = a at ck HKe
      have HNX := Lib.hid' (show (sortC u.cells).take (k + 1) = (sortC u.cells).take k ++ [(a, lookC u.cells a)] by
        rw [take_succ _ k (by simp [sortC, ← HKL.out]; omega)]; simp [sortC, HKe.out])
      clear hkr hkc
      have HUr := Lib.hid' (HU.out.below (Nat.le_refl _) HBW.out)
      obtain ⟨g0, g1, g2⟩ := HUr.out.cell
      obtain ⟨L2, ad, cap, hM2, hv, hB2⟩ := HUr.out.map.look a
      have HM2 := Lib.hid' hM2
      have Hlen := Lib.hid' (look_len HU.out.ok a)
      have HV2 := Lib.hid' hv
      have HB2 := Lib.hid' hB2
      clear hM2 hv hB2 hbr
      go_wp2_with (first
        | (at_lookup; refine wp_look (b := bm) (L := L2) mtCells rfl (.tmp 24) (.tmp 25) rfl rfl a rfl HM2.out ?_; rw [HV2.out])
        | (at_builtin; go_loud (refine append_one etEnt rfl (.tmp 19) (.tmp 29) rfl [.int .i64 a, .int .i64 (lookC u.cells a).k, .slice ad2 (lookC u.cells a).d.length cap2] rfl w2.heap.size _ _ _ rfl HOq.out rfl (one3s _ _ _ _ _) (by omega) hwsq ?_); intro a9 c9 w9 ho9 hf9; have HO9 := Lib.hid' ho9; have HF9 := Lib.hid' hf9; clear ho9 hf9)
        | (go_at_call 88; refine (copy_any _ (lookC u.cells a) _ ⟨_, _, rfl, HB2.out⟩ (by have := Hlen.out; omega)).mono ?_; rintro en w5 ⟨ad2, cap2, rfl, ho5, hb5⟩; have HO5 := Lib.hid' ho5; have HB5 := Lib.hid' hb5; have HOq := Lib.hid' (own_below HO.out (Nat.le_refl _) hb5); have hwsq : w2.heap.size ≤ w5.heap.size := Nat.le_trans HBR.out.size hb5.size; clear ho5 hb5))
      refine ⟨⟨k + 1, E ++ [(a, lookC u.cells a, ad2, cap2)], a9, c9, by simp, by go_num, by omega, ?_, ?_, ?_, ?_⟩, ?_⟩
      · rw [List.map_append, HE.out, HNX.out]; rfl
      · rw [ents_append, List.length_append]; exact HO9.out
      · intro x hx
        rcases List.mem_append.1 hx with hx | hx
        · have h1 := own_below (HX.out x hx) (Nat.le_refl _) HB5.out
          exact own_fr h1 HF9.out (own_apart h1 HOq.out (by decide))
        · rw [List.mem_singleton] at hx
          subst hx
          exact own_fr (own_base HO5.out HBR.out.size) HF9.out (own_apart HO5.out HOq.out (by decide))
      · exact HF9.out.row HOq.out (Nat.le_refl _) hwsq (below_call HBR.out HBR.out.size HB5.out)
      · simp [intOf]; omega
    · go_wp2
      refine bodyPost_ret (v := .slice a' E.length c') (by simp [results, Tryz.results66, go_sem]) rfl ?_
      have hws : w.heap.size ≤ w2.heap.size := by have := HB.out.size; simp [kmap] at this; omega
      refine ⟨E, a', c', rfl, ?_, own_base HO.out hws, fun x hx => own_base (HX.out x hx) hws, HBW.out⟩
      rw [HE.out, List.take_of_length_le]
      simp only [sortC, List.length_map, hKm]; omega
end Go.Proofs.YtkhnbdbcaebdaaaGreatDoor

namespace Go.Proofs.YtkhnbdbcaebdaaaGreatDoor
set_option linter.unusedSimpArgs false
set_option linter.unusedVariables false

def Rise (S : List (Int × C)) : Prop := S.Pairwise (fun p q => p.1 < q.1)

theorem lookC_of_mem {M : List (Int × C)} (hn : (M.map (·.1)).Nodup) {p : Int × C} (hp : p ∈ M) : lookC M p.1 = p.2 := by
  induction M with
  | nil => cases hp
  | cons q M ih =>
    simp only [List.map_cons, List.nodup_cons] at hn
    unfold lookC
    by_cases hq : q.1 = p.1
    · rcases List.mem_cons.1 hp with rfl | hp
      · simp
      · exact absurd (List.mem_map.2 ⟨p, hp, rfl⟩) (hq ▸ hn.1)
    · have hpM : p ∈ M := by
        rcases List.mem_cons.1 hp with rfl | hp
        · exact absurd rfl hq
        · exact hp
      have := ih hn.2 hpM
      unfold lookC at this
      simp only [List.find?_cons, show (q.1 == p.1) = false from by simpa using hq]
      exact this

theorem sortC_map (M : List (Int × C)) (hn : (M.map (·.1)).Nodup) : (sortC M).Perm M := by
  have h1 : (sortA M).Perm (M.map (·.1)) := List.mergeSort_perm _ _
  have h2 : (sortC M).Perm ((M.map (·.1)).map (fun a => (a, lookC M a))) := h1.map _
  refine h2.trans (List.Perm.of_eq ?_)
  rw [List.map_map]
  conv => rhs; rw [← List.map_id M]
  refine List.map_congr_left fun p hp => ?_
  simp [lookC_of_mem hn hp]
theorem sortC_rise (M : List (Int × C)) (hn : (M.map (·.1)).Nodup) : Rise (sortC M) := by
  unfold Rise sortC
  rw [List.pairwise_map]
  have h1 : (sortA M).Pairwise (fun x y => x ≤ y) := by
    have := List.pairwise_mergeSort (le := fun x y : Int => decide (x ≤ y)) (fun a b c h1 h2 => by simp at *; omega) (fun a b => by simp; omega) (M.map (·.1))
    exact this.imp (fun h => by simpa using h)
  have h2 : (sortA M).Nodup := (List.mergeSort_perm _ _).nodup_iff.2 hn
  exact (h1.and h2).imp (fun ⟨a, b⟩ => by simp only; omega)
theorem sortC_mem (M : List (Int × C)) (hn : (M.map (·.1)).Nodup) (p : Int × C) : p ∈ sortC M ↔ p ∈ M := (sortC_map M hn).mem_iff
theorem putC_len (L : List (Int × C)) (a : Int) (c : C) : (putC L a c).length ≤ L.length + 1 := by
  unfold putC; split <;> simp
end Go.Proofs.YtkhnbdbcaebdaaaGreatDoor

namespace Go.Proofs.YtkhnbdbcaebdaaaGreatDoor
set_option linter.unusedSimpArgs false
set_option linter.unusedVariables false

structure M where
  u : U
  t : Int
structure M.ok (m : M) : Prop where
  u : m.u.ok
  e : m.u.e = 0
  lt : m.u.l ≤ m.t
  t1 : m.t ≤ 1048576
  below : ∀ p ∈ m.u.cells, p.1 < m.t
def M.new : M := ⟨U.new, 0⟩
def M.cut (m : M) (f : Int) : Nat × M := if !inR f 1048576 then (1, m) else if f < m.u.l then (9, m) else (0, ⟨{ m.u with cells := m.u.cells.filter (fun p => !decide (f ≤ p.1)) }, f⟩)

theorem check_zero {x : C} (h : x.check = 0) (hk : ¬ (x.k ≠ 1 ∧ x.k ≠ 2)) : (x.k = 1 ∨ x.k = 2 ∧ x.d = []) ∧ x.d.length ≤ 64 := by
  unfold C.check at h
  split at h; · cases h
  split at h; · cases h
  split at h; · cases h
  rename_i h1 h2 h3
  refine ⟨?_, by omega⟩
  by_cases h4 : x.k = 1
  · exact .inl h4
  · right
    have h5 : x.k = 2 := by omega
    refine ⟨h5, ?_⟩
    cases hd : x.d with
    | nil => rfl
    | cons b l => rw [hd] at h3; simp at h3; exact absurd h3 h4
end Go.Proofs.YtkhnbdbcaebdaaaGreatDoor

namespace Go.Proofs.YtkhnbdbcaebdaaaGreatDoor
set_option linter.unusedSimpArgs false
set_option linter.unusedVariables false

/-- two units are the same -/
def sameB (u v : U) : Bool := u.e == v.e && u.l == v.l && (u.cells.length == v.cells.length && u.cells.all (fun p => v.cells.any (·.1 == p.1) && decide (p.2 = lookC v.cells p.1)))
end Go.Proofs.YtkhnbdbcaebdaaaGreatDoor

namespace Go.Proofs.YtkhnbdbcaebdaaaGreatDoor
set_option linter.unusedSimpArgs false
set_option linter.unusedVariables false

def outE (l : Int) (p : Int × C) : Bool := decide (p.1 < l) || decide (1048576 ≤ p.1)
def noneE (p : Int × C) : Bool := p.2.k == 0 || p.2.k == 3
def firstBad : List (Int × C) → Nat
  | [] => 0
  | p :: E => if p.2.check ≠ 0 then p.2.check else firstBad E
def risesB : List (Int × C) → Bool
  | [] => true
  | [_] => true
  | x :: y :: E => decide (x.1 < y.1) && risesB (y :: E)
def rightErr (E : List (Int × C)) : Nat := if firstBad E ≠ 0 then firstBad E else if E.any noneE = true then 2 else if risesB E = true then 0 else 13
def ofErr (e l : Int) (E : List (Int × C)) : Nat :=
  if e < 0 ∨ 1099511627776 < e ∨ l < 0 ∨ 1048576 < l then 1 else if E.any (outE l) = true then 1 else rightErr E
theorem firstBad_zero {E : List (Int × C)} (h : firstBad E = 0) : ∀ p ∈ E, p.2.check = 0 := by
  induction E with
  | nil => simp
  | cons q E ih =>
    unfold firstBad at h
    split at h
    · rename_i h1; exact absurd h h1
    · rename_i h1
      intro p hp
      rcases List.mem_cons.1 hp with rfl | hp
      · simpa using h1
      · exact ih h p hp
theorem risesB_rise : ∀ {E : List (Int × C)}, risesB E = true → Rise E
  | [], _ => List.Pairwise.nil
  | [_], _ => by simp [Rise]
  | x :: y :: E, h => by
    simp only [risesB, Bool.and_eq_true, decide_eq_true_eq] at h
    have ih := risesB_rise h.2
    refine List.pairwise_cons.2 ⟨fun p hp => ?_, ih⟩
    rcases List.mem_cons.1 hp with rfl | hp
    · exact h.1
    · have := (List.pairwise_cons.1 ih).1 p hp
      omega
theorem rise_nodup {E : List (Int × C)} (h : Rise E) : (E.map (·.1)).Nodup := by
  unfold List.Nodup
  rw [List.pairwise_map]
  exact h.imp (fun h => by omega)
/-- the unit that is made -/
theorem of_ok {e l : Int} {E : List (Int × C)} (h : ofErr e l E = 0) : U.ok ⟨e, l, E⟩ ∧ Rise E := by
  unfold ofErr at h
  split at h; · cases h
  rename_i h1
  split at h; · cases h
  rename_i h2
  unfold rightErr at h
  split at h
  · rename_i h3; exact absurd h h3
  rename_i h3
  split at h; · cases h
  rename_i h4
  split at h
  rotate_left
  · cases h
  rename_i h5
  have hr := risesB_rise h5
  have hc := firstBad_zero (E := E) (by simpa using h3)
  have ho : ∀ p ∈ E, l ≤ p.1 ∧ p.1 < 1048576 := by
    intro p hp
    have : outE l p = false := by
      cases hq : outE l p with
      | false => rfl
      | true => exact absurd (List.any_eq_true.2 ⟨p, hp, hq⟩) h2
    unfold outE at this
    rw [Bool.or_eq_false_iff, decide_eq_false_iff_not, decide_eq_false_iff_not] at this
    omega
  refine ⟨⟨by show 0 ≤ e; omega, by show e ≤ _; omega, by show 0 ≤ l; omega, by show l ≤ _; omega, ho, fun p hp => ?_, rise_nodup hr⟩, hr⟩
  have h6 : noneE p = false := by
    cases hq : noneE p with
    | false => rfl
    | true => exact absurd (List.any_eq_true.2 ⟨p, hp, hq⟩) h4
  have h7 := hc p hp
  unfold noneE at h6
  rw [Bool.or_eq_false_iff, beq_eq_false_iff_ne, beq_eq_false_iff_ne] at h6
  refine check_zero h7 ?_
  intro h8
  unfold C.check at h7
  split at h7; · cases h7
  rename_i h9
  omega
theorem putC_new {L : List (Int × C)} {a : Int} {c : C} (h : ∀ p ∈ L, p.1 ≠ a) : putC L a c = L ++ [(a, c)] := by
  unfold putC
  rw [if_neg]
  rw [List.any_eq_true]
  rintro ⟨p, hp, he⟩
  exact h p hp (by simpa using he)
/-- the map that is filled -/
theorem of_step {E : List (Int × C)} (h : Rise E) {k : Nat} (hk : k < E.length) : putC (E.take k) E[k].1 E[k].2 = E.take (k + 1) := by
  rw [putC_new, List.take_succ_eq_append_getElem hk]
  intro p hp
  obtain ⟨j, hj, rfl⟩ := List.getElem_of_mem hp
  have hjk : j < k := by rw [List.length_take] at hj; omega
  rw [List.getElem_take]
  have := List.pairwise_iff_getElem.1 h j k (by omega) hk hjk
  omega
end Go.Proofs.YtkhnbdbcaebdaaaGreatDoor

namespace Go.Proofs.YtkhnbdbcaebdaaaGreatDoor
set_option linter.unusedSimpArgs false
set_option linter.unusedVariables false

def cellB (c : C) : List UInt8 := vb c.k.toNat ++ (if c.k = 1 then headB c.d else [])
def entsB : Int → List (Int × C) → List UInt8
  | _, [] => []
  | f, p :: L => vb (p.1 - f).toNat ++ (cellB p.2 ++ entsB (p.1 + 1) L)
def unitB (e l : Int) (L : List (Int × C)) : List UInt8 := vb e.toNat ++ (vb l.toNat ++ (vb L.length ++ entsB l L))
def RD.cell (r : RD) : C × RD :=
  if (if (r.within 3).1 = 1 then (r.within 3).2.text 64 else ([], (r.within 3).2)).2.bad ≠ 0 then (⟨0, []⟩, (if (r.within 3).1 = 1 then (r.within 3).2.text 64 else ([], (r.within 3).2)).2)
  else (⟨((r.within 3).1 : Nat), (if (r.within 3).1 = 1 then (r.within 3).2.text 64 else ([], (r.within 3).2)).1⟩, (if (r.within 3).1 = 1 then (r.within 3).2.text 64 else ([], (r.within 3).2)).2)
/-- the reader ahead of an entry's cell -/
def RD.by1 (r : RD) (f : Int) : RD := if (1048576 - f).toNat ≤ r.num.1 then r.num.2.fail 1 else r.num.2
def RD.ents : Nat → Int → RD → List (Int × C) → List (Int × C) × RD
  | 0, _, r, acc => (acc, r)
  | n + 1, f, r, acc => if (r.by1 f).cell.2.bad ≠ 0 then ([], (r.by1 f).cell.2) else RD.ents n (f + (r.num.1 : Nat) + 1) (r.by1 f).cell.2 (acc ++ [(f + (r.num.1 : Nat), (r.by1 f).cell.1)])
def readU (r : RD) : U × RD :=
  let e := r.within 1099511627776
  let l := e.2.within 1048576
  let m := l.2.num
  let x := RD.ents (min m.1 65536) (l.1 : Nat) (if 65536 < m.1 then m.2.fail 3 else m.2) []
  (⟨(e.1 : Nat), (l.1 : Nat), x.1⟩, x.2)
def U.zero : U := ⟨0, 0, []⟩
def takeU (b : List UInt8) : Nat × U :=
  if (fone b).1 ≠ 0 then ((fone b).1, U.zero) else
    if (readU ⟨(fone b).2, 0⟩).2.fin ≠ 0 then ((readU ⟨(fone b).2, 0⟩).2.fin, U.zero)
    else if (readU ⟨(fone b).2, 0⟩).1.cells.any noneE = true then (2, U.zero) else (0, (readU ⟨(fone b).2, 0⟩).1)
def putU (e l : Int) (L : List (Int × C)) : Nat × List UInt8 := if 65536 < (unitB e l L).length then (3, []) else (0, frameB (unitB e l L))
theorem RD.cell_bad {r : RD} (h : r.bad ≠ 0) : r.cell = (⟨0, []⟩, r) := by
  unfold RD.cell
  rw [RD.within_bad h]
  simp [h]
theorem check_parts {c : C} (h : c.check = 0) : 0 ≤ c.k ∧ c.k ≤ 3 ∧ c.d.length ≤ 64 ∧ (c.k ≠ 1 → c.d = []) := by
  unfold C.check at h
  split at h; · cases h
  split at h; · cases h
  split at h; · cases h
  rename_i h1 h2 h3
  refine ⟨by omega, by omega, by omega, fun hk => ?_⟩
  cases hd : c.d with
  | nil => rfl
  | cons b l => exact absurd ⟨by rw [hd]; simp, hk⟩ h3
theorem check_mk {k : Int} {d : List UInt8} (h1 : 0 ≤ k) (h2 : k ≤ 3) (h3 : d.length ≤ 64) (h4 : k ≠ 1 → d = []) : (⟨k, d⟩ : C).check = 0 := by
  unfold C.check
  simp only
  rw [if_neg (by omega), if_neg (by omega), if_neg]
  rintro ⟨h5, h6⟩
  rw [h4 h6] at h5
  simp at h5
theorem RD.cell_put {c : C} (h : c.check = 0) (t : List UInt8) : RD.cell ⟨cellB c ++ t, 0⟩ = (c, ⟨t, 0⟩) := by
  obtain ⟨h1, h2, h3, h4⟩ := check_parts h
  obtain ⟨k, d⟩ := c
  simp only at h1 h2 h3 h4
  unfold RD.cell cellB
  simp only [List.append_assoc]
  rw [RD.within_put k.toNat 3 (by omega) (by omega)]
  simp only
  by_cases hk : k = 1
  · subst hk
    simp only [if_true, show Int.toNat 1 = 1 from rfl]
    rw [RD.text_put d 64 h3 (by omega)]
    simp
  · have hk' : ¬ k.toNat = 1 := by omega
    rw [h4 hk]
    simp only [if_neg hk', if_neg hk, List.nil_append, ne_eq, not_true_eq_false, if_false]
    rw [show ((k.toNat : Nat) : Int) = k by omega]
theorem RD.cell_ok {r : RD} (h : r.cell.2.bad = 0) : r.bad = 0 ∧ r.rest = cellB r.cell.1 ++ r.cell.2.rest ∧ r.cell.1.check = 0 := by
  unfold RD.cell at h ⊢
  generalize hw : r.within 3 = p at h ⊢
  obtain ⟨k, s⟩ := p
  simp only at h ⊢
  generalize hx : (if k = 1 then s.text 64 else ([], s)) = x at h ⊢
  obtain ⟨d, s2⟩ := x
  simp only at h ⊢
  by_cases hb : s2.bad = 0
  · rw [if_neg (by simpa using hb)]
    simp only
    by_cases hk : k = 1
    · rw [if_pos hk] at hx
      have h2 := RD.text_ok (r := s) (most := 64) (by rw [hx]; exact hb)
      rw [hx] at h2
      have h1 := RD.within_ok (r := r) (most := 3) (by rw [hw]; exact h2.1)
      rw [hw] at h1
      simp only at h1 h2
      subst hk
      refine ⟨h1.1, ?_, check_mk (by decide) (by decide) h2.2.2 (fun h => absurd rfl h)⟩
      unfold cellB
      simp only [if_true, show (((1 : Nat) : Int)) = 1 from rfl, show Int.toNat 1 = 1 from rfl]
      rw [h1.2.1, h2.2.1, List.append_assoc]
    · rw [if_neg hk] at hx
      simp only [Prod.mk.injEq] at hx
      obtain ⟨rfl, rfl⟩ := hx
      have h1 := RD.within_ok (r := r) (most := 3) (by rw [hw]; exact hb)
      rw [hw] at h1
      simp only at h1
      refine ⟨h1.1, ?_, check_mk (by omega) (by omega) (by simp) (fun _ => rfl)⟩
      unfold cellB
      simp only
      rw [if_neg (by omega), List.append_nil, h1.2.1, Int.toNat_natCast]
  · rw [if_pos hb] at h
    exact absurd h hb
def RightL (f : Int) (L : List (Int × C)) : Prop := (∀ p ∈ L, f ≤ p.1 ∧ p.1 < 1048576 ∧ p.2.check = 0) ∧ Rise L
theorem RightL.tail {f : Int} {p : Int × C} {L : List (Int × C)} (h : RightL f (p :: L)) : RightL (p.1 + 1) L := by
  obtain ⟨h1, h2⟩ := h
  obtain ⟨h3, h4⟩ := List.pairwise_cons.1 h2
  exact ⟨fun q hq => ⟨by have := h3 q hq; omega, (h1 q (List.mem_cons_of_mem _ hq)).2⟩, h4⟩
theorem RD.ents_put : ∀ (L : List (Int × C)) (f : Int) (acc : List (Int × C)) (t : List UInt8), 0 ≤ f → RightL f L → RD.ents L.length f ⟨entsB f L ++ t, 0⟩ acc = (acc ++ L, ⟨t, 0⟩)
  | [], f, acc, t, h0, h => by simp [RD.ents, entsB]
  | p :: L, f, acc, t, h0, h => by
    obtain ⟨h1, h2, h3⟩ := h.1 p List.mem_cons_self
    simp only [List.length_cons, entsB, List.append_assoc]
    unfold RD.ents
    have hn : RD.num ⟨vb (p.1 - f).toNat ++ (cellB p.2 ++ (entsB (p.1 + 1) L ++ t)), 0⟩ = ((p.1 - f).toNat, ⟨cellB p.2 ++ (entsB (p.1 + 1) L ++ t), 0⟩) := RD.num_put _ (by omega) _
    have hb : RD.by1 ⟨vb (p.1 - f).toNat ++ (cellB p.2 ++ (entsB (p.1 + 1) L ++ t)), 0⟩ f = ⟨cellB p.2 ++ (entsB (p.1 + 1) L ++ t), 0⟩ := by
      unfold RD.by1
      rw [hn]
      simp only
      rw [if_neg (by omega)]
    rw [hb, hn, RD.cell_put h3]
    simp only [ne_eq, not_true_eq_false, if_false]
    rw [show f + ((p.1 - f).toNat : Nat) = p.1 by omega, RD.ents_put L (p.1 + 1) _ t (by omega) h.tail]
    simp
theorem RD.ents_ok : ∀ (n : Nat) (f : Int) (r : RD) (acc : List (Int × C)), 0 ≤ f → f ≤ 1048576 → (RD.ents n f r acc).2.bad = 0 →
    ∃ L, (RD.ents n f r acc).1 = acc ++ L ∧ L.length = n ∧ r.bad = 0 ∧ r.rest = entsB f L ++ (RD.ents n f r acc).2.rest ∧ RightL f L
  | 0, f, r, acc, h0, h1, h => ⟨[], by simp [RD.ents], rfl, h, by simp [RD.ents, entsB], ⟨by simp, List.Pairwise.nil⟩⟩
  | n + 1, f, r, acc, h0, h1, h => by
    unfold RD.ents at h ⊢
    by_cases hc : (r.by1 f).cell.2.bad = 0
    · rw [if_neg (by simpa using hc)] at h ⊢
      obtain ⟨g1, g2, g3⟩ := RD.cell_ok hc
      have hr : ¬ (1048576 - f).toNat ≤ r.num.1 := by
        intro hr
        unfold RD.by1 at g1
        rw [if_pos hr] at g1
        exact RD.fail_bad _ (by decide) g1
      have hb : r.by1 f = r.num.2 := by unfold RD.by1; rw [if_neg hr]
      rw [hb] at g1 g2 g3 h hc ⊢
      obtain ⟨k1, k2⟩ := RD.num_ok g1
      obtain ⟨L, e1, e2, e3, e4, e5⟩ := RD.ents_ok n (f + (r.num.1 : Nat) + 1) r.num.2.cell.2 (acc ++ [(f + (r.num.1 : Nat), r.num.2.cell.1)]) (by omega) (by omega) h
      refine ⟨(f + (r.num.1 : Nat), r.num.2.cell.1) :: L, by rw [e1]; simp, by simp [e2], k1, ?_, ?_⟩
      · rw [k2, g2, e4]
        simp only [entsB, List.append_assoc]
        rw [show (f + (r.num.1 : Nat) - f).toNat = r.num.1 by omega]
      · refine ⟨fun p hp => ?_, List.pairwise_cons.2 ⟨fun q hq => ?_, e5.2⟩⟩
        · rcases List.mem_cons.1 hp with rfl | hp
          · exact ⟨by show f ≤ f + _; omega, by show f + _ < _; omega, g3⟩
          · obtain ⟨a1, a2, a3⟩ := e5.1 p hp
            exact ⟨by omega, a2, a3⟩
        · have := (e5.1 q hq).1
          show f + ((r.num.1 : Nat) : Int) < q.1
          omega
    · rw [if_pos hc] at h
      exact absurd h hc
theorem rise_rises : ∀ {L : List (Int × C)}, Rise L → risesB L = true
  | [], _ => rfl
  | [_], _ => rfl
  | x :: y :: L, h => by
    obtain ⟨h1, h2⟩ := List.pairwise_cons.1 h
    simp only [risesB, Bool.and_eq_true, decide_eq_true_eq]
    exact ⟨h1 y List.mem_cons_self, rise_rises h2⟩
theorem firstBad_none : ∀ {L : List (Int × C)}, (∀ p ∈ L, p.2.check = 0) → firstBad L = 0
  | [], _ => rfl
  | p :: L, h => by
    unfold firstBad
    rw [if_neg (by simpa using h p List.mem_cons_self)]
    exact firstBad_none (fun q hq => h q (List.mem_cons_of_mem _ hq))
theorem of_right {e l : Int} {L : List (Int × C)} (h1 : 0 ≤ e) (h2 : e ≤ 1099511627776) (h3 : 0 ≤ l) (h4 : l ≤ 1048576) (hR : RightL l L) (hn : ¬ L.any noneE = true) : ofErr e l L = 0 := by
  unfold ofErr rightErr
  rw [if_neg (by omega), if_neg, firstBad_none (fun p hp => (hR.1 p hp).2.2)]
  · simp only [ne_eq, not_true_eq_false, if_false]
    rw [if_neg hn, if_pos (rise_rises hR.2)]
  · rw [List.any_eq_true]
    rintro ⟨p, hp, hx⟩
    obtain ⟨a1, a2, _⟩ := hR.1 p hp
    unfold outE at hx
    simp only [Bool.or_eq_true, decide_eq_true_eq] at hx
    omega
theorem right_of {e l : Int} {L : List (Int × C)} (h : ofErr e l L = 0) : 0 ≤ e ∧ e ≤ 1099511627776 ∧ 0 ≤ l ∧ l ≤ 1048576 ∧ RightL l L ∧ ¬ L.any noneE = true := by
  unfold ofErr at h
  split at h; · cases h
  rename_i h1
  split at h; · cases h
  rename_i h2
  unfold rightErr at h
  split at h
  · rename_i h3; exact absurd h h3
  rename_i h3
  split at h; · cases h
  rename_i h4
  split at h
  rotate_left
  · cases h
  rename_i h5
  refine ⟨by omega, by omega, by omega, by omega, ⟨fun p hp => ?_, risesB_rise h5⟩, h4⟩
  have : outE l p = false := by
    cases hq : outE l p with
    | false => rfl
    | true => exact absurd (List.any_eq_true.2 ⟨p, hp, hq⟩) h2
  unfold outE at this
  rw [Bool.or_eq_false_iff, decide_eq_false_iff_not, decide_eq_false_iff_not] at this
  exact ⟨by omega, by omega, firstBad_zero (by simpa using h3) p hp⟩
/-- what is put is taken as it was -/
theorem takeU_put {e l : Int} {L : List (Int × C)} (h : ofErr e l L = 0) (hn : L.length ≤ 65536) (hl : (unitB e l L).length ≤ 65536) : takeU (frameB (unitB e l L)) = (0, ⟨e, l, L⟩) := by
  obtain ⟨h1, h2, h3, h4, hR, hN⟩ := right_of h
  have hr : readU ⟨unitB e l L, 0⟩ = (⟨e, l, L⟩, ⟨[], 0⟩) := by
    unfold readU unitB
    rw [RD.within_put e.toNat _ (by omega) (by omega)]
    simp only
    rw [RD.within_put l.toNat _ (by omega) (by omega)]
    simp only
    rw [RD.num_put _ (by omega)]
    simp only
    rw [if_neg (by omega), show min L.length 65536 = L.length by omega]
    have hp := RD.ents_put L l [] [] h3 hR
    rw [List.append_nil] at hp
    rw [show ((l.toNat : Nat) : Int) = l by omega, show ((e.toNat : Nat) : Int) = e by omega, hp]
    rfl
  unfold takeU
  rw [fone_frame _ hl]
  simp only [ne_eq, not_true_eq_false, if_false]
  rw [hr]
  simp only [RD.fin, List.length_nil, Nat.lt_irrefl, and_false, if_false, ne_eq, not_true_eq_false]
  rw [if_neg hN]
/-- what is taken is right, and has just those bytes -/
theorem takeU_ok {b : List UInt8} {u : U} (h : takeU b = (0, u)) : ofErr u.e u.l u.cells = 0 ∧ frameB (unitB u.e u.l u.cells) = b ∧ (unitB u.e u.l u.cells).length ≤ 65536 ∧ u.cells.length ≤ 65536 := by
  unfold takeU at h
  split at h
  · rename_i h1; simp only [Prod.mk.injEq] at h; exact absurd h.1 h1
  rename_i h1
  have hf : fone b = (0, (fone b).2) := by have : (fone b).1 = 0 := by simpa using h1
                                           rw [← this]
  obtain ⟨g1, g2⟩ := fone_ok hf
  generalize (fone b).2 = t at *
  split at h
  · rename_i h2; simp only [Prod.mk.injEq] at h; exact absurd h.1 h2
  rename_i h2
  split at h
  · cases h
  rename_i h3
  simp only [Prod.mk.injEq, true_and] at h
  subst h
  obtain ⟨b1, b2⟩ := RD.fin_ok (by simpa using h2)
  unfold readU at b1 b2 h3 ⊢
  simp only at b1 b2 h3 ⊢
  generalize hw : RD.within ⟨t, 0⟩ 1099511627776 = e at *
  obtain ⟨ev, er⟩ := e
  simp only at b1 b2 h3 ⊢
  generalize hw2 : er.within 1048576 = l at *
  obtain ⟨lv, lr⟩ := l
  simp only at b1 b2 h3 ⊢
  have hlv : lv ≤ 1048576 := by
    have : (er.within 1048576).1 = lv := by rw [hw2]
    rw [← this]
    unfold RD.within
    split
    · simp
    · omega
  obtain ⟨L, e1, e2, e3, e4, e5⟩ := RD.ents_ok _ (lv : Nat) _ [] (by omega) (by omega) b1
  have hm : ¬ 65536 < lr.num.1 := by
    intro hm
    rw [if_pos hm] at e3
    exact RD.fail_bad _ (by decide) e3
  rw [if_neg hm] at e3 e4 e1 h3 b2 ⊢
  rw [show min lr.num.1 65536 = lr.num.1 by omega] at e1 e2 e4 h3 b2 ⊢
  rw [List.nil_append] at e1
  rw [e1] at h3 ⊢
  rw [b2, List.append_nil] at e4
  obtain ⟨k1, k2⟩ := RD.num_ok e3
  have k3 := RD.within_ok (r := er) (most := 1048576) (by rw [hw2]; exact k1)
  rw [hw2] at k3
  have k4 := RD.within_ok (r := ⟨t, 0⟩) (most := 1099511627776) (by rw [hw]; exact k3.1)
  rw [hw] at k4
  simp only at k3 k4
  have ht : unitB (ev : Nat) (lv : Nat) L = t := by
    unfold unitB
    rw [k4.2.1, k3.2.1, k2, e4, e2]
    simp
  refine ⟨of_right (by omega) (by have := k4.2.2; omega) (by omega) (by omega) e5 h3, by rw [ht]; exact g1, by rw [ht]; exact g2, by omega⟩
theorem entsB_len : ∀ (L : List (Int × C)) (f : Int), 0 ≤ f → RightL f L → (entsB f L).length ≤ 90 * L.length
  | [], _, _, _ => by simp [entsB]
  | p :: L, f, h0, h => by
    obtain ⟨h1, h2, h3⟩ := h.1 p List.mem_cons_self
    obtain ⟨c1, c2, c3, c4⟩ := check_parts h3
    have ih := entsB_len L (p.1 + 1) (by omega) h.tail
    have g1 := vb_len_le (n := (p.1 - f).toNat) (k := 3) (by decide) (by omega)
    have g2 := vb_len_le (n := p.2.k.toNat) (k := 1) (by decide) (by omega)
    have g3 := vb_len_le (n := p.2.d.length) (k := 1) (by decide) (by omega)
    simp only [entsB, cellB, List.length_append, List.length_cons]
    split
    · unfold headB; simp only [List.length_append]; omega
    · simp only [List.length_nil]; omega
end Go.Proofs.YtkhnbdbcaebdaaaGreatDoor

namespace Go.Proofs.YtkhnbdbcaebdaaaGreatDoor
open Go.RowKit
set_option linter.unusedSimpArgs false
set_option linter.unusedVariables false
set_option maxRecDepth 20000

end Go.Proofs.YtkhnbdbcaebdaaaGreatDoor

namespace Go.Proofs.YtkhnbdbcaebdaaaGreatDoor
open Go.RowKit
set_option linter.unusedSimpArgs false
set_option linter.unusedVariables false
set_option maxRecDepth 20000

theorem RList.below {w w' : World} {s : Value} {L : List (Int × C)} (h : RList w s L) {B : Nat} (hB : w.heap.size ≤ B) (hb : Below B w w') : RList w' s L := SlV.below h hB hb

end Go.Proofs.YtkhnbdbcaebdaaaGreatDoor

namespace Go.Proofs.YtkhnbdbcaebdaaaGreatDoor
open Go.RowKit
set_option linter.unusedSimpArgs false
set_option linter.unusedVariables false
set_option maxRecDepth 20000

/-- the boxed parameter at block N, the result's place at N + 1 -/
def Box2 (N : Nat) (e l : Int) (s : Value) (R : List Value) (w : World) : Prop :=
  w.cell? ⟨N, 0, none⟩ = some (.int .i64 e) ∧ w.cell? ⟨N, 1, none⟩ = some (.int .i64 l) ∧ w.cell? ⟨N, 2, none⟩ = some s ∧
  w.frozen? ⟨N, 0, none⟩ = false ∧ w.frozen? ⟨N, 1, none⟩ = false ∧ w.frozen? ⟨N, 2, none⟩ = false ∧
  (∀ j v, R[j]? = some v → w.cell? ⟨N + 1, j, none⟩ = some v) ∧ (∀ j, w.frozen? ⟨N + 1, j, none⟩ = false) ∧ N + 1 < w.heap.size
theorem Box2.below {N : Nat} {e l : Int} {s : Value} {R : List Value} {w w' : World} (h : Box2 N e l s R w) {B : Nat} (hB : w.heap.size ≤ B) (hb : Below B w w') : Box2 N e l s R w' := by
  obtain ⟨a, b, c, d, f, g, i, j, k⟩ := h
  obtain ⟨hc, hf⟩ := bcell hb
  exact ⟨(hc _ _ (by omega)).trans a, (hc _ _ (by omega)).trans b, (hc _ _ (by omega)).trans c, (hf _ _ (by omega)).trans d, (hf _ _ (by omega)).trans f, (hf _ _ (by omega)).trans g,
    fun x v hx => (hc _ _ (by omega)).trans (i x v hx), fun x => (hf _ _ (by omega)).trans (j x), Nat.lt_of_lt_of_le k hb.size⟩
theorem Box2.start (w : World) (e l : Int) (s : Value) (R : List Value) (t t' : Nat) : Box2 w.heap.size e l s R ((w.alloc (.cells #[.int .i64 e, .int .i64 l, s] t)).alloc (.cells R.toArray t')) := by
  have h1 : ((w.alloc (.cells #[.int .i64 e, .int .i64 l, s] t)).alloc (.cells R.toArray t')).heap[w.heap.size + 1]? = some (.cells R.toArray t' (0, 0)) := heap_alloc2_new w _ _
  have h0 : ((w.alloc (.cells #[.int .i64 e, .int .i64 l, s] t)).alloc (.cells R.toArray t')).heap[w.heap.size]? = some (.cells #[.int .i64 e, .int .i64 l, s] t (0, 0)) := heap_alloc2_old w _ _
  refine ⟨?_, ?_, ?_, ?_, ?_, ?_, fun j v hj => ?_, fun j => ?_, by simp⟩
  · rw [cell_of_row _ _ _ _ _ _ h0]; rfl
  · rw [cell_of_row _ _ _ _ _ _ h0]; rfl
  · rw [cell_of_row _ _ _ _ _ _ h0]; rfl
  · exact frozen_of_row _ _ _ _ _ h0
  · exact frozen_of_row _ _ _ _ _ h0
  · exact frozen_of_row _ _ _ _ _ h0
  · rw [cell_of_row _ _ _ _ _ _ h1]; simpa using hj
  · exact frozen_of_row _ _ _ _ _ h1

end Go.Proofs.YtkhnbdbcaebdaaaGreatDoor

namespace Go.Proofs.YtkhnbdbcaebdaaaGreatDoor
open Go.RowKit
set_option linter.unusedSimpArgs false
set_option linter.unusedVariables false
set_option maxRecDepth 20000

end Go.Proofs.YtkhnbdbcaebdaaaGreatDoor

namespace Go.Proofs.YtkhnbdbcaebdaaaGreatDoor
open Go.RowKit
set_option linter.unusedSimpArgs false
set_option linter.unusedVariables false
set_option maxRecDepth 20000

end Go.Proofs.YtkhnbdbcaebdaaaGreatDoor
