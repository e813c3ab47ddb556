import Derived.Test.YtkljeefncopodaaGreatRefU
import Derived.Test.YtkljeefncopodaaGreatKeysL
namespace Go.Proofs
open Go.RowKit Go.Maps Go.Sort Go.Shelf


/-- slices.Sort's two contracts at this dump, at the fence that asks nothing. -/
theorem Tryz.sortsA (m : Nat) : AnyZI.SortsIn Tryz.prog Tryz.sortedA_ren Fence.wide m :=
  ⟨fun blk off cap ss W hH hblk hsz => callsIn_wide.2 (AnyM.slices_Sort_int Tryz.sortA blk off cap ss W hH hblk hsz),
   fun p cap W => callsIn_wide.2 (AnyM.slices_Sort_int_none Tryz.sortA p cap W)⟩
end Go.Proofs

namespace Go.Proofs.YtkljeefncopodaaGreat
open Go.RowKit Go.Maps Go.Sort Go.Shelf
set_option linter.unusedSimpArgs false
set_option linter.unusedVariables false
set_option maxRecDepth 20000

def trivR (_ : Value) : Option (DataW Unit × List MemPlace) := some (.lit (.bool true), [])

theorem own_of_map {w : World} {b : Nat} {L : List (Int × Value)} (h : MapAt w b L) (hw : ∀ p ∈ L, (Lit.int .i64 p.1).wf = true) (hlen : L.length ≤ maxLen) :
    ∃ D0 : DataW Unit, w.ownsMap Tryz.prog 3 trivR b L.length D0 ∧ (intKeys D0).Perm (L.map (·.1)) := by
  obtain ⟨es, clock, hb, hs⟩ := h
  have hkeys : es.toList.map (·.key) = L.map (fun p => Value.int .i64 p.1) := by
    have := congrArg (List.map Prod.fst) hs.eq
    simpa [List.map_map, kv, vk, Function.comp_def] using this
  have hsz : es.size = L.length := by have := congrArg List.length hs.eq; simpa using this
  have hin : ∀ x ∈ es.toList, ∃ p ∈ L, x.key = .int .i64 p.1 := by
    intro x hx
    have : x.key ∈ es.toList.map (·.key) := List.mem_map_of_mem hx
    rw [hkeys] at this
    obtain ⟨p, hp, he⟩ := List.mem_map.1 this
    exact ⟨p, hp, he.symm⟩
  have hrd : ∀ x ∈ es.toList, ∃ a, x.key = .int .i64 a ∧ Go.WideElems.rd Tryz.prog 3 trivR x = some (.int .i64 a, .lit (.bool true)) := by
    intro x hx
    obtain ⟨p, hp, he⟩ := hin x hx
    refine ⟨p.1, he, ?_⟩
    unfold Go.WideElems.rd
    rw [he, Maps.keyOf_int_mk Tryz.underlying3 (hw p hp)]
    rfl
  have hst : Go.MapKept.Stamped es clock := by
    refine ⟨hs.old, ?_, ?_⟩
    · exact List.pairwise_map.2 (hs.rise.imp (fun h => Nat.ne_of_lt h))
    · rw [hkeys]
      refine List.pairwise_map.2 ((List.pairwise_map.1 hs.nodup).imp (fun h e => h (by simpa using e)))
  refine ⟨.map ((es.toList.map (Go.WideElems.rg Tryz.prog 3 trivR)).foldr DataW.insert []), ⟨es, clock, hb, ⟨by omega, hst, fun x hx => ?_⟩, by omega, rfl⟩, ?_⟩
  · obtain ⟨a, _, h⟩ := hrd x hx; exact ⟨_, h⟩
  · show (List.map (fun p : Lit × DataW Unit => Go.intOf p.1) _).Perm _
    refine ((WideShapes.sorted_perm _).map _).trans ?_
    rw [List.map_map]
    have : es.toList.map ((fun p : Lit × DataW Unit => Go.intOf p.1) ∘ Go.WideElems.rg Tryz.prog 3 trivR) = L.map (·.1) := by
      have h1 : es.toList.map ((fun p : Lit × DataW Unit => Go.intOf p.1) ∘ Go.WideElems.rg Tryz.prog 3 trivR) = (es.toList.map (·.key)).map (fun v => match v with | .int _ a => a | _ => 0) := by
        rw [List.map_map]
        refine List.map_congr_left fun x hx => ?_
        obtain ⟨a, ha, h⟩ := hrd x hx
        simp [Go.WideElems.rg, h, ha, Go.intOf]
      rw [h1, hkeys, List.map_map]; simp [Function.comp_def]
    rw [this]

def kfun (W : World) : Value := .func (.func 154) #[] #[.pointer (some ⟨W.heap.size, 0, none⟩)]
def kmap (W : World) (mb : Option Nat) : World := W.alloc (.cells #[.map mb] 137)
def sortK (L : List (Int × Value)) : List Int := (L.map (·.1)).mergeSort (fun x y => decide (x ≤ y))

theorem keys_any (mb : Option Nat) (W : World) : Calls Tryz.prog 121 #[.map mb] W fun e w' => e = .returned (kfun W) ∧ w' = kmap W mb :=
  (callsIn_wide (n := 5)).1 (AnyZI.keys_in Tryz.keysA Fence.wide 5 trivial rfl mb W)

theorem sorted_any (b : Nat) (L : List (Int × Value)) (w : World) (h : MapAt w b L) (hw : ∀ p ∈ L, (Lit.int .i64 p.1).wf = true) (hlen : L.length ≤ 1048576) :
    Calls Tryz.prog 120 #[kfun w] (kmap w (some b)) fun e w' => ∃ v : Value, e = .returned v ∧ w'.ownsRow (w.heap.size + 1) 3 1 v L.length ((sortK L).map encZ) ∧ (v = .slice none 0 0 ↔ L = []) ∧ Below (w.heap.size + 1) (kmap w (some b)) w' := by
  obtain ⟨D0, hown, hperm⟩ := own_of_map h hw (by unfold maxLen; omega)
  have hlenD : Maps.size D0 = L.length := by
    have := hperm.length_eq
    obtain ⟨es, clock, hb, Ft, hs, rfl⟩ := hown
    simpa [intKeys, Maps.size] using this
  have hbl := hown.lt
  have hseq : SeqGives Fence.wide 2 Tryz.prog 154 #[.pointer (some ⟨w.heap.size, 0, none⟩)] encZ (fun ss => ss.Perm (intKeys D0)) (Maps.size D0) (w.alloc (.cells #[.map (some b)] 137)) :=
    AnyZI.keys_gives (ρ := Tryz.keysA_ren) { Tryz.keysA with } Fence.wide _ trivial rfl (by omega) w.heap.size b L.length D0 _ (by simp) (by simp) (by
      obtain ⟨es, clock, hb, Ft, hs, hD⟩ := hown
      exact ⟨es, clock, (Below.heap_alloc _ _ b hbl).trans hb, Ft, hs, hD⟩)
  have cS := AnyZI.sorted_in Tryz.sortedA Fence.wide 5 trivial trivial trivial trivial rfl (by omega) (Tryz.sortsA _) (enters_of Tryz.func148 (by kernel_rfl) rfl) 154 #[.pointer (some ⟨w.heap.size, 0, none⟩)] trivial (enters_of Tryz.func154 (by kernel_rfl) rfl) _ _ (by rw [hlenD]; unfold maxLen; omega) (by rw [hlenD]; omega) _ hseq
  change CallsIn _ _ Tryz.prog 120 _ _ _ at cS
  refine ((callsIn_wide (n := 5)).1 cS).mono ?_
  rintro e w' ⟨v, ss, rfl, hS, hrow, hnil, hb⟩
  have hp := hS.trans hperm
  have hl : ss.length = L.length := by simpa using hp.length_eq
  have hz : (w.alloc (.cells #[.map (some b)] 137)).heap.size = w.heap.size + 1 := by simp
  refine ⟨v, rfl, ?_, ?_, ?_⟩
  · have := hrow
    rw [show ss.mergeSort _ = sortK L from mergeSort_of_perm_i hp, hl] at this
    first | exact this | (rw [hz] at this; exact this)
  · rw [hnil]
    constructor
    · rintro rfl; exact List.length_eq_zero_iff.1 hl.symm
    · rintro rfl; exact List.length_eq_zero_iff.1 hl
  · have := hb; rw [hz] at this; exact this

end Go.Proofs.YtkljeefncopodaaGreat
