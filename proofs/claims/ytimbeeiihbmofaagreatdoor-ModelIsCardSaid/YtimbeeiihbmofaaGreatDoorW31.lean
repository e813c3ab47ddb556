/- Proved here: a part of the proof (31 of 37). -/
import Derived.Test.YtimbeeiihbmofaaGreatDoorW11
import Derived.Test.YtimbeeiihbmofaaGreatDoorCollL
set_option linter.unusedSimpArgs false
set_option linter.unusedVariables false
set_option maxRecDepth 20000
namespace Go.Proofs.YtimbeeiihbmofaaGreatDoor
open Go.RowKit Go.Maps Go.Sort Go.Shelf

/-- maps.Keys: a function over a cell of its own -/
theorem keysC_any (mb:Option Nat) (W:World):Calls Tryz.prog 49 #[.map mb] W fun e w'=>∃ k,e=.returned (.func (.func 95) #[] #[.pointer (some ⟨k,0,none⟩)])∧w'.cell? ⟨k,0,none⟩=some (.map mb)∧k<w'.heap.size∧Below W.heap.size W w':=by
 refine (keys_any mb W).mono ?_
 rintro e w' ⟨rfl,rfl⟩
 exact ⟨W.heap.size,rfl,by simp [kmap,go_sem],by simp [kmap],by unfold kmap;go_grown⟩
theorem collect_any (Bm b:Nat) (L:List (Int×Value)) (w:World) (h:MapAt w b L) (hw:∀ p∈L,(Lit.int .i64 p.1).wf=true) (hlen:L.length≤1048576) (hc:w.cell? ⟨Bm,0,none⟩=some (.map (some b))) (hB:Bm<w.heap.size) :
  Calls Tryz.prog 48 #[.func (.func 95) #[] #[.pointer (some ⟨Bm,0,none⟩)]] w fun e w'=>∃ (a:Option Addr) (c:Nat) (ss:List Int),e=.returned (.slice a ss.length c)∧ss.Perm (L.map (·.1))∧w'.ownsRow w.heap.size 3 1 (.slice a ss.length c) ss.length (ss.map encZ)∧Below w.heap.size w w':=by
 obtain ⟨D0,hown,hperm⟩:=own_of_map h hw (by unfold maxLen;omega)
 have hlenD:Maps.size D0=L.length:=by
  have:=hperm.length_eq
  obtain ⟨es,clock,hb,Ft,hs,rfl⟩:=hown
  simpa [intKeys,Maps.size] using this
 have hseq:SeqGives Fence.wide 3 Tryz.prog 95 #[.pointer (some ⟨Bm,0,none⟩)] encZ (fun ss=>ss.Perm (intKeys D0)) (Maps.size D0) w :=
  AnyZI.keys_gives (ρ:=Tryz.keysA_ren) { Tryz.keysA with } Fence.wide _ trivial rfl (by omega) Bm b L.length D0 _ hB hc hown
 have cS:=AnyZI.collect_in Tryz.collectA Fence.wide 5 trivial trivial rfl (by omega) 95 #[.pointer (some ⟨Bm,0,none⟩)] trivial (enters_of Tryz.func95 (by kernel_rfl) rfl) _ _ (by rw [hlenD];unfold maxLen;omega) (by rw [hlenD];omega) _ hseq
 change CallsIn _ _ Tryz.prog 48 _ _ _ at cS
 refine ((callsIn_wide (n:=5)).1 cS).mono ?_
 rintro e w' ⟨v,ss,rfl,hS,hrow,hnil,hb⟩
 obtain ⟨a,c,rfl⟩:=own_shape hrow
 exact ⟨a,c,ss,rfl,hS.trans hperm,hrow,hb⟩
end Go.Proofs.YtimbeeiihbmofaaGreatDoor
