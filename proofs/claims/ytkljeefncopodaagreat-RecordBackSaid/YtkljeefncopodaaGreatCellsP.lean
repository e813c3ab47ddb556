/- Layer 8 (unit): a map of cells is written. -/
import Derived.Test.YtkljeefncopodaaGreatUnitE
namespace Go.Proofs.YtkljeefncopodaaGreat
open Go.RowKit
set_option linter.unusedSimpArgs false
set_option linter.unusedVariables false
set_option maxRecDepth 20000

theorem CellsAt.put {A F : Nat → Prop} {w w2 w3 : World} {bm : Nat} {M : List (Int × C)} (hA : ∀ k, A k → k < w.heap.size) {L : List (Int × Value)} {a : Int} {c : C} {ad : Option Addr} {cap : Nat}
    (hL : F2 (EntIs A w2) L M) (hm3 : MapAt w3 bm (putE L a (.agg #[.int .i64 c.k, .slice ad c.d.length cap]))) (hf3 : Fr F w2 w3) (hF : ∀ k, F k → A k) (hv : Bytes w2 (.slice ad c.d.length cap) c.d) (hin : ∀ x, ad = some x → w.heap.size ≤ x.block ∧ x.block < w2.heap.size) :
    CellsAt A w3 bm (putC M a c) := by
  refine ⟨_, hm3, F2.put (hL.mono fun p q _ _ hpq => hpq.fr hf3 hF) ⟨rfl, ad, cap, rfl, ?_, ?_⟩⟩
  · refine SlV.fr hv hf3 ?_
    intro x n c' hx
    simp only [Value.slice.injEq] at hx
    have h5 := (hin x hx.1).1
    intro hk
    have := hA _ (hF _ hk); omega
  · intro x hx
    have h5 := hin x hx
    exact ⟨fun hk => by have := hA _ hk; omega, Nat.lt_of_lt_of_le h5.2 hf3.size⟩

end Go.Proofs.YtkljeefncopodaaGreat
