/- 'append(out, x)' as one step of a region that draws its order. No condition on the program. -/
import Derived.Test.YtkljeefncopodaaGreatRep
import Derived.Test.YtkljeefncopodaaGreatBox
import Derived.Deep.AppendLies
import Derived.Deep.RegionHeldLaw
namespace Go.Proofs.YtkljeefncopodaaGreat
open Go.RowKit
set_option linter.unusedSimpArgs false
set_option linter.unusedVariables false
set_option maxRecDepth 20000

/-- 'append(out, x)' as one step of a region that draws its order -/
theorem step_one {P : Program} {t e size bytes : Nat} (T : ElemT P t e size bytes) {w : World} {ops : Array Oper} {o : Oper} {a : Act} {K : Act → World → Prop} {Q : Exit → Act → World → Prop} {Z : Prop} (hgd : o.guard = none) (s x : Operand)
    (ho : o.op = .call { callee := .builtin .append, args := #[s, x], argTypes := #[t, t] })
    (cs : List Value) (hx : a.eval x = .slice (some ⟨w.heap.size, 0, none⟩) 1 1) (base n : Nat) (xs : List Value) (v : Value) (hs : a.eval s = v) (hown : w.ownsRow base e size v n xs)
    (hl : cs.length = size) (h1 : ∀ u ∈ cs, u.oneCell' = true)
    (hbytes : (n + 1) * bytes ≤ 140737488355328) (hbase : base ≤ w.heap.size)
    (h : ∀ a' c' w', w'.ownsRow base e size (.slice a' (n + 1) c') (n + 1) (xs ++ cs) → Fr (fun k => v.ownBlock = some k) w w' → K (a.put o.dst (.slice a' (n + 1) c')) w') :
    if Region.wanted o (yielded ops a.tmps) = true then Oper.wp P o a (w.alloc (.cells cs.toArray e)) K Q else Z := by
  obtain ⟨i, z, a1, a2, a3, a4, a5⟩ := T.info
  have hpos := T.posb
  have hml : n + 1 ≤ maxLen := by
    have : (n + 1) * 1 ≤ (n + 1) * bytes := Nat.mul_le_mul_left _ hpos
    unfold maxLen; omega
  have hne : ∀ {u u' : World} {row : Option Nat}, u.grownBy u' row → Fr (fun k => row = some k) u u' := fun hg => ⟨hg.os, hg.tape, hg.output, hg.size, fun k hk hn => hg.block k hk (fun e => hn e.symm)⟩
  obtain ⟨_, _, he, _, _, _, k3⟩ := SlV.new w cs 1 e (by unfold maxLen; omega)
  cases he
  refine step_append_lies _ hgd s x t ho base e i z size bytes T.under a1 a2 a3 a4 a5 T.pos v n xs hs (hown.alloc _) _ 1 1 cs hx (by omega) (fun j u hu => by obtain ⟨p, hp, hc⟩ := k3 j u hu; cases hp; exact hc) h1 (by omega) hml hbytes (by simp; omega) _ rfl ?_
  intro g cap w' r1 r2 _ _
  exact h _ _ w' r1 ((Fr.of_below (F := fun k => v.ownBlock = some k) ((Below.refl w.heap.size w).alloc (Nat.le_refl _) _)).trans (hne r2) (fun i hi => .inl hi))

/-- .. and where it lies -/
theorem step_one2 {P : Program} {t e size bytes : Nat} (T : ElemT P t e size bytes) {w : World} {ops : Array Oper} {o : Oper} {a : Act} {K : Act → World → Prop} {Q : Exit → Act → World → Prop} {Z : Prop} (hgd : o.guard = none) (s x : Operand)
    (ho : o.op = .call { callee := .builtin .append, args := #[s, x], argTypes := #[t, t] })
    (cs : List Value) (hx : a.eval x = .slice (some ⟨w.heap.size, 0, none⟩) 1 1) (base n : Nat) (xs : List Value) (v : Value) (hs : a.eval s = v) (hown : w.ownsRow base e size v n xs)
    (hl : cs.length = size) (h1 : ∀ u ∈ cs, u.oneCell' = true)
    (hbytes : (n + 1) * bytes ≤ 140737488355328) (hbase : base ≤ w.heap.size)
    (h : ∀ a' c' w', w'.ownsRow base e size (.slice a' (n + 1) c') (n + 1) (xs ++ cs) → Fr (fun k => v.ownBlock = some k) w w' → (∀ b, (Value.slice a' (n + 1) c').ownBlock = some b → v.ownBlock = some b ∨ w.heap.size ≤ b) → K (a.put o.dst (.slice a' (n + 1) c')) w') :
    if Region.wanted o (yielded ops a.tmps) = true then Oper.wp P o a (w.alloc (.cells cs.toArray e)) K Q else Z := by
  obtain ⟨i, z, a1, a2, a3, a4, a5⟩ := T.info
  have hpos := T.posb
  have hml : n + 1 ≤ maxLen := by
    have : (n + 1) * 1 ≤ (n + 1) * bytes := Nat.mul_le_mul_left _ hpos
    unfold maxLen; omega
  have hne : ∀ {u u' : World} {row : Option Nat}, u.grownBy u' row → Fr (fun k => row = some k) u u' := fun hg => ⟨hg.os, hg.tape, hg.output, hg.size, fun k hk hn => hg.block k hk (fun e => hn e.symm)⟩
  obtain ⟨_, _, he, _, _, _, k3⟩ := SlV.new w cs 1 e (by unfold maxLen; omega)
  cases he
  refine step_append_lies _ hgd s x t ho base e i z size bytes T.under a1 a2 a3 a4 a5 T.pos v n xs hs (hown.alloc _) _ 1 1 cs hx (by omega) (fun j u hu => by obtain ⟨p, hp, hc⟩ := k3 j u hu; cases hp; exact hc) h1 (by omega) hml hbytes (by simp; omega) _ rfl ?_
  intro g cap w' r1 r2 r3 _
  exact h _ _ w' r1 ((Fr.of_below (F := fun k => v.ownBlock = some k) ((Below.refl w.heap.size w).alloc (Nat.le_refl _) _)).trans (hne r2) (fun i hi => .inl hi)) (fun b hb => by
    simp only [Value.ownBlock, Option.some.injEq] at hb
    subst hb
    rcases r3 with r3 | r3
    · exact .inl r3
    · right; rw [r3]; simp)

theorem own_new {w : World} {B e size n : Nat} {v : Value} {xs : List Value} (h : w.ownsRow B e size v n xs) : ¬ v.ownBlock = some w.heap.size := by
  obtain ⟨_, h⟩ := h
  rcases h with ⟨rfl, rfl⟩ | ⟨g, cap, cur, rfl, hg, hh, _⟩
  · simp [Value.ownBlock]
  · have := (Array.getElem?_eq_some_iff.1 hh).1
    simp [Value.ownBlock]; omega

theorem own_not_box {w : World} {B e size n M t : Nat} {v : Value} {xs R : List Value} (h : w.ownsRow B e size v n xs) (hx : w.heap[M]? = some (.cells R.toArray t (0, 0))) (hte : t ≠ e) : ¬ v.ownBlock = some M := by
  obtain ⟨_, h⟩ := h
  rcases h with ⟨rfl, rfl⟩ | ⟨g, cap, cur, rfl, hg, hh, _⟩
  · simp [Value.ownBlock]
  · intro hk
    simp only [Value.ownBlock, Option.some.injEq] at hk
    subst hk
    rw [hh] at hx
    simp at hx
    exact hte hx.2.symm
theorem BoxW.set {N t : Nat} {R : List Value} {w : World} (h : BoxW N R t w) (i : Nat) (v : Value) : BoxW N (R.set i v) t (w.setCell ⟨N, i, none⟩ v) := by
  have := heap_setCell_same w N i _ t v h
  unfold BoxW
  rw [this]; simp
theorem BoxW.drew {N t : Nat} {R : List Value} {w : World} (h : BoxW N R t w) : BoxW N R t w.drew := h
end Go.Proofs.YtkljeefncopodaaGreat
