/- Lists of numbers and of bools, read as data; a slice lies in a block that is there. -/
import Derived.Test.YtaodldbgikiekaaGreatDoorOpenK
set_option linter.unusedSimpArgs false
set_option linter.unusedVariables false
namespace Go.Proofs.YtaodldbgikiekaaGreatDoor
open Go.ChangeShapes Go.WideShapes Go.ChangeAt Go.RowKit

theorem flatK {α:Type} (f:α→Value):∀ X:List α,X.flatMap (fun x=>[f x])=X.map f
 | []=>rfl
 | x::X=>by rw [List.flatMap_cons,flatK f X];rfl
theorem Tryz.cellsBoolK:Tryz.prog.cellsOf 4=1:=by kernel_rfl
theorem rd_intsK {H:Type} {enc:TypeId×Value→H} {w:World} {a:Option Addr} {n c:Nat} (h:Rd enc Tryz.prog w 30 [.slice a n c]):∃ B:List Int,n=B.length∧SlV w (.slice a B.length c) B.length (B.map (Value.int .i64))∧∀ x∈B,-9223372036854775808≤x∧x<9223372036854775808:=by
 obtain ⟨a',c',l,e,hs,hp⟩:=Rd.rows (f:=fun n:Int=>[.int .i64 n]) (p:=fun n=>(Lit.int .i64 n).wf=true) Tryz.underlying30 (by rw [Tryz.cellsInt];decide) h (fun r hl hr=>by obtain ⟨b,hb,hw⟩:=Rd.int (k:=.i64) Tryz.underlying3 hr;exact ⟨b,hb,hw⟩)
 simp only [List.cons.injEq,and_true,Value.slice.injEq] at e
 obtain ⟨rfl,rfl,rfl⟩:=e
 refine ⟨l,rfl,?_,fun x hx=>?_⟩
 ·rw [←flatK (fun n:Int=>Value.int .i64 n) l];exact hs
 ·have h1:=hp x hx
  simp only [Lit.wf,Bool.and_eq_true,decide_eq_true_eq] at h1
  have h2:IntKind.i64.min≤x∧x≤IntKind.i64.max:=by first | exact h1 | simpa using h1
  have e1:IntKind.i64.min=-9223372036854775808:=by decide
  have e2:IntKind.i64.max=9223372036854775807:=by decide
  omega
theorem rd_boolsK {H:Type} {enc:TypeId×Value→H} {w:World} {a:Option Addr} {n c:Nat} (h:Rd enc Tryz.prog w 29 [.slice a n c]):∃ B:List Bool,n=B.length∧SlV w (.slice a B.length c) B.length (DK.bools B):=by
 obtain ⟨a',c',l,e,hs,hp⟩:=Rd.rows (f:=fun n:Bool=>[.bool n]) (p:=fun _=>True) Tryz.underlying29 (by rw [Tryz.cellsBoolK];decide) h (fun r hl hr=>by obtain ⟨b,hb⟩:=Rd.bool Tryz.underlying4 hr;exact ⟨b,hb,trivial⟩)
 simp only [List.cons.injEq,and_true,Value.slice.injEq] at e
 obtain ⟨rfl,rfl,rfl⟩:=e
 refine ⟨l,rfl,?_⟩
 show SlV w _ _ (l.map Value.bool)
 rw [←flatK (fun n:Bool=>Value.bool n) l];exact hs
theorem slin_wide {P:Program} {w:World} {r:Reach} {base:Nat} {t e:TypeId} {a:Option Addr} {n c:Nat} (ht:P.underlying t=some (.slice e)) (h:Value.okWide P w r base t (.slice a n c)):SlIn (fun k=>k<w.heap.size) (.slice a n c):=by
 intro p n' c' hv
 simp only [Value.slice.injEq] at hv
 obtain ⟨rfl,rfl,rfl⟩:=hv
 simp only [Value.okWide,ht,Cell.okWide,Cell.ok] at h
 obtain ⟨_,_,_,_,row,cells,hs,_⟩:=h
 unfold World.shape? at hs
 show p.block<w.heap.size
 refine Nat.lt_of_not_le fun hle=>?_
 have:w.heap[p.block]?=none:=Array.getElem?_eq_none hle
 simp [this] at hs
end Go.Proofs.YtaodldbgikiekaaGreatDoor
