/- Projections, and lists of numbers, read as data. -/
import Derived.Test.YtaodldbgikiekaaGreatDoorOpen0
import Derived.Test.YtaodldbgikiekaaGreatDoorW23
set_option linter.unusedSimpArgs false
set_option linter.unusedVariables false
namespace Go.Proofs.YtaodldbgikiekaaGreatDoor
open Go.ChangeShapes Go.WideShapes Go.ChangeAt Go.RowKit

theorem Tryz.cellsIntsJ:Tryz.prog.cellsOf 30=1:=by kernel_rfl
theorem Tryz.cellsRowsJ:Tryz.prog.cellsOf 55=1:=by kernel_rfl
theorem Tryz.cellsProjJ:Tryz.prog.cellsOf 74=2:=by kernel_rfl
theorem flat_one {α:Type} (f:α→Value):∀ X:List α,X.flatMap (fun x=>[f x])=X.map f
 | []=>rfl
 | x::X=>by rw [List.flatMap_cons,flat_one f X];rfl
theorem rd_ints {H:Type} {enc:TypeId×Value→H} {w:World} {cs:List Value} (h:Rd enc Tryz.prog w 30 cs):∃ x:Ch,cs=[chV x]∧Zs w (chV x) x.1∧∀ z∈x.1,(Lit.int .i64 z).wf=true:=by
 obtain ⟨a,c,l,e,hs,hp⟩:=Rd.rows (f:=fun n:Int=>[.int .i64 n]) (p:=fun n=>(Lit.int .i64 n).wf=true) Tryz.underlying30 (by rw [Tryz.cellsInt];decide) h (fun r hl hr=>by obtain ⟨b,hb,hw⟩:=Rd.int (k:=.i64) Tryz.underlying3 hr;exact ⟨b,hb,hw⟩)
 refine ⟨(l,a,c),e,?_,hp⟩
 unfold Zs zVs chV
 rw [←flat_one (fun n:Int=>Value.int .i64 n) l];exact hs
theorem rd_proj {H:Type} {enc:TypeId×Value→H} {w:World} {cs:Array Value} (hl:cs.size=2) (h:Rd enc Tryz.prog w 74 cs.toList) :
  ∃ (e:Int) (a:Option Addr) (c:Nat) (X:List Ch),cs=#[.int .i64 e,.slice a X.length c]∧Chs w a c X∧(Lit.int .i64 e).wf=true:=by
 obtain ⟨c0,c1,rfl⟩:∃ c0 c1,cs=#[c0,c1]:=by
  match cs,hl with
  | ⟨[c0,c1]⟩,_=>exact ⟨_,_,rfl⟩
 obtain ⟨_,hf⟩:=Rd.struct Tryz.underlying74 h
 obtain ⟨e,e0,hw⟩:=Rd.int (k:=.i64) Tryz.underlying3 (by simpa [Tryz.cellsInt] using hf 0 _ rfl)
 obtain ⟨a,c,X,e1,hs,hp⟩:=Rd.rows (f:=fun x:Ch=>[chV x]) (p:=fun x=>Zs w (chV x) x.1) Tryz.underlying55 (by rw [Tryz.cellsIntsJ];decide) (show Rd enc Tryz.prog w 55 [c1] by simpa [Tryz.cellsInt,Tryz.cellsRowsJ] using hf 1 _ rfl) (fun r hl hr=>by obtain ⟨x,hx,hz,_⟩:=rd_ints hr;exact ⟨x,hx,hz⟩)
 simp only [List.cons.injEq,and_true] at e0 e1
 subst e0 e1
 exact ⟨e,a,c,X,rfl,⟨by rw [←flat_one];exact hs,hp⟩,hw⟩
end Go.Proofs.YtaodldbgikiekaaGreatDoor
