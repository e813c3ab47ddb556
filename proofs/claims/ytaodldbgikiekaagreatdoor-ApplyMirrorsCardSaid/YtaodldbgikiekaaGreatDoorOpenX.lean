/- Picks of law 26, read as data. -/
import Derived.Test.YtaodldbgikiekaaGreatDoorOpenT
import Derived.Test.YtaodldbgikiekaaGreatDoorW35
set_option linter.unusedSimpArgs false
set_option linter.unusedVariables false
set_option maxRecDepth 100000
namespace Go.Proofs.YtaodldbgikiekaaGreatDoor
open Go.ChangeShapes Go.WideShapes Go.ChangeAt Go.RowKit
theorem Tryz.cellsPick:Tryz.prog.cellsOf 36=11:=by kernel_rfl
theorem Tryz.cellsAct24:Tryz.prog.cellsOf 34=3:=by kernel_rfl
theorem rd_pick {H:Type} {enc:TypeId×Value→H} {w:World} {r:List Value} (hl:r.length=11) (h:Rd enc Tryz.prog w 36 r):∃ x:SL.PkA,r=SL.pkV x∧SL.A13At w x.x:=by
 obtain ⟨c0,c1,c2,c3,c4,c5,c6,c7,c8,c9,c10,rfl⟩:∃ c0 c1 c2 c3 c4 c5 c6 c7 c8 c9 c10,r=[c0,c1,c2,c3,c4,c5,c6,c7,c8,c9,c10]:=by
  match r,hl with
  | [c0,c1,c2,c3,c4,c5,c6,c7,c8,c9,c10],_=>exact ⟨_,_,_,_,_,_,_,_,_,_,_,rfl⟩
 obtain ⟨_,hf⟩:=Rd.struct Tryz.underlying36 h
 obtain ⟨k,e0,_⟩:=Rd.int (k:=.i64) Tryz.underlying3 (by simpa [Tryz.cellsInt] using hf 0 _ rfl)
 obtain ⟨g,e1,hg⟩:=rd_act13T (r:=[c1,c2,c3,c4,c5,c6,c7]) rfl (by simpa [Tryz.cellsInt,Tryz.cellsActT] using hf 1 _ rfl)
 have h2:Rd enc Tryz.prog w 34 [c8,c9,c10]:=by simpa [Tryz.cellsInt,Tryz.cellsActT,Tryz.cellsAct24] using hf 2 _ rfl
 obtain ⟨_,hr⟩:=Rd.struct Tryz.underlying34 h2
 obtain ⟨nk,e2,_⟩:=Rd.int (k:=.i64) Tryz.underlying3 (by simpa [Tryz.cellsInt] using hr 0 _ rfl)
 obtain ⟨ni,e3,_⟩:=Rd.int (k:=.i64) Tryz.underlying3 (by simpa [Tryz.cellsInt] using hr 1 _ rfl)
 obtain ⟨d,dc,dd,e4,hb⟩:=Rd.bytes Tryz.underlying26 Tryz.underlying5 Tryz.cellsU8 (show Rd enc Tryz.prog w 26 [c10] by simpa [Tryz.cellsInt,Tryz.cellsBytesT] using hr 2 _ rfl)
 unfold SL.a13V at e1
 simp only [List.cons.injEq,and_true] at e0 e1 e2 e3 e4
 obtain ⟨rfl,rfl,rfl,rfl,rfl,rfl,rfl⟩:=e1
 subst e0 e2 e3 e4
 exact ⟨⟨k,g,nk,ni,d,dd.length,dc⟩,rfl,hg⟩
theorem rd_picks {H:Type} {enc:TypeId×Value→H} {w:World} {a:Option Addr} {n c:Nat} (h:Rd enc Tryz.prog w 22 [.slice a n c]):∃ Y:List SL.PkA,n=Y.length∧SL.PKs w a c Y:=by
 obtain ⟨a',c',Y,e,hs,hp⟩:=Rd.rows (f:=SL.pkV) (p:=fun y=>SL.A13At w y.x) Tryz.underlying22 (by rw [Tryz.cellsPick];decide) h (fun r hl hr=>rd_pick (by rw [hl];exact Tryz.cellsPick) hr)
 simp only [List.cons.injEq,and_true,Value.slice.injEq] at e
 obtain ⟨rfl,rfl,rfl⟩:=e
 exact ⟨Y,rfl,hs,hp⟩
end Go.Proofs.YtaodldbgikiekaaGreatDoor
