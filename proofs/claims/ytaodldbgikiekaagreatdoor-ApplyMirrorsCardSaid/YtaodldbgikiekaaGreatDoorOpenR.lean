/- Acts, read as data. -/
import Derived.Test.YtaodldbgikiekaaGreatDoorOpen0
import Derived.Test.YtaodldbgikiekaaGreatDoorW7
set_option linter.unusedSimpArgs false
set_option linter.unusedVariables false
namespace Go.Proofs.YtaodldbgikiekaaGreatDoor
open Go.ChangeShapes Go.WideShapes Go.ChangeAt Go.RowKit

theorem Tryz.cellsBytesR:Tryz.prog.cellsOf 26=1:=by kernel_rfl
theorem Tryz.cellsActR:Tryz.prog.cellsOf 154=4:=by kernel_rfl
theorem rd_act {H:Type} {enc:TypeId×Value→H} {w:World} {cs:Array Value} (hl:cs.size=4) (h:Rd enc Tryz.prog w 154 cs.toList) :
  ∃ (x:Ac) (a:Option Addr) (c:Nat),cs=#[.int .i64 x.k,.int .i64 x.e,.int .i64 x.a,.slice a x.d.length c]∧Bytes w (.slice a x.d.length c) x.d:=by
 obtain ⟨c0,c1,c2,c3,rfl⟩:∃ c0 c1 c2 c3,cs=#[c0,c1,c2,c3]:=by
  match cs,hl with
  | ⟨[c0,c1,c2,c3]⟩,_=>exact ⟨_,_,_,_,rfl⟩
 obtain ⟨_,hf⟩:=Rd.struct Tryz.underlying154 h
 obtain ⟨k,e0,_⟩:=Rd.int (k:=.i64) Tryz.underlying3 (by simpa [Tryz.cellsInt] using hf 0 _ rfl)
 obtain ⟨e,e1,_⟩:=Rd.int (k:=.i64) Tryz.underlying3 (by simpa [Tryz.cellsInt] using hf 1 _ rfl)
 obtain ⟨ad,e2,_⟩:=Rd.int (k:=.i64) Tryz.underlying3 (by simpa [Tryz.cellsInt] using hf 2 _ rfl)
 obtain ⟨a,c,d,e3,hb⟩:=Rd.bytes Tryz.underlying26 Tryz.underlying5 Tryz.cellsU8 (show Rd enc Tryz.prog w 26 [c3] by simpa [Tryz.cellsInt,Tryz.cellsBytesR] using hf 3 _ rfl)
 simp only [List.cons.injEq,and_true] at e0 e1 e2 e3
 subst e0 e1 e2 e3
 exact ⟨⟨k,e,ad,d⟩,a,c,rfl,hb⟩
end Go.Proofs.YtaodldbgikiekaaGreatDoor
