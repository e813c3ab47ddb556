/- A size and acts of law 13, read as data. -/
import Derived.Test.YtaodldbgikiekaaGreatDoorOpenJ
import Derived.Test.YtaodldbgikiekaaGreatDoorOpenN
import Derived.Test.YtaodldbgikiekaaGreatDoorW29
set_option linter.unusedSimpArgs false
set_option linter.unusedVariables false
set_option maxRecDepth 100000
namespace Go.Proofs.YtaodldbgikiekaaGreatDoor
open Go.ChangeShapes Go.WideShapes Go.ChangeAt Go.RowKit
theorem Tryz.cellsCellT:Tryz.prog.cellsOf 28=2:=by kernel_rfl
theorem Tryz.cellsBoolsT:Tryz.prog.cellsOf 29=1:=by kernel_rfl
theorem Tryz.cellsBytesT:Tryz.prog.cellsOf 26=1:=by kernel_rfl
theorem Tryz.cellsActT:Tryz.prog.cellsOf 32=7:=by kernel_rfl
theorem wf64 {x:Int} (h:(Lit.int .i64 x).wf=true):-9223372036854775808≤x∧x<9223372036854775808:=by
 have e1:IntKind.i64.min=-9223372036854775808:=by decide
 have e2:IntKind.i64.max=9223372036854775807:=by decide
 simp [Lit.wf,IntKind.wrap,IntKind.signed,IntKind.bits] at h
 omega
theorem rd_chains {H:Type} {enc:TypeId×Value→H} {w:World} {c1:Value} (h:Rd enc Tryz.prog w 55 [c1]):∃ (a:Option Addr) (c:Nat) (X:List Ch),c1=.slice a X.length c∧Chs w a c X:=by
 obtain ⟨a,c,X,e1,hs,hp⟩:=Rd.rows (f:=fun x:Ch=>[chV x]) (p:=fun x=>Zs w (chV x) x.1) Tryz.underlying55 (by rw [Tryz.cellsIntsJ];decide) h (fun r hl hr=>by obtain ⟨x,hx,hz,_⟩:=rd_ints hr;exact ⟨x,hx,hz⟩)
 simp only [List.cons.injEq,and_true] at e1
 exact ⟨a,c,X,e1,⟨by rw [←flat_one];exact hs,hp⟩⟩
theorem rd_act13T {H:Type} {enc:TypeId×Value→H} {w:World} {r:List Value} (hl:r.length=7) (h:Rd enc Tryz.prog w 32 r):∃ x:SL.A13,r=SL.a13V x∧SL.A13At w x:=by
 obtain ⟨c0,c1,c2,c3,c4,c5,c6,rfl⟩:∃ c0 c1 c2 c3 c4 c5 c6,r=[c0,c1,c2,c3,c4,c5,c6]:=by
  match r,hl with
  | [c0,c1,c2,c3,c4,c5,c6],_=>exact ⟨_,_,_,_,_,_,_,rfl⟩
 obtain ⟨_,hf⟩:=Rd.struct Tryz.underlying32 h
 obtain ⟨k,e0,_⟩:=Rd.int (k:=.i64) Tryz.underlying3 (by simpa [Tryz.cellsInt] using hf 0 _ rfl)
 obtain ⟨u,e1,_⟩:=Rd.int (k:=.i64) Tryz.underlying3 (by simpa [Tryz.cellsInt] using hf 1 _ rfl)
 obtain ⟨ad,e2,wa⟩:=Rd.int (k:=.i64) Tryz.underlying3 (by simpa [Tryz.cellsInt] using hf 2 _ rfl)
 have h3:Rd enc Tryz.prog w 28 [c3,c4]:=by simpa [Tryz.cellsInt,Tryz.cellsCellT] using hf 3 _ rfl
 obtain ⟨_,hg⟩:=Rd.struct Tryz.underlying28 h3
 obtain ⟨ck,e3,_⟩:=Rd.int (k:=.i64) Tryz.underlying3 (by simpa [Tryz.cellsInt] using hg 0 _ rfl)
 obtain ⟨d,dc,dd,e4,hb⟩:=Rd.bytes Tryz.underlying26 Tryz.underlying5 Tryz.cellsU8 (show Rd enc Tryz.prog w 26 [c4] by simpa [Tryz.cellsInt,Tryz.cellsBytesT] using hg 1 _ rfl)
 obtain ⟨ka,kc,kl,e5,hk,_⟩:=Rd.rows (f:=fun n:Bool=>[.bool n]) (p:=fun _=>True) Tryz.underlying29 (by rw [Tryz.cellsBoolK];decide) (show Rd enc Tryz.prog w 29 [c5] by simpa [Tryz.cellsInt,Tryz.cellsCellT,Tryz.cellsBoolsT] using hf 4 _ rfl) (fun r hl hr=>by obtain ⟨b,hb⟩:=Rd.bool Tryz.underlying4 hr;exact ⟨b,hb,trivial⟩)
 obtain ⟨⟨sl,sa,sc⟩,e6,hz,_⟩:=rd_ints (show Rd enc Tryz.prog w 30 [c6] by simpa [Tryz.cellsInt,Tryz.cellsCellT,Tryz.cellsBoolsT,Tryz.cellsIntsJ] using hf 5 _ rfl)
 simp only [chV,List.cons.injEq,and_true] at e0 e1 e2 e3 e4 e5 e6
 subst e0 e1 e2 e3 e4 e5 e6
 refine ⟨⟨k,u,ad,⟨ck,dd⟩,d,dc,kl,ka,kc,sl,sa,sc⟩,rfl,⟨hb,?_,hz,wf64 wa⟩⟩
 show SlV w _ _ (kl.map Value.bool)
 rw [←flatK (fun n:Bool=>Value.bool n) kl];exact hk
theorem rd_acts13 {H:Type} {enc:TypeId×Value→H} {w:World} {a:Option Addr} {n c:Nat} (h:Rd enc Tryz.prog w 38 [.slice a n c]):∃ X:List SL.A13,n=X.length∧SL.A13L w a c X:=by
 obtain ⟨a',c',X,e,hs,hp⟩:=Rd.rows (f:=SL.a13V) (p:=SL.A13At w) Tryz.underlying38 (by rw [Tryz.cellsActT];decide) h (fun r hl hr=>rd_act13T (by rw [hl];exact Tryz.cellsActT) hr)
 simp only [List.cons.injEq,and_true,Value.slice.injEq] at e
 obtain ⟨rfl,rfl,rfl⟩:=e
 exact ⟨X,rfl,hs,hp⟩
end Go.Proofs.YtaodldbgikiekaaGreatDoor
