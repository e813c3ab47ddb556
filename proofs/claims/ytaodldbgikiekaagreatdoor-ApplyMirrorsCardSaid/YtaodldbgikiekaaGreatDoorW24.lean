/- Proved here: a part of the proof (24 of 35). -/
import Derived.Test.YtaodldbgikiekaaGreatDoorW11
import Derived.Test.YtaodldbgikiekaaGreatDoorW12
import Derived.Test.YtaodldbgikiekaaGreatDoorW10
import Derived.Test.YtaodldbgikiekaaGreatDoorW7
import Derived.Test.YtaodldbgikiekaaGreatDoorW23
set_option linter.unusedSimpArgs false
set_option linter.unusedVariables false
set_option maxRecDepth 100000
namespace Go.Proofs.YtaodldbgikiekaaGreatDoor
open Go.RowKit

/-- an entry of a slice -/
theorem EL.at {w:World} {a:Option Addr} {c:Nat} {E:List Ent} (h:EL w a c E) {k:Nat} (hk:k<E.length) :
  ∃ b off,a=some ⟨b,off,none⟩∧b<w.heap.size∧w.cell? ⟨b,off+k*3,none⟩=some (.int .i64 E[k].1)∧w.cell? ⟨b,off+k*3+1,none⟩=some (.int .i64 E[k].2.1.k) ∧
   w.cell? ⟨b,off+k*3+2,none⟩=some (.slice E[k].2.2.1 E[k].2.1.d.length E[k].2.2.2)∧E[k].2.1.d.length≤9223372036854775807:=by
 obtain ⟨hsl,hby⟩:=h
 obtain ⟨b,off,rfl,hb,hc⟩:=SlV.row (s:=3) (fun _=>rfl) (by decide) hsl hk
 have c0:=hc 0 _ rfl;have c1:=hc 1 _ rfl;have c2:=hc 2 _ rfl
 simp only [Nat.add_zero] at c0
 exact ⟨b,off,rfl,hb,c0,c1,c2,bytes_len (hby _ (List.getElem_mem hk))⟩
end Go.Proofs.YtaodldbgikiekaaGreatDoor
