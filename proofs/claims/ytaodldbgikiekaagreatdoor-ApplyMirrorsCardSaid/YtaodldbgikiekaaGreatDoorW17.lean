/- Proved here: a part of the proof (17 of 35). -/
import Derived.Test.YtaodldbgikiekaaGreatDoorW9
import Derived.Test.YtaodldbgikiekaaGreatDoorStrL
import Derived.Test.YtaodldbgikiekaaGreatDoorW2
import Derived.WalkKit
set_option linter.unusedSimpArgs false
set_option linter.unusedVariables false
set_option maxRecDepth 20000
namespace Go.Proofs.YtaodldbgikiekaaGreatDoor
open Go.RowKit
namespace DK
theorem trim_any (s cs:Nm) (w:World) (hs:s.size≤9223372036854775807) (hcs:cs.size<4294967281) (ha:∀ (j:Nat) b,cs.data.toList[j]?=some b→b.toNat<128):Calls Tryz.prog 213 #[.string s,.string cs] w fun e w'=>e=.returned (.string ⟨(Go.Lib.trimS s.data.toList cs.data.toList).toArray⟩)∧Below w.heap.size w w' :=
 Any.strings_Trim_laid Tryz.trmS (by kernel_rfl) s cs w hs hcs ha
theorem hasPrefix_any (s p:Nm) (w:World):Calls Tryz.prog 162 #[.string s,.string p] w fun e w'=>e=.returned (.bool (Go.Lib.hasPrefix s.data.toList p.data.toList))∧w'=w:=Any.strings_HasPrefix Tryz.pfxS s p w
theorem cutPrefix_any (s p:Nm) (w:World):Calls Tryz.prog 212 #[.string s,.string p] w fun e w'=>e=.returned (.tuple #[.string ⟨(Go.Lib.trimPrefix s.data.toList p.data.toList).toArray⟩,.bool (Go.Lib.hasPrefix s.data.toList p.data.toList)])∧w'=w:=Any.strings_CutPrefix Tryz.cutS s p w
theorem contains1_any (s:Nm) (c:UInt8) (w:World):Calls Tryz.prog 243 #[.string s,.string ⟨#[c]⟩] w fun e w'=>e=.returned (.bool (decide (0≤Go.Lib.indexByte s.data.toList c)))∧w'=w:=Any.strings_Contains_one Tryz.conS s c w
def signsB:Nm:=⟨#[97,98,99,100,101,102,103,104,105,106,107,108,109,110,111,112,113,114,115,116,117,118,119,120,121,122,48,49,50,51,52,53,54,55,56,57,45,46,126]⟩
theorem signs_fin:∀ i:Fin 256,signsB.data.toList.contains (UInt8.ofNat i.val)=sign (UInt8.ofNat i.val):=by decide +kernel
theorem signs_is (c:UInt8):signsB.data.toList.contains c=sign c:=by
 have h:=signs_fin ⟨c.toNat,c.toNat_lt⟩
 simpa using h
theorem trim_signs (n:Nm):Go.Lib.trimS n.data.toList signsB.data.toList=[]↔n.data.toList.all sign=true:=by
 rw [trimS_nil]
 have:(fun x=>signsB.data.toList.contains x)=sign:=funext signs_is
 rw [this]
set_option maxHeartbeats 1000000 in
theorem named_any (n:Nm) (w:World):Calls Tryz.prog 208 #[.string n] w fun e w'=>e=.returned (.bool (named n))∧Below w.heap.size w w':=by
 by_cases h1:1≤n.size
 ·by_cases h2:n.size≤24
  ·obtain ⟨t,ht⟩:∃ t,Go.Lib.trimS n.data.toList signsB.data.toList=t:=⟨_,rfl⟩
   have HT:=Zh (show ∀ w:World,Calls Tryz.prog 213 #[.string n,.string signsB] w fun e w'=>e=.returned (.string ⟨t.toArray⟩)∧Below w.heap.size w w' from fun w=>by
    have:=trim_any n signsB w (by omega) (by decide) (ascii_of_all (by decide))
    rwa [ht] at this)
   by_cases h3:t=[]
   ·have HF:=Zh (show named n=true by
     unfold named
     rw [(trim_signs n).1 (ht.trans h3)]
     simp [h1,h2])
    subst h3
    have g1:(1:Int)≤(n.size:Int):=by omega
    have g2:(n.size:Int)≤24:=by omega
    clear ht
    go_enter Tryz.func208, Tryz.ntmps208
    go_wp2_with (go_at_call 213;refine (HT.out _).mono ?_;rintro e w1 ⟨rfl,hb⟩)
    go_ret
    exact ⟨by rw [HF.out];rfl,hb⟩
   ·have HF:=Zh (show named n=false by
     unfold named
     cases hq:n.data.toList.all sign with
     | true=>exact absurd (ht.symm.trans ((trim_signs n).2 hq)) h3
     | false=>simp)
    have g1:(1:Int)≤(n.size:Int):=by omega
    have g2:(n.size:Int)≤24:=by omega
    have g3:t.isEmpty=false:=by
     cases t with
     | nil=>exact absurd rfl h3
     | cons _ _=>rfl
    clear ht
    go_enter Tryz.func208, Tryz.ntmps208
    go_wp2_with (go_at_call 213;refine (HT.out _).mono ?_;rintro e w1 ⟨rfl,hb⟩)
    go_ret
    exact ⟨by rw [HF.out];rfl,hb⟩
  ·have HF:=Zh (show named n=false by unfold named;simp [h2])
   have g1:(1:Int)≤(n.size:Int):=by omega
   have g2:¬(n.size:Int)≤24:=by omega
   clear h1 h2
   go_enter Tryz.func208, Tryz.ntmps208
   go_wp2
   go_ret
   exact ⟨by rw [HF.out];rfl,Below.refl _ _⟩
 ·have HF:=Zh (show named n=false by unfold named;simp [h1])
  have g1:¬(1:Int)≤(n.size:Int):=by omega
  clear h1
  go_enter Tryz.func208, Tryz.ntmps208
  go_wp2
  go_ret
  exact ⟨by rw [HF.out];rfl,Below.refl _ _⟩
end DK
end Go.Proofs.YtaodldbgikiekaaGreatDoor
