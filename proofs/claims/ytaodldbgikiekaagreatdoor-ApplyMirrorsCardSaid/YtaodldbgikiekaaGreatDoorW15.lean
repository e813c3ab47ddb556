/- Proved here: a part of the proof (15 of 35). -/
import Derived.Test.YtaodldbgikiekaaGreatDoorW10
import Derived.Test.YtaodldbgikiekaaGreatDoorW2
import Derived.Deep.DeepCutAuto
import Derived.Deep.CutBlock
set_option linter.unusedSimpArgs false
set_option linter.unusedVariables false
set_option maxRecDepth 20000
namespace Go.Proofs.YtaodldbgikiekaaGreatDoor
open Go.RowKit
namespace DK

abbrev ptrV (N:Nat):Value:=.pointer (some ⟨N,0,none⟩)
/-- what a method answers, and the disk then -/
def DiskR (N:Nat) (G:Nat→Prop) (D':Dk) (v:Value) (w:World) (e:Ending) (w':World):Prop:=e=.returned v∧∃ G',Sep w G [Asn.disk N D' G'] w'
theorem DiskR.idle {N:Nat} {G:Nat→Prop} {D:Dk} {v:Value} {w w':World} (h:(Asn.disk N D G).holds w) (hb:Below w.heap.size w w'):DiskR N G D v w (.returned v) w' :=
 ⟨rfl,G,(Sep.idle h).below hb⟩
theorem looks_any (N:Nat) (b:Bool) (w:World) (h:w.cell? ⟨N,5,none⟩=some (.bool b)) (hN:N<w.heap.size):Calls Tryz.prog 203 #[ptrV N] w fun e w'=>e=.returned (errV (if b=true then 14 else 0))∧w=w':=by
 cases b with
 | true =>
  go_enter Tryz.func203, Tryz.ntmps203
  go_wp2
  go_ret
  exact ⟨rfl,rfl⟩
 | false =>
  go_enter Tryz.func203, Tryz.ntmps203
  go_wp2
  go_ret
  exact ⟨rfl,rfl⟩
theorem down_any (N:Nat) (b:Bool) (w:World) (h:w.cell? ⟨N,5,none⟩=some (.bool b)) (hN:N<w.heap.size):Calls Tryz.prog 192 #[ptrV N] w fun e w'=>e=.returned (.bool b)∧w=w':=by
 go_enter Tryz.func192, Tryz.ntmps192
 go_wp2
 go_ret
 exact ⟨rfl,rfl⟩
theorem Down_any {N:Nat} {D:Dk} {G:Nat→Prop} (w:World) (h:(Asn.disk N D G).holds w):Calls Tryz.prog 192 #[ptrV N] w fun e w'=>e=.returned (.bool D.down)∧w=w':=by
 obtain ⟨K,⟨bs,bh,v,P,Z,vs,Ls,Lh,rfl,hI⟩,H0⟩:=Sep.open1 h
 exact down_any N D.down w (H0.cell 0 rfl 5 rfl) (H0.lt 0 rfl)
set_option maxHeartbeats 1000000 in
theorem works_any {m N:Nat} {D:Dk} {G:Nat→Prop} (w:World) (h:(Asn.disk N D G).holds w) (ho:Ok m D):Calls Tryz.prog 207 #[ptrV N] w (DiskR N G (worksD D).2 (errV (worksD D).1) w):=by
 have HH:=Lib.hid' h
 obtain ⟨K,⟨bs,bh,v,P,Z,vs,Ls,Lh,rfl,hI⟩,H0⟩:=Sep.open1 h
 have HI:=Lib.hid' hI
 have H:=Lib.hid' H0
 have c4:=H0.cell 0 rfl 4 rfl
 have c5:=H0.cell 0 rfl 5 rfl
 have f4:=H0.free 0 rfl 4
 have f5:=H0.free 0 rfl 5
 have hl:=H0.lt 0 rfl
 have hfu:=ho.fuse
 clear H0 h hI ho
 cases hd:D.down with
 | true =>
  have HF:=Zh (show worksD D=(14,D) by unfold worksD;rw [if_pos hd])
  rw [hd] at c5
  go_enter Tryz.func207, Tryz.ntmps207
  go_wp2_with (go_at_call 203;refine (looks_any N true _ c5 hl).mono ?_;rintro e w' ⟨rfl,rfl⟩)
  go_ret
  rw [HF.out]
  exact DiskR.idle HH.out (Below.refl _ _)
 | false =>
  have hdn:¬D.down=true:=by rw [hd];decide
  rw [hd] at c5
  have HD:=Lib.hid' hd
  clear hd
  by_cases h0:D.fuse=0
  ·have HF:=Zh (show worksD D=(14,{ D with down:=true }) by unfold worksD;rw [if_neg hdn,if_pos h0])
   rw [h0] at c4
   have H0:=Lib.hid' h0
   clear h0 hdn
   go_enter Tryz.func207, Tryz.ntmps207
   go_wp2_with (go_at_call 203;refine (looks_any N false _ c5 hl).mono ?_;rintro e w' ⟨rfl,rfl⟩)
   go_ret
   rw [HF.out]
   exact ⟨rfl,Sep.close1 (H.out.set 0 rfl 5 (.bool true)) ⟨bs,bh,v,P,Z,vs,Ls,Lh,rfl,HI.out⟩⟩
  ·by_cases hp:0<D.fuse
   ·have HF:=Zh (show worksD D=(0,{ D with fuse:=D.fuse - 1 }) by unfold worksD lower;rw [if_neg hdn,if_neg h0,if_pos hp])
    obtain ⟨x,hx⟩:∃ x,D.fuse=x:=⟨_,rfl⟩
    rw [hx] at c4 h0 hp hfu
    have HX:=Lib.hid' hx
    clear hx hdn
    go_enter Tryz.func207, Tryz.ntmps207
    go_wp2_with (go_at_call 203;refine (looks_any N false _ c5 hl).mono ?_;rintro e w' ⟨rfl,rfl⟩)
    go_ret
    rw [HF.out,HX.out]
    refine ⟨rfl,?_⟩
    have h1:=H.out.set 0 rfl 4 (.int .i64 (x - 1))
    first | exact Sep.close1 h1 ⟨bs,bh,v,P,Z,vs,Ls,Lh,rfl,HI.out⟩ | (go_num;exact Sep.close1 h1 ⟨bs,bh,v,P,Z,vs,Ls,Lh,rfl,HI.out⟩)
   ·have HF:=Zh (show worksD D=(0,D) by
     unfold worksD lower;rw [if_neg hdn,if_neg h0,if_neg hp])
    obtain ⟨x,hx⟩:∃ x,D.fuse=x:=⟨_,rfl⟩
    rw [hx] at c4 h0 hp hfu
    clear hx hdn
    go_enter Tryz.func207, Tryz.ntmps207
    go_wp2_with (go_at_call 203;refine (looks_any N false _ c5 hl).mono ?_;rintro e w' ⟨rfl,rfl⟩)
    go_ret
    rw [HF.out]
    exact DiskR.idle HH.out (Below.refl _ _)
theorem dnew_bad (room:Int) (w:World) (h:room<0∨1073741824<room):Calls Tryz.prog 71 #[.int .i64 room] w fun e w'=>e=.returned (.tuple #[.pointer none,errV 1])∧w=w':=by
 by_cases h0:room<0
 ·clear h
  go_enter Tryz.func71, Tryz.ntmps71
  go_wp2
  go_ret2
  exact ⟨rfl,rfl⟩
 ·have h1:1073741824<room:=h.resolve_left h0
  clear h
  go_enter Tryz.func71, Tryz.ntmps71
  go_wp2
  go_ret2
  exact ⟨rfl,rfl⟩
def NewDR (room:Int) (w:World) (e:Ending) (w':World):Prop:=∃ N G,e=.returned (.tuple #[ptrV N,.nilIface])∧Sep w NoF [Asn.disk N (newD room) G] w'
set_option maxHeartbeats 1000000 in
theorem dnew_any (room:Int) (w:World) (h:0≤room∧room≤1073741824):Calls Tryz.prog 71 #[.int .i64 room] w (NewDR room w):=by
 have h0:¬room<0:=by omega
 have h1:¬1073741824<room:=by omega
 have hmm:=@run_makeMap Tryz.prog
 clear h
 go_enter Tryz.func71, Tryz.ntmps71
 go_wp2
 go_ret2
 have H1:=MS.sep_made (Sep.start w) w.heap.size rfl
 have H2:=MS.sep_made H1 (w.heap.size+1) (by simp)
 have H3:=H2.allocAt (w.heap.size+2) [.int .i64 room,.map (some w.heap.size),.map (some (w.heap.size+1)),.slice none 0 0,.int .i64 (-1),.bool false] 193 (by simp)
 have H4:=(H3.pool0).nilRow 300 4
 have H5:=((H4.focus 3 rfl).focus 4 rfl).focus 4 rfl
 obtain ⟨G,h6⟩:=Sep.pack _ (L:=[]) (by rw [List.append_nil];exact H5) (show diskI (w.heap.size+2) (newD room) _ from ⟨w.heap.size,w.heap.size+1,.slice none 0 0,[],NoF,[nilB],[],[],rfl,F2.nil,F2.nil,rfl,by simp,by simp⟩)
 exact ⟨w.heap.size+2,G,rfl,h6⟩
end DK
end Go.Proofs.YtaodldbgikiekaaGreatDoor
