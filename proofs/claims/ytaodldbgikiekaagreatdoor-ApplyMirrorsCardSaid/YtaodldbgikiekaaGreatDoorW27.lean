/- Proved here: a part of the proof (27 of 35). -/
import Derived.Test.YtaodldbgikiekaaGreatDoorW2
import Derived.Laws.LoneSync
import Derived.Deep.DeepCutAuto
import Derived.Deep.CutBlock
set_option linter.unusedSimpArgs false
set_option linter.unusedVariables false
set_option maxRecDepth 20000
namespace Go.Proofs.YtaodldbgikiekaaGreatDoor
open Go.RowKit
namespace SQ
/-- a sequencer, plain: its epoch, its next address -/
structure Q where
 e:Int
 n:Int
structure Q.ok (q:Q):Prop where
 e:0≤q.e∧q.e≤1099511627776
 n:0≤q.n∧q.n≤1048576
def Q.asks (q:Q) (e:Int) (fits:Bool):Nat:=if fits=false then 1 else if e<q.e then 6 else if q.e<e then 7 else 0
def Q.take (q:Q) (e:Int) (m:Int):Nat×Int×Q :=
 if q.asks e (decide (1≤m)&&decide (m≤64))≠0 then (q.asks e (decide (1≤m)&&decide (m≤64)),0,q) else if 1048576<q.n+m then (5,0,q) else (0,q.n,⟨q.e,q.n+m⟩)
def inB (x m:Int):Bool:=decide (0≤x)&&decide (x≤m)
def Q.raise (q:Q) (e n:Int):Nat×Q :=
 if q.asks e (inB n 1048576)≠0 then (q.asks e (inB n 1048576),q) else (0,⟨q.e,if n≤q.n then q.n else n⟩)
def Q.set (q:Q) (e n:Int):Nat×Q:=if inB e 1099511627776=false∨inB n 1048576=false then (1,q) else if e≤q.e then (6,q) else (0,⟨e,n⟩)
def Q.tail (q:Q) (e:Int):Nat×Int:=if q.asks e true≠0 then (q.asks e true,0) else (0,q.n)
theorem Q.ok.take {q:Q} (h:q.ok) {e m:Int}:(q.take e m).2.2.ok:=by
 unfold Q.take
 split
 ·exact h
 ·rename_i ha
  split
  ·exact h
  ·rename_i hn
   refine ⟨h.e,?_⟩
   have h1:1≤m:=by
    unfold Q.asks at ha
    by_cases hm:1≤m
    ·exact hm
    ·simp [hm] at ha
   have:=h.n
   exact ⟨by show 0≤q.n+m;omega,by show q.n+m≤_;omega⟩
theorem Q.ok.raise {q:Q} (h:q.ok) {e n:Int}:(q.raise e n).2.ok:=by
 unfold Q.raise
 split
 ·exact h
 ·rename_i ha
  have hn:inB n 1048576=true:=by
   unfold Q.asks at ha
   cases hb:inB n 1048576 with
   | true=>rfl
   | false=>rw [hb] at ha;simp at ha
  unfold inB at hn
  simp only [Bool.and_eq_true,decide_eq_true_eq] at hn
  refine ⟨h.e,?_⟩
  have:=h.n
  show 0≤(if n≤q.n then q.n else n)∧(if n≤q.n then q.n else n)≤_
  split
  ·exact h.n
  ·exact hn
abbrev ptrQ (N:Nat):Value:=.pointer (some ⟨N,0,none⟩)
/-- a sequencer in memory -/
abbrev _root_.Go.Proofs.YtaodldbgikiekaaGreatDoor.Asn.seq (b:Nat) (q:Q):Asn:=.box b [.int .i64 q.e,.int .i64 q.n] 119
theorem aload_any {b o:Nat} {x:Int} (w:World) (h:w.cell? ⟨b,o,none⟩=some (.int .i64 x)):Calls Tryz.prog 24 #[.pointer (some ⟨b,o,none⟩)] w fun e w'=>e=.returned (.int .i64 x)∧w=w':=by
 have hl:=run_call_load (P:=Tryz.prog) Tryz.func57 (by kernel_rfl) (by kernel_rfl) (by kernel_rfl) .i64 (by kernel_rfl) h
 go_enter Tryz.func24, Tryz.ntmps24
 go_wp2
 go_ret
 exact ⟨rfl,rfl⟩
theorem astore_any {b o:Nat} {x:Int} {u:Value} (w:World) (h:w.cell? ⟨b,o,none⟩=some u) (hz:w.frozen? ⟨b,o,none⟩=false):Calls Tryz.prog 40 #[.pointer (some ⟨b,o,none⟩),.int .i64 x] w fun e w'=>e=.returned (.tuple #[])∧w'=w.setCell ⟨b,o,none⟩ (.int .i64 x):=by
 have hl:=run_call_store (P:=Tryz.prog) Tryz.func86 (by kernel_rfl) (by kernel_rfl) (by kernel_rfl) (by kernel_rfl) (k:=.i64) (y:=x) h hz
 go_enter Tryz.func40, Tryz.ntmps40
 go_wp2
 go_end0
 exact ⟨rfl,rfl⟩
theorem acas_any {b o:Nat} {x y:Int} (w:World) (h:w.cell? ⟨b,o,none⟩=some (.int .i64 x)) (hz:w.frozen? ⟨b,o,none⟩=false):Calls Tryz.prog 106 #[.pointer (some ⟨b,o,none⟩),.int .i64 x,.int .i64 y] w fun e w'=>e=.returned (.bool true)∧w'=w.setCell ⟨b,o,none⟩ (.int .i64 y):=by
 have hl:=run_call_cas_hit (P:=Tryz.prog) Tryz.func147 (by kernel_rfl) (by kernel_rfl) (by kernel_rfl) .i64 (by kernel_rfl) (y:=y) h hz
 go_enter Tryz.func106, Tryz.ntmps106
 go_wp2
 go_ret
 exact ⟨rfl,rfl⟩
theorem in_any (x m:Int) (w:World):Calls Tryz.prog 74 #[.int .i64 x,.int .i64 m] w fun e w'=>e=.returned (.bool (inB x m))∧w=w':=by
 have HB:=Zh (show inB x m=(decide (0≤x)&&decide (x≤m)) from rfl)
 by_cases h0:0≤x
 ·by_cases h1:x≤m
  ·go_enter Tryz.func74, Tryz.ntmps74
   go_wp2
   go_ret
   rw [HB.out]
   exact ⟨by simp [h0,h1],rfl⟩
  ·go_enter Tryz.func74, Tryz.ntmps74
   go_wp2
   go_ret
   rw [HB.out]
   exact ⟨by simp [h0,h1],rfl⟩
 ·go_enter Tryz.func74, Tryz.ntmps74
  go_wp2
  go_ret
  rw [HB.out]
  exact ⟨by simp;omega,rfl⟩
theorem new_any (w:World):Calls Tryz.prog 30 #[] w fun e w'=>e=.returned (ptrQ w.heap.size)∧Sep w NoF [Asn.seq w.heap.size ⟨0,0⟩] w':=by
 go_enter Tryz.func30, Tryz.ntmps30
 go_wp2
 go_ret
 exact ⟨rfl,(Sep.start w).alloc [.int .i64 0,.int .i64 0] 119⟩
theorem epoch_any {w0 w:World} {F:Nat→Prop} {L:List Asn} {b:Nat} {q:Q} (h:Sep w0 F L w) (i:Nat) (hi:L[i]?=some (Asn.seq b q)):Calls Tryz.prog 75 #[ptrQ b] w fun e w'=>e=.returned (.int .i64 q.e)∧w=w':=by
 have c0:=h.cell i hi 0 rfl
 go_enter Tryz.func75, Tryz.ntmps75
 go_wp2_with (go_at_call 24;refine (aload_any _ c0).mono ?_;rintro e w' ⟨rfl,rfl⟩)
 go_ret
 exact ⟨rfl,rfl⟩
theorem asks_any {w0 w:World} {F:Nat→Prop} {L:List Asn} {b:Nat} {q:Q} (e:Int) (fits:Bool) (h:Sep w0 F L w) (i:Nat) (hi:L[i]?=some (Asn.seq b q)):Calls Tryz.prog 41 #[ptrQ b,.int .i64 e,.bool fits] w fun en w'=>en=.returned (errV (q.asks e fits))∧w=w':=by
 have HE:=Zh (epoch_any h i hi)
 have HA:=Zh (show q.asks e fits=if fits=false then 1 else if e<q.e then 6 else if q.e<e then 7 else 0 from rfl)
 obtain ⟨t,n⟩:=q
 simp only at HE HA
 clear h hi
 cases fits with
 | false =>
  go_enter Tryz.func41, Tryz.ntmps41
  go_wp2
  go_ret
  rw [HA.out]
  exact ⟨rfl,rfl⟩
 | true =>
  by_cases h1:e<t
  ·have HA2:=Zh (show (⟨t,n⟩:Q).asks e true=6 by rw [HA.out,if_neg (by decide),if_pos h1])
   go_enter Tryz.func41, Tryz.ntmps41
   go_wp2_with (go_at_call 75;refine HE.out.mono ?_;rintro en w' ⟨rfl,rfl⟩)
   go_ret
   rw [HA2.out]
   exact ⟨rfl,rfl⟩
  ·by_cases h2:t<e
   ·have HA2:=Zh (show (⟨t,n⟩:Q).asks e true=7 by rw [HA.out,if_neg (by decide),if_neg h1,if_pos h2])
    go_enter Tryz.func41, Tryz.ntmps41
    go_wp2_with (go_at_call 75;refine HE.out.mono ?_;rintro en w' ⟨rfl,rfl⟩)
    go_ret
    rw [HA2.out]
    exact ⟨rfl,rfl⟩
   ·have HA2:=Zh (show (⟨t,n⟩:Q).asks e true=0 by rw [HA.out,if_neg (by decide),if_neg h1,if_neg h2])
    go_enter Tryz.func41, Tryz.ntmps41
    go_wp2_with (go_at_call 75;refine HE.out.mono ?_;rintro en w' ⟨rfl,rfl⟩)
    go_ret
    rw [HA2.out]
    exact ⟨rfl,rfl⟩
/-- what a method answers, and the sequencer then -/
def SeqR (b:Nat) (q':Q) (v:Value) (w0:World) (F:Nat→Prop) (L:List Asn) (en:Ending) (w':World):Prop:=en=.returned v∧Sep w0 F (Asn.seq b q'::L) w'
theorem tail_any {w0 w:World} {F:Nat→Prop} {L:List Asn} {b:Nat} {q:Q} (e:Int) (h:Sep w0 F L w) (i:Nat) (hi:L[i]?=some (Asn.seq b q)):Calls Tryz.prog 17 #[ptrQ b,.int .i64 e] w fun en w'=>en=.returned (.tuple #[.int .i64 (q.tail e).2,errV (q.tail e).1])∧w=w':=by
 have HA:=Zh (asks_any e true h i hi)
 have c1:=h.cell i hi 1 rfl
 have HT:=Zh (show q.tail e=if q.asks e true≠0 then (q.asks e true,0) else (0,q.n) from rfl)
 generalize q.asks e true=z at *
 by_cases h0:z=0
 ·subst h0
  rw [errV_0] at HA
  go_enter Tryz.func17, Tryz.ntmps17
  go_wp2_with (first | (go_at_call 41;refine HA.out.mono ?_;rintro en w' ⟨rfl,rfl⟩) | (go_at_call 24;refine (aload_any _ c1).mono ?_;rintro en w' ⟨rfl,rfl⟩))
  go_ret2
  rw [HT.out]
  exact ⟨rfl,rfl⟩
 ·rw [errV_pos h0] at HA
  have HT2:=Zh (show q.tail e=(z,0) by rw [HT.out,if_pos h0])
  go_enter Tryz.func17, Tryz.ntmps17
  go_wp2_with (go_at_call 41;refine HA.out.mono ?_;rintro en w' ⟨rfl,rfl⟩)
  go_ret2
  rw [HT2.out,errV_pos h0]
  exact ⟨rfl,rfl⟩
set_option maxHeartbeats 4000000 in
theorem set_any {w0 w:World} {F:Nat→Prop} {L:List Asn} {b:Nat} {q:Q} (e n:Int) (h:Sep w0 F (Asn.seq b q::L) w):Calls Tryz.prog 32 #[ptrQ b,.int .i64 e,.int .i64 n] w (SeqR b (q.set e n).2 (errV (q.set e n).1) w0 F L):=by
 have HE:=Zh (epoch_any h 0 rfl)
 have HS:=Zh (show q.set e n=if inB e 1099511627776=false∨inB n 1048576=false then (1,q) else if e≤q.e then (6,q) else (0,⟨e,n⟩) from rfl)
 have HH:=Lib.hid' h
 have c0:=h.cell 0 rfl 0 rfl
 have c1:=h.cell 0 rfl 1 rfl
 have f0:=h.free 0 rfl 0
 have f1:=h.free 0 rfl 1
 have hl:=h.lt 0 rfl
 obtain ⟨t,m⟩:=q
 simp only at HE c0 c1
 clear h
 cases hi1:inB e 1099511627776 with
 | false =>
  have HS2:=Zh (show (⟨t,m⟩:Q).set e n=(1,⟨t,m⟩) by rw [HS.out,if_pos (.inl hi1)])
  go_enter Tryz.func32, Tryz.ntmps32
  go_wp2_with (go_at_call 74;refine (in_any _ _ _).mono ?_;rintro en w' ⟨rfl,rfl⟩)
  go_ret
  rw [HS2.out]
  exact ⟨rfl,HH.out⟩
 | true =>
  cases hi2:inB n 1048576 with
  | false =>
   have HS2:=Zh (show (⟨t,m⟩:Q).set e n=(1,⟨t,m⟩) by rw [HS.out,if_pos (.inr hi2)])
   go_enter Tryz.func32, Tryz.ntmps32
   go_wp2_with (go_at_call 74;refine (in_any _ _ _).mono ?_;rintro en w' ⟨rfl,rfl⟩)
   go_ret
   rw [HS2.out]
   exact ⟨rfl,HH.out⟩
  | true =>
   have HN:=Zh (show ¬(inB e 1099511627776=false∨inB n 1048576=false) by rw [hi1,hi2];decide)
   by_cases h1:e≤t
   ·have HS2:=Zh (show (⟨t,m⟩:Q).set e n=(6,⟨t,m⟩) by rw [HS.out,if_neg HN.out,if_pos h1])
    go_enter Tryz.func32, Tryz.ntmps32
    go_wp2_with (first | (go_at_call 74;refine (in_any _ _ _).mono ?_;rintro en w' ⟨rfl,rfl⟩) | (go_at_call 75;refine HE.out.mono ?_;rintro en w' ⟨rfl,rfl⟩))
    go_ret
    rw [HS2.out]
    exact ⟨rfl,HH.out⟩
   ·have HS2:=Zh (show (⟨t,m⟩:Q).set e n=(0,⟨e,n⟩) by rw [HS.out,if_neg HN.out,if_neg h1])
    have h2:=HH.out.set 0 rfl 0 (.int .i64 e)
    have H3:=Zh (h2.set 0 rfl 1 (.int .i64 n))
    have k1:=h2.cell 0 rfl 1 rfl
    have g1:=h2.free 0 rfl 1
    clear h2
    go_enter Tryz.func32, Tryz.ntmps32
    go_wp2_with (first | (go_at_call 74;refine (in_any _ _ _).mono ?_;rintro en w' ⟨rfl,rfl⟩) | (go_at_call 75;refine HE.out.mono ?_;rintro en w' ⟨rfl,rfl⟩) | (go_at_call 40;first | ((with_reducible refine (astore_any (o:=0) _ c0 f0).mono ?_);rintro en w' ⟨rfl,rfl⟩) | ((with_reducible refine (astore_any (o:=1) _ k1 g1).mono ?_);rintro en w' ⟨rfl,rfl⟩)))
    go_ret
    rw [HS2.out]
    exact ⟨rfl,H3.out⟩
set_option maxHeartbeats 4000000 in
theorem take_any {w0 w:World} {F:Nat→Prop} {L:List Asn} {b:Nat} {q:Q} (e:Int) (hq:q.ok) (h:Sep w0 F (Asn.seq b q::L) w) :
  Calls Tryz.prog 87 #[ptrQ b,.int .i64 e,.int .i64 1] w (SeqR b (q.take e 1).2.2 (.tuple #[.int .i64 (q.take e 1).2.1,errV (q.take e 1).1]) w0 F L):=by
 have HA:=Zh (asks_any e true h 0 rfl)
 have HH:=Lib.hid' h
 have c1:=h.cell 0 rfl 1 rfl
 have f1:=h.free 0 rfl 1
 have HL:=Zh (h.lt 0 rfl)
 have HT:=Zh (show q.take e 1=if q.asks e true≠0 then (q.asks e true,0,q) else if 1048576<q.n+1 then (5,0,q) else (0,q.n,⟨q.e,q.n+1⟩) from rfl)
 have hn:=hq.n
 generalize q.asks e true=z at *
 obtain ⟨t,n⟩:=q
 simp only at c1 hn
 clear h hq
 by_cases h0:z=0
 ·subst h0
  rw [errV_0] at HA
  by_cases h1:1048576<n+1
  ·have HS:=Zh (show (⟨t,n⟩:Q).take e 1=(5,0,⟨t,n⟩) by rw [HT.out,if_neg (by decide),if_pos h1])
   go_enter Tryz.func87, Tryz.ntmps87
   go_wp2_with (go_at_call 41;refine HA.out.mono ?_;rintro en w' ⟨rfl,rfl⟩)
   go_loopw [] (fun wr=>Hid (w=wr)) (fun _=>0)
   case atStart=>exact Lib.hid' rfl
   case round =>
    obtain rfl:=hrel.out
    go_wp2_with (go_at_call 24;refine (aload_any _ c1).mono ?_;rintro en w' ⟨rfl,rfl⟩)
    go_ret2
    rw [HS.out]
    exact ⟨rfl,HH.out⟩
  ·have HS:=Zh (show (⟨t,n⟩:Q).take e 1=(0,n,⟨t,n+1⟩) by rw [HT.out,if_neg (by decide),if_neg h1])
   have H2:=Zh (HH.out.set 0 rfl 1 (.int .i64 (n+1)))
   go_enter Tryz.func87, Tryz.ntmps87
   go_wp2_with (go_at_call 41;refine HA.out.mono ?_;rintro en w' ⟨rfl,rfl⟩)
   go_loopw [] (fun wr=>Hid (w=wr)) (fun _=>0)
   case atStart=>exact Lib.hid' rfl
   case round =>
    obtain rfl:=hrel.out
    go_wp2_with (first | (go_at_call 24;refine (aload_any _ c1).mono ?_;rintro en w' ⟨rfl,rfl⟩) | (go_at_call 106;refine (acas_any _ c1 f1).mono ?_;rintro en w' ⟨rfl,rfl⟩))
    go_ret2
    rw [HS.out]
    exact ⟨rfl,H2.out⟩
 ·rw [errV_pos h0] at HA
  have HS:=Zh (show (⟨t,n⟩:Q).take e 1=(z,0,⟨t,n⟩) by rw [HT.out,if_pos h0])
  go_enter Tryz.func87, Tryz.ntmps87
  go_wp2_with (go_at_call 41;refine HA.out.mono ?_;rintro en w' ⟨rfl,rfl⟩)
  go_ret2
  rw [HS.out,errV_pos h0]
  exact ⟨rfl,HH.out⟩
set_option maxHeartbeats 4000000 in
theorem raise_any {w0 w:World} {F:Nat→Prop} {L:List Asn} {b:Nat} {q:Q} (e n:Int) (h:Sep w0 F (Asn.seq b q::L) w) :
  Calls Tryz.prog 129 #[ptrQ b,.int .i64 e,.int .i64 n] w (SeqR b (q.raise e n).2 (errV (q.raise e n).1) w0 F L):=by
 have HA:=Zh (asks_any e (inB n 1048576) h 0 rfl)
 have HH:=Lib.hid' h
 have c1:=h.cell 0 rfl 1 rfl
 have f1:=h.free 0 rfl 1
 have HL:=Zh (h.lt 0 rfl)
 have HT:=Zh (show q.raise e n=if q.asks e (inB n 1048576)≠0 then (q.asks e (inB n 1048576),q) else (0,⟨q.e,if n≤q.n then q.n else n⟩) from rfl)
 have HI:=Zh (in_any n 1048576 w)
 generalize inB n 1048576=fi at *
 generalize q.asks e fi=z at *
 obtain ⟨t,m⟩:=q
 simp only at c1
 clear h
 by_cases h0:z=0
 ·subst h0
  rw [errV_0] at HA
  by_cases h1:n≤m
  ·have HS:=Zh (show (⟨t,m⟩:Q).raise e n=(0,⟨t,m⟩) by rw [HT.out,if_neg (by decide),if_pos h1])
   go_enter Tryz.func129, Tryz.ntmps129
   go_wp2_with (first | (go_at_call 74;refine HI.out.mono ?_;rintro en w' ⟨rfl,rfl⟩) | (go_at_call 41;refine HA.out.mono ?_;rintro en w' ⟨rfl,rfl⟩))
   go_loopw [] (fun wr=>Hid (w=wr)) (fun _=>0)
   case atStart=>exact Lib.hid' rfl
   case round =>
    obtain rfl:=hrel.out
    go_wp2_with (go_at_call 24;refine (aload_any _ c1).mono ?_;rintro en w' ⟨rfl,rfl⟩)
    go_ret
    rw [HS.out]
    exact ⟨rfl,HH.out⟩
  ·have HS:=Zh (show (⟨t,m⟩:Q).raise e n=(0,⟨t,n⟩) by rw [HT.out,if_neg (by decide),if_neg h1])
   have H2:=Zh (HH.out.set 0 rfl 1 (.int .i64 n))
   go_enter Tryz.func129, Tryz.ntmps129
   go_wp2_with (first | (go_at_call 74;refine HI.out.mono ?_;rintro en w' ⟨rfl,rfl⟩) | (go_at_call 41;refine HA.out.mono ?_;rintro en w' ⟨rfl,rfl⟩))
   go_loopw [] (fun wr=>Hid (w=wr)) (fun _=>0)
   case atStart=>exact Lib.hid' rfl
   case round =>
    obtain rfl:=hrel.out
    go_wp2_with (first | (go_at_call 24;refine (aload_any _ c1).mono ?_;rintro en w' ⟨rfl,rfl⟩) | (go_at_call 106;refine (acas_any _ c1 f1).mono ?_;rintro en w' ⟨rfl,rfl⟩))
    go_ret
    rw [HS.out]
    exact ⟨rfl,H2.out⟩
 ·rw [errV_pos h0] at HA
  have HS:=Zh (show (⟨t,m⟩:Q).raise e n=(z,⟨t,m⟩) by rw [HT.out,if_pos h0])
  go_enter Tryz.func129, Tryz.ntmps129
  go_wp2_with (first | (go_at_call 74;refine HI.out.mono ?_;rintro en w' ⟨rfl,rfl⟩) | (go_at_call 41;refine HA.out.mono ?_;rintro en w' ⟨rfl,rfl⟩))
  go_ret
  rw [HS.out,errV_pos h0]
  exact ⟨rfl,HH.out⟩
end SQ
end Go.Proofs.YtaodldbgikiekaaGreatDoor
