/- Proved here: a part of the proof (6 of 35). -/
import Derived.Test.YtaodldbgikiekaaGreatDoorW2
import Derived.Test.YtaodldbgikiekaaGreatDoorW3
import Derived.Test.YtaodldbgikiekaaGreatDoorW4
import Derived.Test.YtaodldbgikiekaaGreatDoorW1
import Derived.WalkLawsBesides
import Derived.Defers
import Derived.Laws.Pointers
import Derived.Laws.LoneSync
import Derived.RegionTactic
import Derived.RegionCalls
import Derived.ChangeAlike
import Derived.Laws.NewBlocks
import Derived.Test.YtaodldbgikiekaaGreatDoorW5
set_option linter.unusedSimpArgs false
set_option linter.unusedVariables false
set_option maxRecDepth 100000
namespace Go.Proofs.YtaodldbgikiekaaGreatDoor
open Go.RowKit

set_option maxHeartbeats 400000 in
theorem step_any (x:Nat) (hx:x<4294967296) (w:World):Calls Tryz.prog 311 #[.int .u32 x] w fun e w'=>e=.returned (.int .u32 (crcByte x))∧w=w':=by
 go_enter Tryz.func311, Tryz.ntmps311
 go_wp2_with fail
 go_loop [0,4] (fun v0 v4=>∃ k:Nat,v4=.int .i64 k∧k≤8∧v0=.int .u32 (crcBits k x)) (fun _ v4=>8 - (intOf v4).toNat)
 case atStart=>exact ⟨0,rfl,Nat.zero_le _,rfl⟩
 case round =>
  obtain ⟨k,rfl,hk,rfl⟩:=hrel
  have hlt32:=crcBits_lt k hx
  have HS:=Zh (crcBits_succ k x)
  have HE:=Zh (show k=8→crcBits k x=crcByte x from fun h=>by subst h;rfl)
  generalize crcBits k x=y at *
  by_cases hlt:k<8
  ·have HA:=Zh (and1_u32 hlt32)
   have HX:=Zh (show bits .xor .u32 ((y:Int) / 2) 2197175160=((y / 2 ^^^ 2197175160:Nat):Int) from xor_u32 (a:=y / 2) (b:=2197175160) (by omega) (by decide))
   cases hb:(bits BinOp.and IntKind.u32 (y:Int) 1==1) with
   | true =>
    have HV:=Zh (show ((y / 2 ^^^ 2197175160:Nat))=crcBit y by
     unfold crcBit
     have:=HA.out;simp only [beq_iff_eq] at hb;rw [if_pos (by omega)])
    go_wp2_with fail
    go_round
    case rel=>exact ⟨k+1,by go_num,by omega,by rw [HX.out,HV.out,HS.out]⟩
    case measure=>simp [intOf];omega
   | false =>
    have HV:=Zh (show y / 2=crcBit y by
     unfold crcBit
     have:=HA.out;rw [beq_eq_false_iff_ne] at hb;rw [if_neg (by omega)])
    go_wp2_with fail
    go_round
    case rel=>exact ⟨k+1,by go_num,by omega,by rw [HS.out,←HV.out];go_num⟩
    case measure=>simp [intOf];omega
  ·have HF:=Zh (HE.out (by omega))
   go_wp2_with fail
   go_ret
   exact ⟨ret_eq (by rw [←HF.out];rfl),rfl⟩

def tabAt (k:Nat):List Value:=(List.range 256).map (fun j=>.int .u32 ((if j<k then crcByte j else 0:Nat)))
def mkR (d s m:Value) (k:Nat) (q:Value):List Value:=d::s::m::(tabAt k++[q])
theorem zeroMaker:Tryz.zeroCells273=(mkR (.int .u32 0) (.int .i32 0) (.int .u32 0) 0 (.int .i64 0)).toArray:=by kernel_rfl
theorem crcnew_any (w:World):Calls Tryz.prog 134 #[] w fun e w'=>e=.returned (.pointer (some ⟨w.heap.size,0,none⟩))∧BoxW w.heap.size (mkR (.int .u32 0) (.int .i32 0) (.int .u32 0) 0 (.int .i64 0)) 273 w'∧Below w.heap.size w w'∧w'.heap.size=w.heap.size+1:=by
 have HZ:=Lib.hid' zeroMaker
 go_enter Tryz.func134, Tryz.ntmps134
 go_wp2
 go_ret
 refine ⟨rfl,?_,by go_grown,by simp⟩
 rw [HZ.out]
 exact BoxW.start _ _ _
theorem tab_len (k:Nat):(tabAt k).length=256:=by simp [tabAt]
theorem tab_set (k:Nat) (hk:k<256):(tabAt k).set k (.int .u32 (crcByte k:Nat))=tabAt (k+1):=by
 apply List.ext_getElem
 ·simp [tabAt]
 ·intro j h1 h2
  have hj:j<256:=by simpa [tabAt] using h2
  rw [List.getElem_set]
  split
  ·rename_i h;subst h;simp [tabAt]
  ·rename_i h
   simp only [tabAt,List.getElem_map,List.getElem_range]
   by_cases h3:j<k
   ·rw [if_pos h3,if_pos (by omega)]
   ·rw [if_neg h3,if_neg (by omega)]
theorem mkR_set (d s m q:Value) (k:Nat) (hk:k<256):(mkR d s m k q).set (3+k) (.int .u32 (crcByte k:Nat))=mkR d s m (k+1) q:=by
 unfold mkR
 rw [show 3+k=k+1+1+1 from by omega]
 simp only [List.set_cons_succ]
 rw [List.set_append_left _ _ (by rw [tab_len];exact hk),tab_set k hk]
theorem mkR_get (d s m q:Value) (n k:Nat) (hk:k<256):(mkR d s m n q)[3+k]?=some (.int .u32 ((if k<n then crcByte k else 0:Nat))):=by
 unfold mkR
 rw [show 3+k=k+1+1+1 from by omega]
 simp only [List.getElem?_cons_succ]
 rw [List.getElem?_append_left (by rw [tab_len];exact hk)]
 simp [tabAt,hk]

set_option maxHeartbeats 1000000 in
theorem crcfill_any (M:Nat) (d s m q:Value) (w:World) (h:BoxW M (mkR d s m 0 q) 273 w) :
  Calls Tryz.prog 288 #[.pointer (some ⟨M,0,none⟩)] w fun e w'=>e=.returned (.tuple #[])∧BoxW M (mkR d s m 256 q) 273 w'∧Fr (fun k=>k=M) w w':=by
 have HX:=Lib.hid' h
 clear h
 go_enter Tryz.func288, Tryz.ntmps288
 go_wp2_with fail
 go_loopw [3] (fun v3 wr=>∃ k:Nat,v3=.int .i64 k∧k≤256∧Hid (BoxW M (mkR d s m k q) 273 wr)∧Hid (Fr (fun k=>k=M) w wr)) (fun v3 _=>256 - (intOf v3).toNat)
 case atStart=>exact ⟨0,rfl,Nat.zero_le _,HX,Zh (Fr.refl _ _)⟩
 case round =>
  obtain ⟨k,rfl,hk,HB,HF⟩:=hrel
  by_cases hlt:k<256
  ·have c0:=HB.out.box.1 0 _ rfl
   have ck:=HB.out.box.1 _ _ (mkR_get d s m q k k hlt)
   have fk:=HB.out.box.2.1 (3+k)
   have HC:=Zh (step_any k (by omega))
   go_wp2_with fail

   refine wp_region_held_drew (S:=(fun _=>True)) (by kernel_rfl) trivial (fun hH0=>?_)
   refine tA 0 (.pointer (some ⟨M,0,none⟩)) rfl hH0 ?_ ?_
   ·intro w hSw;go_simp
   simp only [Act.put,gA,gZ,gS,sA,sZ,sS]
   refine tA 1 (.int .i64 (k:Int)) rfl hH0 ?_ ?_
   ·intro w hSw;go_simp
   simp only [Act.put,gA,gZ,gS,sA,sZ,sS]
   refine tA 2 (.int .i64 (k:Int)) rfl hH0 ?_ ?_
   ·intro w hSw;go_simp
   simp only [Act.put,gA,gZ,gS,sA,sZ,sS]
   refine tA 3 (.int .u32 (k:Int)) rfl hH0 ?_ ?_
   ·intro w hSw;go_simp;exact wraps_u32 _ (by omega) (by omega)
   simp only [Act.put,gA,gZ,gS,sA,sZ,sS]
   refine wpAnyH_ready (rs:=[4,5]) (by kernel_rfl) (by simp) (AllReadyH.cons (o:=_) rfl (fun K hK=>?_) (AllReadyH.cons (o:=_) rfl (fun K hK=>?_) AllReadyH.nil))
   ·skip
    go_simp
    refine (HC.out wr.drew).mono ?_
    rintro en w5 ⟨rfl,rfl⟩
    refine hK.out _ _ ?_ (fun hH1=>?_)
    ·trivial
    clear hK K
    refine rD 5 rfl (fun K hK=>?_)
    go_simp
    refine hK.out _ _ ?_ (fun hH2=>?_)
    ·trivial
    clear hK K
    refine rD 6 rfl (fun K hK=>?_)
    go_simp
    refine hK.out _ _ ?_ (fun hH3=>?_)
    ·trivial
    clear hK K
    refine rD 7 rfl (fun K hK=>?_)
    go_simp
    refine hK.out _ _ ?_ (fun hH4=>?_)
    ·trivial
    clear hK K
    refine rD 8 rfl (fun K hK=>?_)
    go_simp
    refine hK.out _ _ ?_ (fun hH5=>?_)
    ·trivial
    clear hK K
    refine wpAnyH_done (by kernel_rfl) ?_ _
    have HB2:=Zh (show BoxW M (mkR d s m (k+1) q) 273 (wr.setCell ⟨M,3+k,none⟩ (.int .u32 (crcByte k))).drew by rw [←mkR_set _ _ _ _ _ hlt];exact (HB.out.set (3+k) _).drew)
    have HF2:=Zh (show Fr (fun k=>k=M) w (wr.setCell ⟨M,3+k,none⟩ (.int .u32 (crcByte k))).drew from (HF.out.trans (fr_set wr M (3+k) (.int .u32 (crcByte k))) (fun i hi=>.inl hi)).trans_below (Below.drew (Below.refl _ _)))
    generalize (wr.setCell ⟨M,3+k,none⟩ (.int .u32 (crcByte k))).drew=w2 at *
    go_wp2_with fail
    go_roundw
    case rel=>exact ⟨k+1,by go_num,by omega,HB2,HF2⟩
    case measure=>simp [intOf];omega
   ·skip
    go_simp
    refine hK.out _ _ ?_ (fun hH1=>?_)
    ·trivial
    clear hK K
    refine wpAnyH_ready (rs:=[4,6]) (by kernel_rfl) (by simp) (AllReadyH.cons (o:=_) rfl (fun K hK=>?_) (AllReadyH.cons (o:=_) rfl (fun K hK=>?_) AllReadyH.nil))
    ·skip
     go_simp
     refine (HC.out wr.drew).mono ?_
     rintro en w5 ⟨rfl,rfl⟩
     refine hK.out _ _ ?_ (fun hH2=>?_)
     ·trivial
     clear hK K
     refine rD 6 rfl (fun K hK=>?_)
     go_simp
     refine hK.out _ _ ?_ (fun hH3=>?_)
     ·trivial
     clear hK K
     refine rD 7 rfl (fun K hK=>?_)
     go_simp
     refine hK.out _ _ ?_ (fun hH4=>?_)
     ·trivial
     clear hK K
     refine rD 8 rfl (fun K hK=>?_)
     go_simp
     refine hK.out _ _ ?_ (fun hH5=>?_)
     ·trivial
     clear hK K
     refine wpAnyH_done (by kernel_rfl) ?_ _
     have HB2:=Zh (show BoxW M (mkR d s m (k+1) q) 273 (wr.setCell ⟨M,3+k,none⟩ (.int .u32 (crcByte k))).drew by rw [←mkR_set _ _ _ _ _ hlt];exact (HB.out.set (3+k) _).drew)
     have HF2:=Zh (show Fr (fun k=>k=M) w (wr.setCell ⟨M,3+k,none⟩ (.int .u32 (crcByte k))).drew from (HF.out.trans (fr_set wr M (3+k) (.int .u32 (crcByte k))) (fun i hi=>.inl hi)).trans_below (Below.drew (Below.refl _ _)))
     generalize (wr.setCell ⟨M,3+k,none⟩ (.int .u32 (crcByte k))).drew=w2 at *
     go_wp2_with fail
     go_roundw
     case rel=>exact ⟨k+1,by go_num,by omega,HB2,HF2⟩
     case measure=>simp [intOf];omega
    ·skip
     go_simp
     refine hK.out _ _ ?_ (fun hH2=>?_)
     ·trivial
     clear hK K
     refine rD 4 rfl (fun K hK=>?_)
     go_simp
     refine (HC.out wr.drew).mono ?_
     rintro en w5 ⟨rfl,rfl⟩
     refine hK.out _ _ ?_ (fun hH3=>?_)
     ·trivial
     clear hK K
     refine rD 7 rfl (fun K hK=>?_)
     go_simp
     refine hK.out _ _ ?_ (fun hH4=>?_)
     ·trivial
     clear hK K
     refine rD 8 rfl (fun K hK=>?_)
     go_simp
     refine hK.out _ _ ?_ (fun hH5=>?_)
     ·trivial
     clear hK K
     refine wpAnyH_done (by kernel_rfl) ?_ _
     have HB2:=Zh (show BoxW M (mkR d s m (k+1) q) 273 (wr.setCell ⟨M,3+k,none⟩ (.int .u32 (crcByte k))).drew by rw [←mkR_set _ _ _ _ _ hlt];exact (HB.out.set (3+k) _).drew)
     have HF2:=Zh (show Fr (fun k=>k=M) w (wr.setCell ⟨M,3+k,none⟩ (.int .u32 (crcByte k))).drew from (HF.out.trans (fr_set wr M (3+k) (.int .u32 (crcByte k))) (fun i hi=>.inl hi)).trans_below (Below.drew (Below.refl _ _)))
     generalize (wr.setCell ⟨M,3+k,none⟩ (.int .u32 (crcByte k))).drew=w2 at *
     go_wp2_with fail
     go_roundw
     case rel=>exact ⟨k+1,by go_num,by omega,HB2,HF2⟩
     case measure=>simp [intOf];omega

  ·obtain rfl:k=256:=by omega
   go_wp2_with fail
   go_end0
   exact ⟨rfl,HB.out,HF.out⟩

theorem race_disable (w:World):(callFunc 337 #[]).run Tryz.prog w=.ok (.value (.tuple #[])) w:=run_call_mark0 Tryz.func337 (by kernel_rfl) (by kernel_rfl) (by kernel_rfl) .disable (by kernel_rfl) w
theorem race_enable (w:World):(callFunc 339 #[]).run Tryz.prog w=.ok (.value (.tuple #[])) w:=run_call_mark0 Tryz.func339 (by kernel_rfl) (by kernel_rfl) (by kernel_rfl) .enable (by kernel_rfl) w
theorem race_acquire (a:Addr) (w:World):(callFunc 340 #[.pointer (some a)]).run Tryz.prog w=.ok (.value (.tuple #[])) w:=run_call_marked Tryz.func340 (by kernel_rfl) (by kernel_rfl) (by kernel_rfl) .acquire (by kernel_rfl) a w
theorem race_release (a:Addr) (w:World):(callFunc 342 #[.pointer (some a)]).run Tryz.prog w=.ok (.value (.tuple #[])) w:=run_call_marked Tryz.func342 (by kernel_rfl) (by kernel_rfl) (by kernel_rfl) .releaseMerge (by kernel_rfl) a w
theorem once_store (a:Addr) (x:Value) (u:FrameMode) (w:World) (hc:w.cell? a=some x) (hz:w.frozen? a=false) :
  CallsD Tryz.prog 329 #[.pointer (some a),.bool true] u w fun e u' w'=>u'=u∧(e=.returned (.tuple #[])∧w'=w.drew.setCell a (.int .u32 1)):=by
 have hc':w.drew.cell? a=some x:=by go_simp
 have hz':w.drew.frozen? a=false:=by go_simp
 have hst:=run_call_store (P:=Tryz.prog) Tryz.func335 (by kernel_rfl) (by kernel_rfl) (by kernel_rfl) (by kernel_rfl) (k:=.u32) (y:=1) hc' hz'
 go_enter_d Tryz.func329,Tryz.ntmps329
 go_wp2
 go_region_calls
 all_goals (go_end0;exact ⟨rfl,rfl⟩)
theorem once_unlock (a:Addr) (u:FrameMode) (w:World) (hc:w.cell? a=some (.int .i32 1)) (hz:w.frozen? a=false) :
  CallsD Tryz.prog 328 #[.pointer (some a)] u w fun e u' w'=>u'=u∧(e=.returned (.tuple #[])∧w'=w.setCell a (.int .i32 0)):=by
 have hd:=race_disable
 have he:=race_enable
 have hr:=race_release
 have hadd:=run_call_add (P:=Tryz.prog) Tryz.func343 (by kernel_rfl) (by kernel_rfl) (by kernel_rfl) .i32 (by kernel_rfl) (y:=-1) (s:=0) hc hz (by simp [go_sem];rfl)
 have hcv:=run_convert_to_unsafe (P:=Tryz.prog) (src:=408) (dst:=366) Tryz.underlying408 Tryz.underlying366 (by kernel_rfl) hc
 go_enter_d Tryz.func328,Tryz.ntmps328
 go_wp2
 go_end0
 go_wp2
theorem once_lock (a:Addr) (w:World) (hc:w.cell? a=some (.int .i32 0)) (hz:w.frozen? a=false) :
  Calls Tryz.prog 327 #[.pointer (some a)] w fun e w'=>e=.returned (.tuple #[])∧w'=w.setCell a (.int .i32 1):=by
 have hd:=race_disable
 have he:=race_enable
 have ha:=race_acquire
 have hcas:=run_call_cas_hit (P:=Tryz.prog) Tryz.func338 (by kernel_rfl) (by kernel_rfl) (by kernel_rfl) .i32 (by kernel_rfl) (y:=1) hc hz
 have hc':(w.setCell a (.int .i32 1)).cell? a=some (.int .i32 1):=World.cell?_setCell_same w a _ hc
 have hcv:=run_convert_to_unsafe (P:=Tryz.prog) (src:=408) (dst:=366) Tryz.underlying408 Tryz.underlying366 (by kernel_rfl) hc'
 go_enter Tryz.func327,Tryz.ntmps327
 go_wp2
 first | go_end0 | (simp only [Exit.inBlock,Exit.then];refine bodyPost_ret (results_none rfl _ _ _) rfl ?_) | refine bodyPost_ret (results_none rfl _ _ _) rfl ?_
 go_wp2
theorem once_load (a:Addr) (d:Int) (w:World) (h0:w.cell? a=some (.int .u32 d)) :
  Calls Tryz.prog 309 #[.pointer (some a)] w fun e w'=>e=.returned (.bool (d != 0))∧w=w':=by
 have hl:=run_call_load (P:=Tryz.prog) Tryz.func326 (by kernel_rfl) (by kernel_rfl) (by kernel_rfl) .u32 (by kernel_rfl) h0
 go_enter Tryz.func309, Tryz.ntmps309
 go_wp2
 go_ret
 exact ⟨rfl,rfl⟩

theorem mkR_0 (d d' s m q:Value) (k:Nat):(mkR d s m k q).set 0 d'=mkR d' s m k q:=rfl
theorem mkR_1 (d s s' m q:Value) (k:Nat):(mkR d s m k q).set 1 s'=mkR d s' m k q:=rfl
set_option maxHeartbeats 1600000 in
theorem once_slow (M:Nat) (m q:Value) (w:World) (h:BoxW M (mkR (.int .u32 0) (.int .i32 0) m 0 q) 273 w) :
  Calls Tryz.prog 310 #[.pointer (some ⟨M,0,none⟩),.func (.func 288) #[.pointer (some ⟨M,0,none⟩)] #[]] w
   fun e w'=>e=.returned (.tuple #[])∧BoxW M (mkR (.int .u32 1) (.int .i32 0) m 256 q) 273 w'∧Fr (fun k=>k=M) w w':=by
 have HX:=Lib.hid' h
 have c1:=h.box.1 1 _ rfl
 have f1:=h.box.2.1 1
 clear h
 have hcf:∀ args w,(callFunc 288 args).run Tryz.prog w=.ok (.enter 288 args) w:=fun _ _=>by kernel_rfl
 go_enter_defers Tryz.func310,Tryz.ntmps310
 go_wp2_with fail
 refine (once_lock ⟨M,1,none⟩ w c1 f1).mono ?_
 rintro e w1 ⟨rfl,hw1⟩
 have HX1:=Zh (show BoxW M (mkR (.int .u32 0) (.int .i32 1) m 0 q) 273 w1 by rw [hw1,←mkR_1 (.int .u32 0) (.int .i32 0)];exact HX.out.set 1 _)
 have HF1:=Zh (show Fr (fun k=>k=M) w w1 by rw [hw1];exact fr_set _ _ _ _)
 clear hw1 c1 f1
 have c0:=HX1.out.box.1 0 _ rfl
 go_wp2_with fail
 refine (once_load ⟨M,0,none⟩ 0 w1 c0).mono ?_
 rintro e w2 ⟨rfl,rfl⟩
 go_wp2_with fail
 refine (crcfill_any M _ _ m q w1 HX1.out).mono ?_
 rintro e w2 ⟨rfl,hx2,hf2⟩
 have HX2:=Lib.hid' hx2
 have HF2:=Zh (HF1.out.trans hf2 (fun i hi=>.inl hi))
 clear hx2 hf2 c0
 go_wp2_with fail
 have c0:=HX2.out.box.1 0 _ rfl
 have f0:=HX2.out.box.2.1 0
 refine leaves_cons (f:=329) (args:=#[.pointer (some ⟨M,0,none⟩),.bool true]) (by simp) (by simp [go_sem]) ?_
 refine (once_store ⟨M,0,none⟩ (.int .u32 0) .returning _ c0 f0).mono ?_
 rintro e u' w3 ⟨rfl,rfl,hw3⟩
 have HX3:=Zh (show BoxW M (mkR (.int .u32 1) (.int .i32 1) m 256 q) 273 w3 by rw [hw3,←mkR_0 (.int .u32 0) (.int .u32 1)];exact HX2.out.drew.set 0 _)
 have HF3:=Zh (show Fr (fun k=>k=M) w w3 by rw [hw3];exact (HF2.out.trans_below (Below.drew (Below.refl _ _))).trans (fr_set _ _ _ _) (fun i hi=>.inl hi))
 clear hw3 c0 f0
 have c1:=HX3.out.box.1 1 _ rfl
 have f1:=HX3.out.box.2.1 1
 refine leaves_cons (f:=328) (args:=#[.pointer (some ⟨M,1,none⟩)]) (by simp [settle]) (by simp [go_sem]) ?_
 refine (once_unlock ⟨M,1,none⟩ _ _ c1 f1).mono ?_
 rintro e u' w4 ⟨rfl,rfl,hw4⟩
 have HX4:=Zh (show BoxW M (mkR (.int .u32 1) (.int .i32 0) m 256 q) 273 w4 by rw [hw4,←mkR_1 (.int .u32 1) (.int .i32 1)];exact HX3.out.set 1 _)
 have HF4:=Zh (show Fr (fun k=>k=M) w w4 by rw [hw4];exact HF3.out.trans (fr_set _ _ _ _) (fun i hi=>.inl hi))
 clear hw4 c1 f1
 simp [Leaves,settle,results,Tryz.results310]
 exact ⟨HX4.out,HF4.out⟩
set_option maxHeartbeats 1600000 in
theorem once_do (M:Nat) (m q:Value) (w:World) (h:BoxW M (mkR (.int .u32 0) (.int .i32 0) m 0 q) 273 w) :
  Calls Tryz.prog 287 #[.pointer (some ⟨M,0,none⟩),.func (.func 288) #[.pointer (some ⟨M,0,none⟩)] #[]] w
   fun e w'=>e=.returned (.tuple #[])∧BoxW M (mkR (.int .u32 1) (.int .i32 0) m 256 q) 273 w'∧Fr (fun k=>k=M) w w':=by
 have HX:=Lib.hid' h
 have c0:=h.box.1 0 _ rfl
 clear h
 go_enter Tryz.func287, Tryz.ntmps287
 go_wp2_with fail
 refine (once_load ⟨M,0,none⟩ 0 w c0).mono ?_
 rintro e w2 ⟨rfl,rfl⟩
 go_wp2_with fail
 refine (once_slow M m q w HX.out).mono ?_
 rintro e w2 ⟨rfl,hx2,hf2⟩
 have HX2:=Lib.hid' hx2
 have HF2:=Lib.hid' hf2
 clear hx2 hf2 c0
 go_wp2_with fail
 go_end0
 exact ⟨rfl,HX2.out,HF2.out⟩

theorem mkR_no (d:Int) (s:Int) (m:Int) (k:Nat) (q:Int) (b:UInt8):byteV b∉mkR (.int .u32 d) (.int .i32 s) (.int .u32 m) k (.int .i64 q):=by
 unfold mkR byteV tabAt
 simp
theorem tab_in (d s m q:Value) {k:Nat} (hk:k<256):(mkR d s m 256 q)[3+k]?=some (.int .u32 (crcByte k:Nat)):=by
 rw [mkR_get d s m q 256 k hk,if_pos hk]
theorem not_u32 {x:Nat} (h:x<4294967296):bits .xor .u32 IntKind.u32.max (x:Int)=((crcNot x:Nat):Int):=by
 have:=xor_u32 (a:=4294967295) (b:=x) (by decide) h
 rw [show IntKind.u32.max=((4294967295:Nat):Int) from by decide,this]
 unfold crcNot;rw [Nat.xor_comm]
theorem tab_idx {x:Nat} (hx:x<4294967296) (c:UInt8):∃ i:Nat,i<256∧bits .xor .u8 ((x:Int) % 256) (c.toNat:Int)=(i:Int)∧bits .xor .u32 ((crcByte i:Nat):Int) ((x:Int) / 256)=((crcTab x c:Nat):Int):=by
 have hc:=c.toNat_lt
 refine ⟨(x % 256) ^^^ c.toNat,?_,?_,?_⟩
 ·have:=@Nat.xor_lt_two_pow (x % 256) c.toNat 8 (by omega) (by simpa using hc);simpa using this
 ·exact xor_u8 (a:=x % 256) (b:=c.toNat) (by omega) (by omega)
 ·have hb:crcByte ((x % 256) ^^^ c.toNat)<4294967296:=crcBits_lt 8 (by
   have:=@Nat.xor_lt_two_pow (x % 256) c.toNat 32 (by omega) (by omega);simpa using this)
  exact xor_u32 (a:=crcByte ((x % 256) ^^^ c.toNat)) (b:=x / 256) hb (by omega)
set_option maxHeartbeats 1600000 in
theorem extend_any (M:Nat) (m q:Int) (s:Nat) (hs:s<4294967296) (a:Option Addr) (c:Nat) (b:List UInt8) (w:World) (h:BoxW M (mkR (.int .u32 0) (.int .i32 0) (.int .u32 m) 0 (.int .i64 q)) 273 w) (hb:Bytes w (.slice a b.length c) b) :
  Calls Tryz.prog 265 #[.pointer (some ⟨M,0,none⟩),.int .u32 s,.slice a b.length c] w
   fun e w'=>e=.returned (.int .u32 (crcOf s b))∧BoxW M (mkR (.int .u32 1) (.int .i32 0) (.int .u32 m) 256 (.int .i64 q)) 273 w'∧Fr (fun k=>k=M) w w':=by
 have HX:=Lib.hid' h
 have HB:=Lib.hid' hb
 have hlen:b.length≤9223372036854775807:=by obtain ⟨_,_,he,h1,h2,_⟩:=hb;cases he;unfold maxLen at h2;omega
 have c0:=h.box.1 0 _ rfl
 clear h hb
 go_enter Tryz.func265, Tryz.ntmps265
 go_wp2_with fail
 refine (once_do M _ _ w HX.out).mono ?_
 rintro e w1 ⟨rfl,hx1,hf1⟩
 have HX1:=Lib.hid' hx1
 have HF1:=Lib.hid' hf1
 have HB1:=Zh (show Bytes w1 (.slice a b.length c) b from HX.out.bytes (fun x=>mkR_no _ _ _ _ _ x) HB.out hf1)
 clear hx1 hf1 c0
 go_wp2_with fail
 rw [not_u32 hs]
 have hfs:=crcNot_lt hs
 go_loopw [7,26] (fun v7 v26 wr=>∃ k:Nat,v26=.int .i64 k∧k≤b.length∧v7=.int .u32 (((b.take k).foldl crcRef (crcNot s):Nat):Int)∧wr=w1) (fun _ v26 _=>b.length - (intOf v26).toNat)
 case atStart=>exact ⟨0,rfl,Nat.zero_le _,rfl,rfl⟩
 case round =>
  obtain ⟨k,rfl,hk,rfl,rfl⟩:=hrel
  have hx:=crcFold_lt (b.take k) hfs
  by_cases hlt:k<b.length
  ·obtain ⟨bb,off,rfl,hbb,hc⟩:=SlV.row (f:=fun x:UInt8=>[byteV x]) (s:=1) (fun _=>rfl) (by decide) (show SlV wr (.slice a b.length c) b.length (b.flatMap fun x=>[byteV x]) from by rw [←map_one];exact HB1.out) hlt
   have c1:=hc 0 _ rfl
   simp only [Nat.mul_one,Nat.add_zero,byteV] at c1
   have HT:=Zh (show (b.take (k+1)).foldl crcRef (crcNot s)=crcTab ((b.take k).foldl crcRef (crcNot s)) b[k] by
    rw [List.take_succ_eq_append_getElem hlt,List.foldl_append,crc_same];rfl)
   clear hc
   generalize b[k]=y at *
   generalize (b.take k).foldl crcRef (crcNot s)=x at *
   obtain ⟨i,hi,e1,e2⟩:=tab_idx hx y
   have ck:=HX1.out.box.1 _ _ (tab_in (.int .u32 1) (.int .i32 0) (.int .u32 m) (.int .i64 q) hi)
   have hyl:=y.toNat_lt
   have c0:=HX1.out.box.1 0 _ rfl
   go_wp2_with fail
   go_roundw
   case rel=>exact ⟨k+1,by go_num,by omega,by rw [HT.out],trivial⟩
   case measure=>simp [intOf];omega
  ·obtain rfl:k=b.length:=by omega
   have HF:=Zh (show crcOf s b=crcNot ((b.take b.length).foldl crcRef (crcNot s)) by rw [List.take_length];rfl)
   generalize (b.take b.length).foldl crcRef (crcNot s)=x at *
   have hn:=not_u32 hx
   go_wp2_with fail
   go_ret
   exact ⟨ret_eq (by rw [HF.out];rfl),HX1.out,HF1.out⟩
theorem ask_any (M:Nat) (d s m:Value) (k:Nat) (w:World) (h:BoxW M (mkR d s m k (.int .i64 0)) 273 w) :
  Calls Tryz.prog 264 #[.pointer (some ⟨M,0,none⟩)] w fun e w'=>e=.returned (.tuple #[])∧BoxW M (mkR d s m k (.int .i64 1)) 273 w'∧Fr (fun k=>k=M) w w':=by
 have HX:=Lib.hid' h
 have hq:(mkR d s m k (.int .i64 0))[259]?=some (.int .i64 0):=by
  unfold mkR
  simp only [List.getElem?_cons_succ]
  rw [List.getElem?_append_right (by rw [tab_len];decide),tab_len];rfl
 have hs:(mkR d s m k (.int .i64 0)).set 259 (.int .i64 1)=mkR d s m k (.int .i64 1):=by
  unfold mkR
  simp only [List.set_cons_succ]
  rw [List.set_append_right _ _ (by rw [tab_len];decide),tab_len];rfl
 have HS:=Lib.hid' hs
 have cq:=h.box.1 _ _ hq
 have fq:=h.box.2.1 259
 have c0:=h.box.1 0 _ rfl
 have hadd:=run_call_add (P:=Tryz.prog) Tryz.func137 (by kernel_rfl) (by kernel_rfl) (by kernel_rfl) .i64 (by kernel_rfl) (y:=1) (s:=1) cq fq (by simp [go_sem];rfl)
 clear h hq hs
 go_enter Tryz.func264, Tryz.ntmps264
 go_wp2
 first | go_end0 | skip
 exact ⟨rfl,by rw [←HS.out];exact HX.out.set 259 _,fr_set _ _ _ _⟩

/-- a row of the call's own is handed back; F: what else was written -/
def OwnRF (B e size n:Nat) (xs:List Value) (F:Nat→Prop) (w:World) (en:Ending) (w':World):Prop:=∃ a c,en=.returned (.slice a n c)∧w'.ownsRow B e size (.slice a n c) n xs∧Fr F w w'
def freshR:List Value:=mkR (.int .u32 0) (.int .i32 0) (.int .u32 0) 0 (.int .i64 0)
theorem fr2 {M:Nat} {a b c:World} (h:Fr (fun k=>k=M) a b) (k:Fr (fun k=>k=M) b c):Fr (fun k=>k=M) a c:=h.trans k (fun i hi=>.inl hi)
set_option maxHeartbeats 1000000 in
theorem extendM_any (M:Nat) (a:Option Addr) (c:Nat) (b:List UInt8) (w:World) (h:BoxW M freshR 273 w) (hb:Bytes w (.slice a b.length c) b) :
  Calls Tryz.prog 236 #[.pointer (some ⟨M,0,none⟩),.int .u32 0,.slice a b.length c] w fun e w'=>e=.returned (.int .u32 (crcOf 0 b))∧Fr (fun k=>k=M) w w':=by
 have HX:=Lib.hid' h
 have HB:=Lib.hid' hb
 clear h hb
 go_enter Tryz.func236, Tryz.ntmps236
 go_wp2_with fail
 refine (ask_any M _ _ _ 0 w HX.out).mono ?_
 rintro e w1 ⟨rfl,hx1,hf1⟩
 have HX1:=Lib.hid' hx1
 have HF1:=Lib.hid' hf1
 have HB1:=Zh (show Bytes w1 (.slice a b.length c) b from HX.out.bytes (fun x=>mkR_no _ _ _ _ _ x) HB.out hf1)
 clear hx1 hf1
 go_wp2_with fail
 refine (extend_any M 0 1 0 (by decide) a c b w1 HX1.out HB1.out).mono ?_
 rintro e w2 ⟨rfl,hx2,hf2⟩
 have HF2:=Zh (fr2 HF1.out hf2)
 clear hx2 hf2
 go_wp2
 go_ret
 exact ⟨rfl,HF2.out⟩
set_option maxHeartbeats 1000000 in
theorem sum_any (M:Nat) (a:Option Addr) (c:Nat) (b:List UInt8) (w:World) (h:BoxW M freshR 273 w) (hb:Bytes w (.slice a b.length c) b) :
  Calls Tryz.prog 185 #[.pointer (some ⟨M,0,none⟩),.slice a b.length c] w fun e w'=>e=.returned (.int .u32 (crcOf 0 b))∧Fr (fun k=>k=M) w w':=by
 have HX:=Lib.hid' h
 have HB:=Lib.hid' hb
 clear h hb
 go_enter Tryz.func185, Tryz.ntmps185
 go_wp2_with fail
 refine (extendM_any M a c b w HX.out HB.out).mono ?_
 rintro e w2 ⟨rfl,hf2⟩
 have HF2:=Lib.hid' hf2
 clear hf2
 go_wp2
 go_ret
 exact ⟨rfl,HF2.out⟩
theorem four_any (x:Nat) (hx:x<4294967296) (w:World):Calls Tryz.prog 184 #[.int .u32 x] w (OwnR w.heap.size 5 1 4 (byteVs (four x)) w):=by
 go_enter Tryz.func184, Tryz.ntmps184
 go_wp2
 go_ret
 refine ⟨_,_,rfl,?_,by go_grown⟩
 have:=slv_alloc w (byteVs (four x)) 4 5 (by decide) rfl
 have e:byteVs (four x)=[.int .u8 ((x:Int) / 16777216),.int .u8 ((x:Int) / 65536 % 256),.int .u8 ((x:Int) / 256 % 256),.int .u8 ((x:Int) % 256)]:=by
  simp [byteVs,four,byteV]
  omega
 rw [e] at this ⊢
 exact this

set_option maxHeartbeats 1000000 in
theorem sealed_any (M:Nat) (a:Option Addr) (c:Nat) (b:List UInt8) (w:World) (h:BoxW M freshR 273 w) (hb:Bytes w (.slice a b.length c) b) (hl:b.length≤1048576) :
  Calls Tryz.prog 135 #[.pointer (some ⟨M,0,none⟩),.slice a b.length c] w (OwnRF w.heap.size 5 1 (b++four (crcOf 0 b)).length (byteVs (b++four (crcOf 0 b))) (fun k=>k=M) w):=by
 have HX:=Lib.hid' h
 have HB:=Lib.hid' hb
 have hcr:=crcOf_lt (s:=0) (by decide) b
 clear h hb
 go_enter Tryz.func135, Tryz.ntmps135
 go_wp2_with fail
 refine (sum_any M a c b w HX.out HB.out).mono ?_
 rintro e w1 ⟨rfl,hf1⟩
 have HF1:=Lib.hid' hf1
 have HB1:=Zh (show Bytes w1 (.slice a b.length c) b from HX.out.bytes (fun x=>mkR_no _ _ _ _ _ x) HB.out hf1)
 have hz1:=hf1.size
 clear hf1
 obtain ⟨x,hx⟩:∃ x,crcOf 0 b=x:=⟨_,rfl⟩
 rw [hx] at hcr ⊢
 have HXE:=Lib.hid' hx
 clear hx
 go_wp2_with fail
 refine (four_any x hcr w1).mono ?_
 rintro e w2 ⟨a2,c2,rfl,ho2,hb2⟩
 have HF2:=Zh (HF1.out.trans_below hb2)
 have HB2:=Zh (show Bytes w2 (.slice a b.length c) b from SlV.below HB1.out (Nat.le_refl _) hb2)
 have HO2:=Lib.hid' ho2
 have hz2:=hb2.size
 clear ho2 hb2
 go_wp2_with fail
 have hg:Below w2.heap.size w2 (w2.alloc (.cells #[.slice a b.length c,.slice a2 4 c2] 26)):=by go_grown
 have HCH:=Zh (show Cbs (w2.alloc (.cells #[.slice a b.length c,.slice a2 4 c2] 26)) (some ⟨w2.heap.size,0,none⟩) 2 [(b,a,c),(four x,a2,c2)] from
  ⟨SlV.of_own (slv_alloc w2 [.slice a b.length c,.slice a2 4 c2] 2 26 (by decide) rfl),fun y hy=>by
   simp only [List.mem_cons,List.not_mem_nil,or_false] at hy
   rcases hy with rfl | rfl
   ·exact SlV.below HB2.out (Nat.le_refl _) hg
   ·exact SlV.below (SlV.of_own HO2.out) (Nat.le_refl _) hg⟩)
 have hfb:flatB [(b,a,c),(four x,a2,c2)]=b++four x:=by simp [flatB]
 have hcc:=concatB_any [(b,a,c),(four x,a2,c2)] (some ⟨w2.heap.size,0,none⟩) 2 _ HCH.out (by rw [hfb];simp [four_length];omega)
 rw [hfb] at hcc
 have HG:=Zh (HF2.out.trans_below hg)
 clear hg hfb
 refine hcc.mono ?_
 rintro e w3 ⟨a3,c3,rfl,ho3,hb3⟩
 have HO3:=Zh (own_base (B':=w.heap.size) ho3 (by simp;omega))
 have HF3:=Zh (HG.out.trans_below hb3)
 clear ho3 hb3 hcc
 obtain ⟨r,hr⟩:∃ r,b++four x=r:=⟨_,rfl⟩
 have HR:=Zh (show b++four (crcOf 0 b)=r by rw [HXE.out];exact hr)
 rw [hr] at HO3 ⊢
 clear hr
 go_wp2
 go_ret
 exact ⟨a3,c3,ret_eq (by rw [HR.out];rfl),by rw [HR.out];exact HO3.out,HF3.out⟩
end Go.Proofs.YtaodldbgikiekaaGreatDoor
