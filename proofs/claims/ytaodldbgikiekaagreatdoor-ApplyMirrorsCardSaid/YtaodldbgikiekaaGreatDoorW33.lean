/- Proved here: a part of the proof (33 of 35). -/
import Derived.Test.YtaodldbgikiekaaGreatDoorW32
import Derived.Test.YtaodldbgikiekaaGreatDoorW12
import Derived.Test.YtaodldbgikiekaaGreatDoorStrL
import Derived.Laws.MakeOwn
import Derived.Laws.CopyRow
import Derived.Test.YtaodldbgikiekaaGreatDoorW7
import Derived.Test.YtaodldbgikiekaaGreatDoorW31
import Derived.Test.YtaodldbgikiekaaGreatDoorW27
import Derived.Laws.LoneSync
import Derived.IntWalk
import Derived.Deep.RegionLaw
import Derived.Lib.SliceRun
import Derived.Deep.DeepCutAuto
import Derived.Deep.CutBlock
set_option linter.unusedSimpArgs false
set_option linter.unusedVariables false
set_option maxRecDepth 100000
namespace Go.Proofs.YtaodldbgikiekaaGreatDoor
open Go.RowKit
namespace SL
open DK SH SQ
/-- a reader, as a part of memory: what is left lay there at W -/
def _root_.Go.Proofs.YtaodldbgikiekaaGreatDoor.Asn.rdr (W:World) (b:Nat) (r:RD):Asn where
 holds:=fun w=>∃ a c,BoxW b [.slice a r.rest.length c,errV r.bad] 279 w∧Bytes W (.slice a r.rest.length c) r.rest∧DLow a r.rest.length b
 foot:=fun k=>k=b
 lt:=fun _ h k e=>by obtain ⟨a,c,h1,_⟩:=h;subst e;exact h1.lt
 keep:=fun w w' h k=>by obtain ⟨a,c,h1,h2⟩:=h;exact ⟨a,c,(k b rfl).trans h1,h2⟩
theorem rat_low {W:World} {b n:Nat} {a:Option Addr} {c:Nat} {l:List UInt8} {p:Addr} {j:Nat} {u:Value} (h3:DLow a l.length b) (hu:(byteVs l)[j]?=some u) (hp:a=some p):p.block<b:=by
 refine h3 (fun h0=>?_) p hp
 rw [List.eq_nil_of_length_eq_zero h0] at hu
 simp [byteVs] at hu
theorem rat_to {W w:World} {b:Nat} {r:RD} (hf:Fr (fun k=>k=b) W w) (h:(Asn.rdr W b r).holds w):RAt w b r:=by
 obtain ⟨a,c,h1,h2,h3⟩:=h
 refine ⟨a,c,h1,?_,h3⟩
 obtain ⟨a',c',he,k1,k2,k0,k3⟩:=h2
 cases he
 refine ⟨_,_,rfl,k1,k2,k0,fun j u hu=>?_⟩
 obtain ⟨p,hp,hc⟩:=k3 j u hu
 refine ⟨p,hp,hf.cell hc (fun h=>?_)⟩
 have h4:=rat_low (W:=W) (n:=0) (c:=0) h3 hu hp
 rw [add_block] at h;omega
theorem rat_from {W w:World} {b:Nat} {r:RD} (hb:b<W.heap.size) (hf:Fr (fun k=>k=b) W w) (h:RAt w b r):(Asn.rdr W b r).holds w:=by
 obtain ⟨a,c,h1,h2,h3⟩:=h
 refine ⟨a,c,h1,?_,h3⟩
 obtain ⟨a',c',he,k1,k2,k0,k3⟩:=h2
 cases he
 refine ⟨_,_,rfl,k1,k2,k0,fun j u hu=>?_⟩
 obtain ⟨p,hp,hc⟩:=k3 j u hu
 refine ⟨p,hp,?_⟩
 have h4:=rat_low (W:=W) (n:=0) (c:=0) h3 hu hp
 rw [←hc]
 exact (World.cell?_of_block (w:=W) (hf.block _ (by rw [add_block];omega) (by rw [add_block];omega))).symm
theorem _root_.Go.Proofs.YtaodldbgikiekaaGreatDoor.Sep.rat {W w:World} {b:Nat} {r:RD} {L:List Asn} (h:Sep W (fun k=>k=b) L w) (i:Nat) (hi:L[i]?=some (Asn.rdr W b r)):RAt w b r:=rat_to h.fr (h.at i hi)
theorem _root_.Go.Proofs.YtaodldbgikiekaaGreatDoor.Sep.rdcall {W w w':World} {b:Nat} {r r':RD} {L:List Asn} (h:Sep W (fun k=>k=b) L w) (hb:b<W.heap.size) (i:Nat) (hi:L[i]?=some (Asn.rdr W b r)) (hr:RAt w' b r') (hf:Fr (fun k=>k=b) w w'):Sep W (fun k=>k=b) (Asn.rdr W b r'::L.eraseIdx i) w' :=
 (h.focus i hi).fr1 (A:=Asn.rdr W b r) (B:=Asn.rdr W b r') hf (rat_from hb (h.fr.trans hf (fun i hi=>.inl hi)) hr) (fun b hb=>.inr hb)
theorem _root_.Go.Proofs.YtaodldbgikiekaaGreatDoor.Sep.rdrow {W w w':World} {b:Nat} {r r':RD} {L:List Asn} (h:Sep W (fun k=>k=b) L w) (hb:b<W.heap.size) (i:Nat) (hi:L[i]?=some (Asn.rdr W b r)) (hr:RAt w' b r') (hf:Fr (fun k=>k=b) w w') {e size n:Nat} {v:Value} {xs:List Value} (ho:w'.ownsRow w.heap.size e size v n xs):Sep W (fun k=>k=b) (.row e size v n xs::Asn.rdr W b r'::L.eraseIdx i) w':=by
 refine (h.focus i hi).call (A:=Asn.rdr W b r) (K:=[.row e size v n xs,Asn.rdr W b r']) ⟨hf,?_,?_,?_⟩
 ·simp only [List.mem_cons,List.not_mem_nil,or_false]
  rintro A (rfl | rfl)
  ·exact own_base ho (Nat.zero_le _)
  ·exact rat_from hb (h.fr.trans hf (fun i hi=>.inl hi)) hr
 ·simp only [List.pairwise_cons,List.mem_singleton,forall_eq,List.not_mem_nil,false_implies,implies_true,List.Pairwise.nil,and_true]
  intro k hb1 hb2
  have h1:=(own_blk ho hb1).1
  have h2:k=b:=hb2
  have h3:=h.fr.size
  omega
 ·simp only [List.mem_cons,List.not_mem_nil,or_false]
  rintro A (rfl | rfl) k hb
  ·exact .inl (own_blk ho hb).1
  ·exact .inr hb
theorem i64_n (n:Nat) (h:n≤1000):IntKind.i64.wrap ((n:Nat):Int)=((n:Nat):Int):=by rw [IntKind.wrap_i64];omega
def pat (x:Value) (j:Nat):List Value:=(List.replicate j [x,Value.slice none 0 0]).flatten
theorem pat_len (x:Value) (j:Nat):(pat x j).length=j*2:=by
 induction j with
 | zero=>rfl
 | succ j ih=>unfold pat at *;rw [List.replicate_succ,List.flatten_cons,List.length_append,ih];simp;omega
theorem pat_add (x:Value) (i j:Nat):pat x (i+j)=pat x i++pat x j:=by unfold pat;rw [←List.replicate_append_replicate,List.flatten_append]
theorem pat_one (x:Value) (j:Nat) (h:x.oneCell'=true):∀ u∈pat x j,u.oneCell'=true:=by
 induction j with
 | zero=>simp [pat]
 | succ j ih =>
  intro u hu
  rw [show j+1=j+1 from rfl,pat_add] at hu
  rcases List.mem_append.1 hu with hu | hu
  ·exact ih u hu
  ·simp [pat] at hu
   rcases hu with rfl | rfl
   ·exact h
   ·rfl
theorem made_pat (n:Nat):madeCells #[.int .i64 0,.slice none 0 0] (n*2)=(pat (.int .i64 0) n).toArray:=by
 apply Array.toList_inj.1
 induction n with
 | zero=>simp [madeCells,pat]
 | succ n ih =>
  rw [pat_add]
  unfold madeCells at *
  rw [show (n+1)*2=n*2+1+1 by omega,Array.range_succ,Array.range_succ,Array.map_append,Array.map_append,Array.toList_append,Array.toList_append,ih]
  simp [pat,Nat.add_mod]
theorem run_copy_row2 {P:Program} (w:World) (dT sT ty elem:TypeId) (g o dLen dCap:Nat) (a:Addr) (sLen sCap:Nat) (cur:Array Value) (t:TypeId) (cs:List Value) (m:Nat)
  (hu:P.underlying dT=some (.slice elem)) (hs:(P.info? elem).map (·.size)=some 2)
  (hg:w.heap[g]?=some (.cells cur t (0,0))) (hm:Nat.min sLen dLen=m) (hn:cs.length=m*2)
  (hsrc:∀ j v,cs[j]?=some v→w.cell? (a.add j)=some v) (hfit:o+cs.length≤cur.size) (h1:∀ v∈cs,v.oneCell'=true) :
  (Builtin.copy_ #[dT,sT] ty #[.slice (some ⟨g,o,none⟩) dLen dCap,.slice (some a) sLen sCap]).run P w =
   .ok (goInt m) (w.setRow g (cur.toList.take o++cs++cur.toList.drop (o+cs.length)).toArray):=by
 have hl:=run_loadCells_list (P:=P) w a cs hsrc
 have hst:=run_storeCells_at P g o t cs 0 cur w hg (by simpa using hfit) h1
 cases hq:P.info? elem with
 | none=>simp [hq] at hs
 | some i =>
  have hi:i.size=2:=by simpa [hq] using hs
  rw [hn] at hl
  simp [Builtin.copy_,run_underlying hu,Builtin.lenOf,Builtin.firstCells,sizeOf,typeInfo,hq,hi,hm,hl,hst]
theorem mul1_any (n:Nat) (hn:n≤1000) (w:World):Calls Tryz.prog 231 #[.int .u64 1,.int .u64 n] w fun e w'=>e=.returned (.tuple #[.int .u64 0,.int .u64 n])∧w=w':=by
 have h:=Any.bits_Mul { Tryz.repS with } 1 n (by omega) (by omega) w
 rw [show 1*n / 18446744073709551616=0 by omega,show 1*n % 18446744073709551616=n by omega] at h
 change Calls Tryz.prog 231 _ _ _ at h
 exact h.mono fun e w' ⟨a,b⟩=>⟨a,b.symm⟩
theorem copy_pat {w0 w:World} {F:Nat→Prop} {L:List Asn} {N:Nat} (x:Value) (hx:x.oneCell'=true) (j m n:Nat) (hm:m≤j) (hn:j+m≤n) (H:Sep w0 F (.box N (pat x j++pat (.int .i64 0) (n - j)) 28::L) w) :
  ((pat x j++pat (.int .i64 0) (n - j)).toArray.toList.take (j*2)++pat x m++(pat x j++pat (.int .i64 0) (n - j)).toArray.toList.drop (j*2+(pat x m).length))=pat x (j+m)++pat (.int .i64 0) (n - (j+m)):=by
 rw [List.take_left' (pat_len x j),pat_add x j m]
 congr 1
 rw [show n - j=m+(n - (j+m)) by omega,pat_add,←List.append_assoc]
 exact List.drop_left' (by rw [List.length_append,pat_len,pat_len,pat_len])
set_option maxHeartbeats 8000000 in
theorem repeatC_any {w0:World} {F:Nat→Prop} {L:List Asn} {N:Nat} (kd:Int) (n:Nat) (hn:1≤n∧n≤64) (w:World) (H:Sep w0 F (.box N [.int .i64 kd,.slice none 0 0] 28::L) w) :
  Calls Tryz.prog 189 #[.slice (some ⟨N,0,none⟩) 1 1,.int .i64 n] w fun e w'=>∃ N1,e=.returned (.slice (some ⟨N1,0,none⟩) n n)∧Sep w0 F (.row 28 2 (.slice (some ⟨N1,0,none⟩) n n) n (pat (.int .i64 kd) n)::.box N [.int .i64 kd,.slice none 0 0] 28::L) w':=by
 have HS:=Lib.hid' H
 have HM:=Zh (fun w=>mul1_any n (by omega) w)
 have u0:=u64_b n (by omega)
 obtain ⟨i0,z0,hi0,hz0,hz1,hz2,_⟩:=etCells.info
 have hzc:z0=.agg #[.int .i64 0,.slice none 0 0]:=by
  have:=hi0.symm.trans (show Tryz.prog.info? 28=some _ from rfl)
  cases this
  exact (Option.some.inj (hz0.symm.trans rfl))
 have hmk:=run_makeSlice (P:=Tryz.prog) w 62 28 i0 z0 etCells.under hi0 hz0 .i64 .i64 n n (by omega) (Int.le_refl _) (by rw [hz1,Int.toNat_natCast];omega) (by rw [hz2];omega) (by omega)
 rw [hz1,hzc,Int.toNat_natCast,show (Value.agg #[.int .i64 0,.slice none 0 0]).cells=#[.int .i64 0,.slice none 0 0] from rfl,made_pat] at hmk
 have H1:=Zh (H.allocAt w.heap.size (pat (.int .i64 0) n) 28 rfl)
 clear H hi0 hz0 hz1 hz2 hzc
 obtain ⟨w1,hw1⟩:∃ w1,w.alloc (.cells (pat (.int .i64 0) n).toArray 28)=w1:=⟨_,rfl⟩
 rw [hw1] at hmk H1
 obtain ⟨N1,hN1⟩:∃ N1,w.heap.size=N1:=⟨_,rfl⟩
 rw [hN1] at hmk H1
 have hc1:=run_copy_row2 (P:=Tryz.prog) w1 62 62 3 28 N1 0 n n ⟨N,0,none⟩ 1 1 (pat (.int .i64 0) n).toArray 28 (pat (.int .i64 kd) 1) 1 etCells.under (by kernel_rfl) (H1.out.box 0 rfl) (by show min 1 n=1;omega) (pat_len _ _) (fun j v hj=>by
  rw [Addr.add_lit,Nat.zero_add];exact H1.out.cell 1 rfl j hj) (by rw [List.size_toArray,pat_len,pat_len];omega) (pat_one _ _ rfl)
 rw [show ((pat (.int .i64 0) n).toArray.toList.take 0++pat (.int .i64 kd) 1++(pat (.int .i64 0) n).toArray.toList.drop (0+(pat (.int .i64 kd) 1).length))=pat (.int .i64 kd) 1++pat (.int .i64 0) (n - 1) by
  rw [List.take_zero,List.nil_append]
  congr 1
  rw [pat_len]
  show (pat (.int .i64 0) n).drop _=_
  conv=>lhs;rw [show n=1+(n - 1) by omega,pat_add]
  exact List.drop_left' (pat_len _ _)] at hc1
 have H2:=Zh (H1.out.setRow 0 rfl (pat (.int .i64 kd) 1++pat (.int .i64 0) (n - 1)))
 obtain ⟨w2,hw2⟩:∃ w2,w1.setRow N1 (pat (.int .i64 kd) 1++pat (.int .i64 0) (n - 1)).toArray=w2:=⟨_,rfl⟩
 rw [hw2] at hc1 H2
 have hn1:(1:Int)≤n:=by omega
 have hnn:¬(n:Int)<0:=by omega
 clear H1 hw1 hN1 hw2
 go_enter Tryz.func189, Tryz.ntmps189
 go_wp2_with fail
 refine (HM.out w).mono ?_
 rintro en wz ⟨rfl,rfl⟩
 have u1:=i64_n n (by omega)
 go_wp2_with fail
 clear hmk hc1 u0 u1 hnn HM
 go_loopw [8] (fun v8 wr=>∃ j:Nat,v8=.int .i64 j∧1≤j∧j≤n∧Hid (Sep w0 F (.box N1 (pat (.int .i64 kd) j++pat (.int .i64 0) (n - j)) 28::.box N [.int .i64 kd,.slice none 0 0] 28::L) wr)) (fun v8 _=>n - (intOf v8).toNat)
 case atStart=>exact ⟨1,rfl,Nat.le_refl _,hn.1,H2⟩
 case round =>
  clear H2 HS
  obtain ⟨j,rfl,hj1,hj,HJ⟩:=hrel
  by_cases hlt:j<n
  ·obtain ⟨m,hm⟩:∃ m,m=min j (n - j):=⟨_,rfl⟩
   have hm1:1≤m∧m≤j∧m≤n - j:=by omega
   have HM:=Lib.hid' hm
   have hjm:=i64_n (j+m) (by omega)
   rw [Int.natCast_add] at hjm
   have H3:=Lib.hid' HJ.out.drew
   have hcp:=run_copy_row2 (P:=Tryz.prog) wr.drew 62 62 3 28 N1 (j*2) (n - j) (n - j) ⟨N1,0,none⟩ j n _ 28 (pat (.int .i64 kd) m) m etCells.under (by kernel_rfl) (H3.out.box 0 rfl) (by show min j (n - j)=m;exact HM.out.symm) (pat_len _ _) (fun u v hu=>by
    rw [Addr.add_lit,Nat.zero_add]
    refine H3.out.cell 0 rfl u ?_
    have hul:=(List.getElem?_eq_some_iff.1 hu).1
    rw [pat_len] at hul
    rw [List.getElem?_append_left (by rw [pat_len];omega),show j=m+(j - m) by omega,pat_add,List.getElem?_append_left (by rw [pat_len];omega)]
    exact hu) (by rw [List.size_toArray,List.length_append,pat_len,pat_len,pat_len];omega) (pat_one _ _ rfl)
   rw [copy_pat (.int .i64 kd) rfl j m n (by omega) (by omega) H3.out] at hcp
   have H4:=Zh (H3.out.setRow 0 rfl (pat (.int .i64 kd) (j+m)++pat (.int .i64 0) (n - (j+m))))
   have hjn:¬n=j:=by omega
   have hj2:j≤n:=hj
   have hlt2:(j:Int)<n:=by omega
   have hl3:N1<wr.heap.size:=HJ.out.lt 0 rfl
   obtain ⟨w4,hw4⟩:∃ w4,wr.drew.setRow N1 (pat (.int .i64 kd) (j+m)++pat (.int .i64 0) (n - (j+m))).toArray=w4:=⟨_,rfl⟩
   rw [hw4] at hcp H4
   have hl4:N1<w4.heap.size:=H4.out.lt 0 rfl
   clear HJ H3 hw4 hm
   go_upto_region 9 with fail
   refine startD (S:=(fun w'=>N1<w'.heap.size)) (by kernel_rfl) hl3 (fun hH0=>?_)
   simp only [List.length_cons,List.length_nil,Nat.reduceAdd,List.replicate_succ,List.replicate_zero]
   refine tD 0 38 (.int .i64 (j:Int)) rfl rfl [(8,.int .i64 (j:Int))] hH0 ?_
   dsimp only [sZ,sS]
   refine tD 1 39 (.slice (some ⟨N1,0,none⟩) n n) rfl rfl [(7,.slice (some ⟨N1,0,none⟩) n n)] hH0 ?_
   dsimp only [sZ,sS]
   refine tD 2 40 (.int .i64 (j:Int)) rfl rfl [(8,.int .i64 (j:Int))] hH0 ?_
   dsimp only [sZ,sS]
   refine tD 3 41 (.slice (some ⟨N1,j*2,none⟩) (n - j) (n - j)) rfl rfl [(39,.slice (some ⟨N1,0,none⟩) n n),(40,.int .i64 (j:Int))] hH0 ?_
   dsimp only [sZ,sS]
   refine tD 4 42 (.slice (some ⟨N1,0,none⟩) n n) rfl rfl [(7,.slice (some ⟨N1,0,none⟩) n n)] hH0 ?_
   dsimp only [sZ,sS]
   refine tD 5 43 (.int .i64 (j:Int)) rfl rfl [(8,.int .i64 (j:Int))] hH0 ?_
   dsimp only [sZ,sS]
   refine tD 6 44 (.slice (some ⟨N1,0,none⟩) j n) rfl rfl [(42,.slice (some ⟨N1,0,none⟩) n n),(43,.int .i64 (j:Int))] hH0 ?_
   dsimp only [sZ,sS]
   refine rD 7 rfl (fun K hK=>?_)
   go_simp
   refine hK.out _ _ ?_ (fun hH1=>?_)
   ·exact hl4
   clear hK K
   try simp only [Act.put,gA,gZ,gS,sA,sZ,sS]
   refine tD 8 46 (.int .i64 ((j:Int)+m)) rfl rfl [(38,.int .i64 (j:Int)),(45,.int .i64 (m:Int))] hH1 ?_
   dsimp only [sZ,sS]
   refine tD 9 8 (.int .i64 ((j:Int)+m)) rfl rfl [(46,.int .i64 ((j:Int)+m))] hH1 ?_
   dsimp only [sZ,sS]
   refine wpAnyH_done (by kernel_rfl) ?_ _
   go_wp2_with fail
   go_roundw
   case rel=>exact ⟨j+m,by go_num,by omega,by omega,H4⟩
   case measure=>simp [intOf];omega
  ·go_wp2_with fail
   go_ret
   obtain rfl:j=n:=by omega
   refine ⟨N1,rfl,HJ.out.turn (B:=.row 28 2 (.slice (some ⟨N1,0,none⟩) j j) j (pat (.int .i64 kd) j)) ?_ (fun b hb=>by
    have:some N1=some b:=hb
    exact (Option.some.inj this).symm)⟩
   have hbx:BoxW N1 (pat (.int .i64 kd) j++pat (.int .i64 0) (j - j)) 28 wr:=HJ.out.box 0 rfl
   rw [Nat.sub_self,show pat (.int .i64 0) 0=[] from rfl,List.append_nil] at hbx
   exact ⟨pat_len _ _,.inr ⟨N1,j,(pat (.int .i64 kd) j).toArray,rfl,Nat.zero_le _,hbx,Nat.le_refl _,by unfold maxLen;omega,by rw [List.size_toArray,pat_len],by rw [←pat_len (.int .i64 kd) j];exact List.take_length⟩⟩
theorem pat_cells (kd:Int) (n:Nat):pat (.int .i64 kd) n=(List.replicate n (⟨⟨kd,[]⟩,none,0⟩:CE)).flatMap ceV:=by
 unfold pat
 rw [List.flatMap_def,List.map_replicate]
 rfl
/-- a taker in memory: cells so far, how many are to come, the last text, the kind of the row just ahead; what its reader has left -/
def TkAt (W:World) (b N:Nat) (X:List CE) (left:Nat) (last:List UInt8) (kd:Int) (r:RD) (w:World):Prop:=∃ oa ok la lk,
 Sep W (fun k=>k=b) [.box N [ptrV b,.slice oa X.length ok,.int .i64 left,.slice la last.length lk,.int .i64 kd] 229,ceR X oa ok,Asn.all (X.map ceA),Asn.rdr W b r] w ∧
 ((la=none∧lk=0∧last=[])∨∃ x∈X,x.a=la∧x.k=lk∧x.c.d=last)
theorem rdr_more {W w:World} {b:Nat} {X:List CE} {Y:List CE} {L:List Asn} (hY:∀ y∈Y,y.c.d=[]∧y.a=none∧y.k=0) (h:Sep W (fun k=>k=b) (Asn.all (X.map ceA)::L) w):Sep W (fun k=>k=b) (Asn.all ((X++Y).map ceA)::L) w:=by
 induction Y generalizing X with
 | nil=>simpa using h
 | cons y Y ih =>
  have h1:=hY y List.mem_cons_self
  have h2:Sep W (fun k=>k=b) (Asn.all ((X++[y]).map ceA)::L) w:=by
   refine Sep.push (f:=ceA) (Ks:=X) (y:=y) (Sep.swap1 ?_)
   have h3:=h.nilRow 5 1
   refine Sep.swap1 ?_
   obtain ⟨⟨yk,yd⟩,ya,yc⟩:=y
   obtain ⟨rfl,rfl,rfl⟩:=h1
   exact h3
  have:=ih (X:=X++[y]) (fun z hz=>hY z (List.mem_cons_of_mem _ hz)) h2
  rwa [List.append_assoc] at this
theorem last_bytes {W w:World} {b:Nat} {X:List CE} {L:List Asn} {last:List UInt8} {la:Option Addr} {lk:Nat} (h:Sep W (fun k=>k=b) L w) (i:Nat) (hi:L[i]?=some (Asn.all (X.map ceA))) (hl:(la=none∧lk=0∧last=[])∨∃ x∈X,x.a=la∧x.k=lk∧x.c.d=last):Bytes w (.slice la last.length lk) last:=by
 rcases hl with ⟨rfl,rfl,rfl⟩ | ⟨x,hx,rfl,rfl,rfl⟩
 ·exact bytes_nil w
 ·exact SlV.of_own (Sep.one ceA h i hi hx)
set_option maxHeartbeats 8000000 in
theorem trow_any {W:World} {b N:Nat} {X:List CE} {left:Nat} {last:List UInt8} {kd:Int} (n kk:Nat) (tail:List UInt8) (w:World) (hb:b<W.heap.size) (h:TkAt W b N X left last kd ⟨vbs [kk]++tail,0⟩ w) (hn:1≤n∧n≤left) (hl:left≤64) (hX:X.length≤64) (hk:kk≤3) (h1:kk≠1) (h2:(kk:Int)≠kd) :
  Calls Tryz.prog 144 #[ptrV N,.int .u64 n] w fun e w'=>e=.returned (.tuple #[])∧TkAt W b N (X++List.replicate n ⟨⟨kk,[]⟩,none,0⟩) (left - n) last kk ⟨tail,0⟩ w':=by
 obtain ⟨oa,ok,la,lk,h0,hla⟩:=h
 have H:=Lib.hid' h0
 have HLA:=Lib.hid' hla
 have hwi:=within_r_any b ⟨vbs [kk]++tail,0⟩ 3 (by omega) w (h0.rat 3 rfl)
 rw [show (⟨vbs [kk]++tail,0⟩:RD).within 3=(kk,⟨tail,0⟩) by
  rw [show vbs [kk]=vb kk by simp [vbs]];exact RD.within_put kk 3 hk (by omega) tail] at hwi
 have HW:=Lib.hid' hwi
 have g0:=h0.cell 0 rfl 0 rfl;have g2:=h0.cell 0 rfl 2 rfl;have gl:=h0.lt 0 rfl
 have u0:=u64_b left (by omega)
 have t1:¬left<n:=by omega
 have t0:decide ((left:Int)<(n:Int))=false:=by simp;omega
 have q1:((kk:Int)==1)=false:=by rw [beq_eq_false_iff_ne];omega
 have q2:((kk:Int)==kd)=false:=by rw [beq_eq_false_iff_ne];exact h2
 have HN:=Lib.hid' hn
 have HBB:=Lib.hid' hb
 have u1:=i64_n n (by omega)
 clear h0 hla hwi hn hk h1 h2 hb
 go_enter Tryz.func144, Tryz.ntmps144
 go_wp2_with fail
 refine HW.out.mono ?_
 clear HW
 rintro en w2 ⟨rfl,hr2,hf2⟩
 have H2:=Zh (H.out.rdcall HBB.out 3 rfl hr2 hf2)
 clear hr2 hf2 H g0 g2 gl u0 t0 t1
 have HE:=Zh (err_any b ⟨tail,0⟩ w2 (H2.out.rat 0 rfl))
 have g0:=H2.out.cell 1 rfl 0 rfl;have g4:=H2.out.cell 1 rfl 4 rfl;have gl:=H2.out.lt 1 rfl
 go_wp2_with fail
 refine HE.out.mono ?_
 clear HE
 rintro en wz ⟨rfl,rfl⟩
 rw [errV_0]
 clear g0 g4 gl q1 q2
 go_upto_region 6 with fail
 have gl:=H2.out.lt 1 rfl
 have H3:=Lib.hid' H2.out.drew
 clear H2
 refine startD (S:=(fun w'=>N<w'.heap.size)) (by kernel_rfl) gl (fun hH0=>?_)
 simp only [List.length_cons,List.length_nil,Nat.reduceAdd,List.replicate_succ,List.replicate_zero]
 generalize w2.drew=w3 at *
 clear gl
 have gl:=H3.out.lt 1 rfl;have q49:=H3.out.cell 1 rfl 1 rfl
 refine tD 0 45 (.pointer (some ⟨N,0,none⟩)) rfl rfl [(0,.pointer (some ⟨N,0,none⟩))] hH0 ?_
 dsimp only [sZ,sS]
 refine tD 1 46 (.pointer (some ⟨N,0,none⟩)) rfl rfl [(0,.pointer (some ⟨N,0,none⟩))] hH0 ?_
 dsimp only [sZ,sS]
 refine tD 2 47 (.pointer (some ⟨N,0,none⟩)) rfl rfl [(46,.pointer (some ⟨N,0,none⟩))] hH0 ?_
 dsimp only [sZ,sS]
 refine tD 3 48 (.pointer (some ⟨N,1,none⟩)) rfl rfl [(47,.pointer (some ⟨N,0,none⟩))] hH0 ?_
 dsimp only [sZ,sS]
 refine tD 5 50 (.int .i64 (kk:Int)) rfl rfl [(4,.int .i64 (kk:Int))] hH0 ?_
 dsimp only [sZ,sS]
 refine tD 6 51 (.agg #[.int .i64 (kk:Int),.slice none 0 0]) rfl rfl [(50,.int .i64 (kk:Int))] hH0 ?_
 dsimp only [sZ,sS]
 refine tD 8 53 (.int .u64 (n:Int)) rfl rfl [(1,.int .u64 (n:Int))] hH0 ?_
 dsimp only [sZ,sS]
 refine tD 9 54 (.int .i64 (n:Int)) rfl rfl [(53,.int .u64 (n:Int))] hH0 ?_
 dsimp only [sZ,sS]
 refine wpAnyH_ready (rs:=[4,7]) (by kernel_rfl) (by simp) (AllReadyH.cons (o:=_) rfl (fun K hK=>?g1) (AllReadyH.cons (o:=_) rfl (fun K hK=>?g2) AllReadyH.nil))
 case' g1 =>
  go_simp
  refine hK.out _ _ ?_ (fun hH1=>?_)
  ·exact gl
  clear hK K
  try simp only [Act.put,gA,gZ,gS,sA,sZ,sS]
  refine rD 7 rfl (fun K hK=>?_)
  go_simp
  have HA:=H3.out.allocAt w3.heap.size [.int .i64 (kk:Int),.slice none 0 0] 28 rfl
  refine hK.out _ _ ?_ (fun hH2=>?_)
  ·exact HA.lt 2 rfl
  clear hK K
  try simp only [Act.put,gA,gZ,gS,sA,sZ,sS]
  refine rD 10 rfl (fun K hK=>?_)
  go_simp
  refine (repeatC_any (kk:Int) n ⟨HN.out.1,by have:=HN.out.2;omega⟩ _ HA).mono ?_
  rintro en w6 ⟨N1,rfl,H6⟩
  refine hK.out _ _ ?_ (fun hH3=>?_)
  ·exact H6.lt 3 rfl
  clear hK K
  try simp only [Act.put,gA,gZ,gS,sA,sZ,sS]
  clear HA q49 gl
 case' g2 =>
  go_simp
  have HA:=H3.out.allocAt w3.heap.size [.int .i64 (kk:Int),.slice none 0 0] 28 rfl
  refine hK.out _ _ ?_ (fun hH1=>?_)
  ·exact HA.lt 2 rfl
  clear hK K
  try simp only [Act.put,gA,gZ,gS,sA,sZ,sS]
  refine wpAnyH_ready (rs:=[4,10]) (by kernel_rfl) (by simp) (AllReadyH.cons (o:=_) rfl (fun K hK=>?g3) (AllReadyH.cons (o:=_) rfl (fun K hK=>?g4) AllReadyH.nil))
  case' g3 =>
   have q49:=HA.cell 2 rfl 1 rfl;have gl:=HA.lt 2 rfl
   go_simp
   refine hK.out _ _ ?_ (fun hH2=>?_)
   ·exact gl
   clear hK K
   try simp only [Act.put,gA,gZ,gS,sA,sZ,sS]
   refine rD 10 rfl (fun K hK=>?_)
   go_simp
   refine (repeatC_any (kk:Int) n ⟨HN.out.1,by have:=HN.out.2;omega⟩ _ HA).mono ?_
   rintro en w6 ⟨N1,rfl,H6⟩
   refine hK.out _ _ ?_ (fun hH3=>?_)
   ·exact H6.lt 3 rfl
   clear hK K
   try simp only [Act.put,gA,gZ,gS,sA,sZ,sS]
   clear HA q49 gl
  case' g4 =>
   go_simp
   refine (repeatC_any (kk:Int) n ⟨HN.out.1,by have:=HN.out.2;omega⟩ _ HA).mono ?_
   rintro en w6 ⟨N1,rfl,H6⟩
   refine hK.out _ _ ?_ (fun hH2=>?_)
   ·exact H6.lt 3 rfl
   clear hK K
   try simp only [Act.put,gA,gZ,gS,sA,sZ,sS]
   refine rD 4 rfl (fun K hK=>?_)
   have q49:=H6.cell 3 rfl 1 rfl;have gl:=H6.lt 3 rfl
   go_simp
   refine hK.out _ _ ?_ (fun hH3=>?_)
   ·exact gl
   clear hK K
   try simp only [Act.put,gA,gZ,gS,sA,sZ,sS]
   clear HA q49 gl
 all_goals
  skip
  refine rD 11 rfl (fun K hK=>?_)
  refine Sep.appendSlStep etCells rfl (.tmp 49) (.tmp 55) rfl H6 4 rfl rfl n (pat (.int .i64 (kk:Int)) n) _ rfl (SlV.of_own (H6.row 0 rfl)) (pat_len _ _) (pat_one _ _ rfl) (by have:=HN.out;omega) ?_
  intro a7 c7 w7 h7
  refine hK.out _ _ ?_ (fun hH4=>?_)
  ·exact h7.lt 4 rfl
  clear hK K
  try simp only [Act.put,gA,gZ,gS,sA,sZ,sS]
  refine tD 12 57 (.pointer (some ⟨N,0,none⟩)) rfl rfl [(45,.pointer (some ⟨N,0,none⟩))] hH4 ?_
  dsimp only [sZ,sS]
  refine tD 13 58 (.pointer (some ⟨N,1,none⟩)) rfl rfl [(57,.pointer (some ⟨N,0,none⟩))] hH4 ?_
  dsimp only [sZ,sS]
  refine rD 14 rfl (fun K hK=>?_)
  have h8:=h7.set 4 rfl 1 (.slice a7 (X.length+n) c7)
  have p1:=h7.cell 4 rfl 1 rfl;have pf:=h7.free 4 rfl 1;have pl:=h7.lt 4 rfl
  go_simp
  refine hK.out _ _ ?_ (fun hH5=>?_)
  ·exact h8.lt 0 rfl
  clear hK K
  refine wpAnyH_done (by kernel_rfl) ?_ _
  have H7:=Zh (h8.pick [0,1,5,4] (by decide) (L':=[.box N [ptrV b,.slice a7 (X.length+n) c7,.int .i64 (left:Int),.slice la last.length lk,.int .i64 kd] 229,.row 28 2 (.slice a7 (X.length+n) c7) (X.length+n) (X.flatMap ceV++pat (.int .i64 (kk:Int)) n),Asn.all (X.map ceA),Asn.rdr W b ⟨tail,0⟩]) rfl)
  clear h8 H6
  generalize w7.setCell ⟨N,1,none⟩ (.slice a7 (X.length+n) c7)=w8 at *
  have g2:=H7.out.cell 0 rfl 2 rfl;have f2:=H7.out.free 0 rfl 2;have f4:=H7.out.free 0 rfl 4;have g4:=H7.out.cell 0 rfl 4 rfl;have gl:=H7.out.lt 0 rfl
  have H8:=Zh ((H7.out.set 0 rfl 2 (.int .i64 ((left:Int) - (n:Int)))).set 0 rfl 4 (.int .i64 (kk:Int)))
  have hnl:=HN.out
  go_wp2_with fail
  go_end0
  refine ⟨rfl,a7,c7,la,lk,?_,?_⟩
  ·have h9:=rdr_more (Y:=List.replicate n (⟨⟨(kk:Int),[]⟩,none,0⟩:CE)) (fun y hy=>by rw [(List.mem_replicate.1 hy).2];exact ⟨rfl,rfl,rfl⟩) (H8.out.focus 2 rfl)
   have h10:=h9.pick [1,2,0,3] (by decide) (L':=[_,_,_,_]) rfl
   unfold ceR
   rw [List.length_append,List.length_replicate,List.flatMap_append,←pat_cells,show (((left - n:Nat):Int))=(left:Int) - (n:Int) by omega]
   exact h10
  ·rcases HLA.out with h | ⟨x,hx,r⟩
   ·exact .inl h
   ·exact .inr ⟨x,List.mem_append_left _ hx,r⟩
set_option maxHeartbeats 8000000 in
theorem tdata_any {W:World} {b N:Nat} {X:List CE} {left:Nat} {last:List UInt8} {kd:Int} (d:List UInt8) (tail:List UInt8) (w:World) (hb:b<W.heap.size) (h:TkAt W b N X left last kd ⟨vbs [d.length,alikeN last d]++(d.drop (alikeN last d)++tail),0⟩ w) (hl:1≤left∧left≤64) (hX:X.length≤64) (hd:d.length≤64) :
  Calls Tryz.prog 145 #[ptrV N] w fun e w'=>e=.returned (.tuple #[])∧∃ a k,TkAt W b N (X++[⟨⟨1,d⟩,a,k⟩]) (left - 1) d 1 ⟨tail,0⟩ w':=by
 obtain ⟨oa,ok,la,lk,h0,hla⟩:=h
 have H:=Lib.hid' h0
 have HLA:=Lib.hid' hla
 have hle:=alikeN_le last d
 have HTK:=Zh (show last.take (alikeN last d)++d.drop (alikeN last d)=d by rw [alikeN_self,List.take_append_drop])
 have HALI:=Zh (fun (a b:Option Addr) (c e:Nat) (wq:World) (h1:Bytes wq (.slice a last.length c) last) (h2:Bytes wq (.slice b d.length e) d)=>alike_any last d a b c e wq h1 h2)
 generalize alikeN last d=s at *
 have hn1:(⟨vbs [d.length,s]++(d.drop s++tail),0⟩:RD).num=(d.length,⟨vb s++(d.drop s++tail),0⟩):=by
  rw [show vbs [d.length,s]++(d.drop s++tail)=vb d.length++(vb s++(d.drop s++tail)) by simp [vbs]]
  exact RD.num_put _ (by omega) _
 have hn2:(⟨vb s++(d.drop s++tail),0⟩:RD).num=(s,⟨d.drop s++tail,0⟩):=RD.num_put _ (by omega) _
 have hfx:(⟨d.drop s++tail,0⟩:RD).fixed (d.length - s)=(d.drop s,⟨tail,0⟩):=by
  unfold RD.fixed
  have hdl:(d.drop s).length=d.length - s:=List.length_drop
  rw [if_neg (by simp),if_neg (by rw [List.length_append,hdl];omega)]
  simp only
  rw [List.take_left' hdl,List.drop_left' hdl]
 have hnu1:=fun wq hq=>number_any b ⟨vbs [d.length,s]++(d.drop s++tail),0⟩ wq hq
 rw [hn1] at hnu1
 have hnu2:=fun wq hq=>number_any b ⟨vb s++(d.drop s++tail),0⟩ wq hq
 rw [hn2] at hnu2
 have hfi:=fun wq hq=>fixed_any b ⟨d.drop s++tail,0⟩ (d.length - s) (by omega) wq hq
 rw [hfx] at hfi
 have HN1:=Lib.hid' hnu1
 have HN2:=Lib.hid' hnu2
 have HFI:=Lib.hid' hfi
 have g0:=h0.cell 0 rfl 0 rfl;have gl:=h0.lt 0 rfl
 have HBB:=Lib.hid' hb
 clear h0 hla hn1 hn2 hfx hnu1 hnu2 hfi hb
 go_enter Tryz.func145, Tryz.ntmps145
 go_wp2_with fail
 refine (HN1.out _ (H.out.rat 3 rfl)).mono ?_
 clear HN1
 rintro en w2 ⟨rfl,hr2,hf2⟩
 have H2:=Zh (H.out.rdcall HBB.out 3 rfl hr2 hf2)
 clear hr2 hf2 H g0 gl
 have g0:=H2.out.cell 1 rfl 0 rfl;have gl:=H2.out.lt 1 rfl
 have t1:decide ((64:Int)<(d.length:Int))=false:=by simp;omega
 go_wp2_with fail
 refine (HN2.out _ (H2.out.rat 0 rfl)).mono ?_
 clear HN2
 rintro en w3 ⟨rfl,hr3,hf3⟩
 have H3:=Zh (H2.out.rdcall HBB.out 0 rfl hr3 hf3)
 clear hr3 hf3 H2 g0 gl t1
 have g0:=H3.out.cell 1 rfl 0 rfl;have g3:=H3.out.cell 1 rfl 3 rfl;have gl:=H3.out.lt 1 rfl
 have u3:=u64_b last.length (by have:=bytes_len (last_bytes H3.out 3 rfl HLA.out);omega)
 have t2:decide (min (d.length:Int) (last.length:Int)<(s:Int))=false:=by simp;omega
 have HE3:=Zh (err_any b ⟨d.drop s++tail,0⟩ w3 (H3.out.rat 0 rfl))
 go_wp2_with fail
 refine HE3.out.mono ?_
 clear HE3
 rintro en wz ⟨rfl,rfl⟩
 rw [errV_0]
 clear u3 t2 g0 g3 gl
 have u4:IntKind.u64.wrap ((d.length:Int) - (s:Int))=((d.length - s:Nat):Int):=by rw [show (d.length:Int) - (s:Int)=((d.length - s:Nat):Int) by omega];exact u64_b _ (by omega)
 have u5:=i64_n (d.length - s) (by omega)
 go_upto_region 7 with fail
 have H4:=Lib.hid' H3.out.drew
 have hlk:¬lk<s:=by
  have h1:=last_bytes H3.out 3 rfl HLA.out
  obtain ⟨_,_,he,h2,_⟩:=h1;cases he;omega
 clear H3
 have HB4:=Zh (H4.out.box 1 rfl)
 have HTL:=Zh (show (last.take s).length=s by rw [List.length_take];omega)
 have HDL:=Zh (show (d.drop s).length=d.length - s from List.length_drop)
 have HBV:=Zh (show (byteVs (d.drop s)).length=d.length - s by simp [byteVs])
 have HAP:=Zh (show byteVs (last.take s)++byteVs (d.drop s)=byteVs d by rw [←byteVs_append,HTK.out])
 refine startD (S:=(fun w'=>BoxW N [ptrV b,.slice oa X.length ok,.int .i64 (left:Int),.slice la last.length lk,.int .i64 kd] 229 w')) (by kernel_rfl) HB4.out (fun hH0=>?_)
 simp only [List.length_cons,List.length_nil,Nat.reduceAdd,List.replicate_succ,List.replicate_zero]
 generalize w3.drew=w4 at *
 refine tD 0 45 (.pointer (some ⟨N,0,none⟩)) rfl rfl [(0,.pointer (some ⟨N,0,none⟩))] hH0 ?_
 dsimp only [sZ,sS]
 refine tE 1 46 (.pointer (some ⟨N,0,none⟩)) rfl rfl [(45,.pointer (some ⟨N,0,none⟩))] hH0 ?_ ?_
 ·intro w hSw;have gl:=hSw.lt;go_simp
 dsimp only [sZ,sS]
 refine tD 2 47 (.pointer (some ⟨N,3,none⟩)) rfl rfl [(46,.pointer (some ⟨N,0,none⟩))] hH0 ?_
 dsimp only [sZ,sS]
 refine tE 3 48 (.slice la last.length lk) rfl rfl [(47,.pointer (some ⟨N,3,none⟩))] hH0 ?_ ?_
 ·intro w hSw;have q3:=hSw.box.1 3 _ rfl;have gl:=hSw.lt;go_simp
 dsimp only [sZ,sS]
 refine tD 4 49 (.int .u64 (s:Int)) rfl rfl [(3,.int .u64 (s:Int))] hH0 ?_
 dsimp only [sZ,sS]
 refine tD 5 50 (.slice la s lk) rfl rfl [(48,.slice la last.length lk),(49,.int .u64 (s:Int))] hH0 ?_
 dsimp only [sZ,sS]
 refine tD 7 52 (.pointer (some ⟨N,0,none⟩)) rfl rfl [(0,.pointer (some ⟨N,0,none⟩))] hH0 ?_
 dsimp only [sZ,sS]
 refine tE 8 53 (.pointer (some ⟨N,0,none⟩)) rfl rfl [(52,.pointer (some ⟨N,0,none⟩))] hH0 ?_ ?_
 ·intro w hSw;have gl:=hSw.lt;go_simp
 dsimp only [sZ,sS]
 refine tD 9 54 (.pointer (some ⟨N,0,none⟩)) rfl rfl [(53,.pointer (some ⟨N,0,none⟩))] hH0 ?_
 dsimp only [sZ,sS]
 refine tE 10 55 (ptrV b) rfl rfl [(54,.pointer (some ⟨N,0,none⟩))] hH0 ?_ ?_
 ·intro w hSw;have q0:=hSw.box.1 0 _ rfl;have gl:=hSw.lt;go_simp
 dsimp only [sZ,sS]
 refine tD 11 56 (.int .u64 (d.length:Int)) rfl rfl [(2,.int .u64 (d.length:Int))] hH0 ?_
 dsimp only [sZ,sS]
 refine tD 12 57 (.int .u64 (s:Int)) rfl rfl [(3,.int .u64 (s:Int))] hH0 ?_
 dsimp only [sZ,sS]
 refine tD 13 58 (.int .u64 ((d.length - s:Nat):Int)) rfl rfl [(56,.int .u64 (d.length:Int)),(57,.int .u64 (s:Int))] hH0 ?_
 dsimp only [sZ,sS]
 refine tD 14 59 (.int .i64 ((d.length - s:Nat):Int)) rfl rfl [(58,.int .u64 ((d.length - s:Nat):Int))] hH0 ?_
 dsimp only [sZ,sS]
 refine rD 6 rfl (fun K hK=>?_)
 go_simp
 refine (clone_any _ (last.take s) _ (bytes_take (last_bytes H4.out 3 rfl HLA.out) (by omega)) (by rw [List.length_take];omega)).mono ?_
 rintro en w5 ⟨a6,c6,rfl,ho6,hb6⟩
 rw [HTL.out] at ho6 ⊢
 have H5:=(H4.out.belowRow hb6 ho6)
 clear ho6 hb6
 refine hK.out _ _ ?_ (fun hH1=>?_)
 ·exact H5.box 2 rfl
 clear hK K
 try simp only [Act.put,gA,gZ,gS,sA,sZ,sS]
 refine rD 15 rfl (fun K hK=>?_)
 go_simp
 refine (HFI.out _ (H5.rat 1 rfl)).mono ?_
 rintro en w6 ⟨a5,c5,rfl,ho5,hr5,hf5⟩
 rw [HDL.out] at ho5 ⊢
 have H6:=((H5.rdrow HBB.out 1 rfl hr5 hf5 ho5).focus 2 rfl)
 refine hK.out _ _ ?_ (fun hH2=>?_)
 ·exact H6.box 3 rfl
 clear hK K
 try simp only [Act.put,gA,gZ,gS,sA,sZ,sS]
 clear H5 ho5 hr5 hf5
 all_goals
  skip
  refine rD 16 rfl (fun K hK=>?_)
  refine Sep.appendSlStep etBytes rfl (.tmp 51) (.tmp 60) rfl H6 0 rfl rfl (d.length - s) (byteVs (d.drop s)) _ rfl (SlV.of_own (H6.row 1 rfl)) (by rw [HBV.out];omega) (byteVs_one _) (by omega) ?_
  intro a7 c7 w7 h7
  refine hK.out _ _ ?_ (fun hH3=>?_)
  ·exact h7.box 3 rfl
  clear hK K
  try simp only [Act.put,gA,gZ,gS,sA,sZ,sS]
  refine tD 17 4 (.slice a7 (s+(d.length - s)) c7) rfl rfl [(61,.slice a7 (s+(d.length - s)) c7)] hH3 ?_
  dsimp only [sZ,sS]
  refine wpAnyH_done (by kernel_rfl) ?_ _
  have hsd:s+(d.length - s)=d.length:=by omega
  rw [hsd,HAP.out] at h7
  rw [hsd]
  have H7:=Zh (h7.pick [3,4,5,2,0] (by decide) (L':=[.box N [ptrV b,.slice oa X.length ok,.int .i64 (left:Int),.slice la last.length lk,.int .i64 kd] 229,ceR X oa ok,Asn.all (X.map ceA),Asn.rdr W b ⟨tail,0⟩,.row 5 1 (.slice a7 d.length c7) d.length (byteVs d)]) rfl)
  clear h7 H6
  have g0:=H7.out.cell 0 rfl 0 rfl;have g3:=H7.out.cell 0 rfl 3 rfl;have gl:=H7.out.lt 0 rfl
  go_wp2_with fail
  refine (err_any b ⟨tail,0⟩ w7 (H7.out.rat 3 rfl)).mono ?_
  rintro en wz ⟨rfl,rfl⟩
  rw [errV_0]
  go_wp2_with fail
  refine (HALI.out la a7 lk c7 w7 (last_bytes H7.out 2 rfl HLA.out) (SlV.of_own (H7.out.row 4 rfl))).mono ?_
  rintro en w8 ⟨rfl,hb8⟩
  have H8:=Zh (H7.out.below hb8)
  have hsi:=i64_n s (by omega)
  clear hb8 g0 g3 gl H7
  have g1:=H8.out.cell 0 rfl 1 rfl;have gl:=H8.out.lt 0 rfl
  go_wp2_with (at_builtin;refine Sep.append etCells rfl (.tmp 89) (.tmp 92) rfl [.int .i64 1,.slice a7 d.length c7] rfl H8.out 1 rfl rfl rfl (by simp [Value.oneCell']) (by omega) ?_;intro a9 c9 w9 h9;have p1:=h9.cell 1 rfl 1 rfl;have pf:=h9.free 1 rfl 1;have pl:=h9.lt 1 rfl;have p2:=h9.cell 1 rfl 2 rfl;have pg:=h9.free 1 rfl 2;have ph:=h9.free 1 rfl 3;have pi:=h9.free 1 rfl 4;have pj:=h9.cell 1 rfl 3 rfl;have pk:=h9.cell 1 rfl 4 rfl)
  have h10:=(((h9.set 1 rfl 1 (.slice a9 (X.length+1) c9)).set 0 rfl 2 (.int .i64 ((left:Int) - 1))).set 0 rfl 3 (.slice a7 d.length c7)).set 0 rfl 4 (.int .i64 1)
  have h11:=(((h10.focus 2 rfl).focus 4 rfl).push (f:=ceA) (Ks:=X) (y:=(⟨⟨1,d⟩,a7,c7⟩:CE)))
  go_end0
  refine ⟨rfl,a7,c7,a9,c9,a7,c7,?_,.inr ⟨⟨⟨1,d⟩,a7,c7⟩,List.mem_append_right _ List.mem_cons_self,rfl,rfl,rfl⟩⟩
  have h12:=h11.pick [1,2,0,3] (by decide) (L':=[_,_,_,_]) rfl
  unfold ceR
  rw [List.length_append,List.flatMap_append,show (((left - 1:Nat):Int))=(left:Int) - 1 by omega]
  exact h12
def leftV (N:Nat) (w:World):Nat:=(intOf ((w.cell? ⟨N,2,none⟩).getD (.int .i64 0))).toNat
theorem TkAt.left {W:World} {b N:Nat} {X:List CE} {left:Nat} {last:List UInt8} {kd:Int} {r:RD} {w:World} (h:TkAt W b N X left last kd r w):leftV N w=left:=by
 obtain ⟨oa,ok,la,lk,h0,_⟩:=h
 unfold leftV
 rw [h0.cell 0 rfl 2 rfl]
 simp [intOf]
set_option maxHeartbeats 8000000 in
theorem ctakeRun_any {W:World} {b:Nat} (Y:List C) (tail:List UInt8) (h:RAt W b ⟨vbs [Y.length]++(runB [] Y++tail),0⟩) (hn:Y.length≤64) (hok:∀ x∈Y,CellOk x) :
  Calls Tryz.prog 104 #[.pointer (some ⟨b,0,none⟩)] W fun e w'=>∃ a k X,e=.returned (.slice a X.length k)∧X.map (·.c)=Y∧Sep W (fun k=>k=b) [ceR X a k,Asn.all (X.map ceA),Asn.rdr W b ⟨tail,0⟩] w':=by
 have hb:=h.lt
 have H0:=Zh (show Sep W (fun k=>k=b) [Asn.rdr W b ⟨vbs [Y.length]++(runB [] Y++tail),0⟩] W from Sep.start1 (Asn.rdr W b _) (rat_from hb (Fr.refl _ _) h))
 have hnu:=number_any b _ W h
 rw [show (⟨vbs [Y.length]++(runB [] Y++tail),0⟩:RD).num=(Y.length,⟨runB [] Y++tail,0⟩) by
  rw [show vbs [Y.length]=vb Y.length by simp [vbs]];exact RD.num_put _ (by omega) _] at hnu
 have HNU:=Lib.hid' hnu
 have HOK:=Lib.hid' hok
 have HBB:=Lib.hid' hb
 have t0:decide ((64:Int)<(Y.length:Int))=false:=by simp;omega
 have hmi:min (Y.length:Int) 64=(Y.length:Int):=by omega
 have u1:=i64_n Y.length (by omega)
 clear h hnu hok hb
 go_enter Tryz.func104, Tryz.ntmps104
 go_wp2_with fail
 refine HNU.out.mono ?_
 clear HNU
 rintro en w2 ⟨rfl,hr2,hf2⟩
 have H2:=Zh (H0.out.rdcall HBB.out 0 rfl hr2 hf2)
 clear hr2 hf2 H0
 go_upto_region 5 with fail
 have h3:=(Sep.none ceA (H2.out.allocAt w2.heap.size [ptrV b,.slice none 0 0,.int .i64 (Y.length:Int),.slice none 0 0,.int .i64 1] 229 rfl)).nilRow 28 2
 have H3:=Zh (show TkAt W b w2.heap.size [] Y.length [] 1 ⟨runB [] Y++tail,0⟩ (w2.alloc (.cells #[ptrV b,.slice none 0 0,.int .i64 (Y.length:Int),.slice none 0 0,.int .i64 1] 229)) from ⟨none,0,none,0,h3.pick [2,0,1,3] (by decide) (L':=[_,_,_,_]) rfl,.inl ⟨rfl,rfl,rfl⟩⟩)
 clear h3 H2 t0 hmi u1
 generalize w2.alloc (.cells #[ptrV b,.slice none 0 0,.int .i64 (Y.length:Int),.slice none 0 0,.int .i64 1] 229)=w3 at *
 generalize w2.heap.size=N at *
 go_loopw [5] (fun _ wr=>∃ (X:List CE) (Y2:List C) (last:List UInt8) (kd:Int),X.length+Y2.length≤64∧Hid (X.map (·.c)++Y2=Y)∧Hid (∀ x∈Y2,CellOk x)∧Hid (TkAt W b N X Y2.length last kd ⟨runB last Y2++tail,0⟩ wr)∧Hid (∀ x,Y2.head?=some x→x.k≠1→x.k≠kd)) (fun _ wr=>leftV N wr)
 case atStart=>exact ⟨[],Y,[],1,by simpa using hn,Lib.hid' rfl,HOK,H3,Zh (fun x _ h=>h)⟩
 case round =>
  clear H3 HOK hn
  obtain ⟨X,Y2,last,kd,hXY,HXY,HOK,HT,HHD⟩:=hrel
  have hlf:=Lib.hid' HT.out.left
  cases hy:Y2 with
  | nil =>
   rw [hy] at HT HXY
   obtain ⟨oa,ok,la,lk,h0,_⟩:=HT.out
   have g0:=h0.cell 0 rfl 0 rfl;have g1:=h0.cell 0 rfl 1 rfl;have g2:=h0.cell 0 rfl 2 rfl;have gl:=h0.lt 0 rfl
   have HR:=Zh (show X.map (·.c)=Y by have:=HXY.out;rwa [List.append_nil] at this)
   rw [runB_nil,List.nil_append] at h0
   have H:=Lib.hid' h0
   clear h0 HT HXY HHD
   go_wp2_with fail
   refine (err_any b _ wr (H.out.rat 3 rfl)).mono ?_
   rintro en wz ⟨rfl,rfl⟩
   rw [errV_0]
   go_wp2_with fail
   go_ret
   exact ⟨oa,ok,X,rfl,HR.out,H.out.pick [1,2,3] (by decide) (L':=[_,_,_]) rfl⟩
  | cons y Y3 =>
   have hpos:0<Y2.length:=by rw [hy];simp
   obtain ⟨oa,ok,la,lk,h0,hla⟩:=HT.out
   have H:=Lib.hid' h0
   have HLA:=Lib.hid' hla
   have g0:=h0.cell 0 rfl 0 rfl;have g2:=h0.cell 0 rfl 2 rfl;have gl:=h0.lt 0 rfl
   have t1:decide ((0:Int)<(Y2.length:Int))=true:=by simp;omega
   have HE:=Zh (err_any b _ wr (h0.rat 3 rfl))
   have HY:=Lib.hid' hy
   have HKY:=Zh (HOK.out y (by rw [hy];exact List.mem_cons_self))
   clear h0 hla HT
   by_cases hk:y.k=1
   ·have hru:runB last Y2++tail=vb 0++(vbs [y.d.length,alikeN last y.d]++(y.d.drop (alikeN last y.d)++(runB y.d Y3++tail))):=by
     rw [hy,runB_data hk]
     unfold dataB vbs
     simp
    have hnu:=number_any b ⟨runB last Y2++tail,0⟩ wr (H.out.rat 3 rfl)
    rw [show (⟨runB last Y2++tail,0⟩:RD).num=(0,⟨vbs [y.d.length,alikeN last y.d]++(y.d.drop (alikeN last y.d)++(runB y.d Y3++tail)),0⟩) by rw [hru];exact RD.num_put 0 (by omega) _] at hnu
    have HNU:=Lib.hid' hnu
    have hl3:Y2.length=Y3.length+1:=by rw [hy];rfl
    have HL3:=Lib.hid' hl3
    clear hnu hru hy hl3
    go_wp2_with fail
    refine HE.out.mono ?_
    clear HE
    rintro en wz ⟨rfl,rfl⟩
    rw [errV_0]
    go_wp2_with fail
    refine HNU.out.mono ?_
    clear HNU
    rintro en w4 ⟨rfl,hr4,hf4⟩
    have h4:=H.out.rdcall HBB.out 3 rfl hr4 hf4
    have HT4:=Zh (show TkAt W b N X Y2.length last kd _ w4 from ⟨oa,ok,la,lk,h4.pick [1,2,3,0] (by decide) (L':=[_,_,_,_]) rfl,HLA.out⟩)
    have HE4:=Zh (err_any b _ w4 (h4.rat 0 rfl))
    clear g0 g2 gl t1
    have g0:=h4.cell 1 rfl 0 rfl;have gl:=h4.lt 1 rfl
    clear h4 hr4 hf4 H
    go_wp2_with fail
    refine HE4.out.mono ?_
    clear HE4
    rintro en wz ⟨rfl,rfl⟩
    rw [errV_0]
    have hdk:=HKY.out.2.2.1
    go_wp2_with fail
    refine (tdata_any y.d (runB y.d Y3++tail) w4 HBB.out HT4.out ⟨hpos,by omega⟩ (by omega) hdk).mono ?_
    rintro en w5 ⟨rfl,a5,k5,h5⟩
    have hlf5:=Lib.hid' h5.left
    have H5:=Zh (show TkAt W b N (X++[⟨⟨1,y.d⟩,a5,k5⟩]) Y3.length y.d 1 ⟨runB y.d Y3++tail,0⟩ w5 by
     have e:Y2.length - 1=Y3.length:=by have:=HL3.out;omega
     rw [←e];exact h5)
    clear h5 HT4
    go_wp2_with fail
    go_roundw
    case rel=>exact ⟨X++[⟨⟨1,y.d⟩,a5,k5⟩],Y3,y.d,1,by have:=HL3.out;rw [List.length_append];simp;omega,Zh (by
     rw [←HXY.out,HY.out,List.map_append,List.append_assoc]
     show X.map (·.c)++((⟨1,y.d⟩:C)::Y3)=_
     rw [show (⟨1,y.d⟩:C)=y by rw [←hk]]),Zh (fun x hx=>HOK.out x (by rw [HY.out];exact List.mem_cons_of_mem _ hx)),H5,Zh (fun x _ h=>h)⟩
    case measure=>rw [hlf5.out,hlf.out];omega
   ·have hru:runB last Y2++tail=vb (rowN Y2)++(vbs [y.k.toNat]++(runB last (Y2.drop (rowN Y2))++tail)):=by
     rw [hy,runB_row hk]
     unfold rowB vbs
     simp
    have hrl:=rowN_le Y2
    have hrp:0<rowN Y2:=by rw [hy];exact rowN_pos hk
    have hrt:Y2.take (rowN Y2)=List.replicate (rowN Y2) ⟨y.k,[]⟩:=by rw [hy];exact row_take hk (fun z hz=>HOK.out z (by rw [hy];exact hz))
    have hrx:∀ z,(Y2.drop (rowN Y2)).head?=some z→z.k≠y.k:=by rw [hy];exact fun z hz=>row_next hk hz
    have HRT:=Lib.hid' hrt
    have HRX:=Lib.hid' hrx
    have hnu:=number_any b ⟨runB last Y2++tail,0⟩ wr (H.out.rat 3 rfl)
    rw [show (⟨runB last Y2++tail,0⟩:RD).num=(rowN Y2,⟨vbs [y.k.toNat]++(runB last (Y2.drop (rowN Y2))++tail),0⟩) by rw [hru];exact RD.num_put _ (by omega) _] at hnu
    have HNU:=Lib.hid' hnu
    have hkd:=HHD.out y (by rw [hy];rfl) hk
    obtain ⟨q0,q1,q2,q3⟩:=HKY.out
    obtain ⟨kk,hkk⟩:∃ m:Nat,y.k=m:=⟨y.k.toNat,by omega⟩
    rw [hkk] at hkd hk HRT HRX HNU q1
    rw [Int.toNat_natCast] at HNU
    generalize rowN Y2=n at *
    clear hnu hru hy hrt hrx
    have hn0:(0:Int)<n:=by omega
    go_wp2_with fail
    refine HE.out.mono ?_
    clear HE
    rintro en wz ⟨rfl,rfl⟩
    rw [errV_0]
    go_wp2_with fail
    refine HNU.out.mono ?_
    clear HNU
    rintro en w4 ⟨rfl,hr4,hf4⟩
    have h4:=H.out.rdcall HBB.out 3 rfl hr4 hf4
    have HT4:=Zh (show TkAt W b N X Y2.length last kd _ w4 from ⟨oa,ok,la,lk,h4.pick [1,2,3,0] (by decide) (L':=[_,_,_,_]) rfl,HLA.out⟩)
    have HE4:=Zh (err_any b _ w4 (h4.rat 0 rfl))
    clear g0 g2 gl t1
    have g0:=h4.cell 1 rfl 0 rfl;have gl:=h4.lt 1 rfl
    clear h4 hr4 hf4 H
    go_wp2_with fail
    refine HE4.out.mono ?_
    clear HE4
    rintro en wz ⟨rfl,rfl⟩
    rw [errV_0]
    go_wp2_with fail
    refine (trow_any n kk (runB last (Y2.drop n)++tail) w4 HBB.out HT4.out ⟨hrp,hrl⟩ (by omega) (by omega) (by omega) (by omega) hkd).mono ?_
    rintro en w5 ⟨rfl,h5⟩
    have hlf5:=Lib.hid' h5.left
    have H5:=Zh (show TkAt W b N (X++List.replicate n ⟨⟨(kk:Int),[]⟩,none,0⟩) (Y2.drop n).length last kk ⟨runB last (Y2.drop n)++tail,0⟩ w5 by rw [List.length_drop];exact h5)
    clear h5 HT4
    go_wp2_with fail
    go_roundw
    case rel=>exact ⟨X++List.replicate n ⟨⟨(kk:Int),[]⟩,none,0⟩,Y2.drop n,last,kk,by rw [List.length_append,List.length_replicate,List.length_drop];omega,Zh (by
     rw [←HXY.out,List.map_append,List.append_assoc,List.map_replicate]
     congr 1
     show List.replicate n (⟨(kk:Int),[]⟩:C)++Y2.drop n=Y2
     rw [←HRT.out,List.take_append_drop]),Zh (fun x hx=>HOK.out x (List.mem_of_mem_drop hx)),H5,Zh (fun x hx _=>HRX.out x hx)⟩
    case measure=>rw [hlf5.out,hlf.out];omega
/-- a parcel's text -/
def pclT (e t f:Int) (Y:List C):List UInt8:=vbs [1,e.toNat,t.toNat,f.toNat]++vbs [Y.length]++runB [] Y
def pclB (e t f:Int) (Y:List C):List UInt8:=frameB (pclT e t f Y)
def rcT (e a:Int):List UInt8:=vbs [2,e.toNat,a.toNat]
def rcB (e a:Int):List UInt8:=frameB (rcT e a)
theorem chkCs_ok:∀ {Y:List C},chkCs Y=0→∀ x∈Y,CellOk x
 | [],_,x,hx=>by simp at hx
 | y::Y,h,x,hx=>by
  have e:chkCs (y::Y)=if y.check≠0 then y.check else chkCs Y:=rfl
  rw [e] at h
  split at h
  ·rename_i hc;exact absurd h hc
  ·rename_i hc
   rcases List.mem_cons.1 hx with rfl | hx
   ·have hc0:x.check=0:=Decidable.not_not.1 hc
    unfold C.check at hc0
    split at hc0
    ·cases hc0
    ·split at hc0
     ·cases hc0
     ·split at hc0
      ·cases hc0
      ·rename_i h1 h2 h3
       refine ⟨by omega,by omega,by omega,fun hk=>?_⟩
       cases hd:x.d with
       | nil=>rfl
       | cons z l=>exact absurd ⟨by rw [hd];simp,hk⟩ h3
   ·exact chkCs_ok h x hx
/-- what a parcel that Check lets through is -/
structure PclOk (e t f:Int) (Y:List C):Prop where
 e:0≤e∧e≤1099511627776
 t:0≤t∧t≤1048576
 f:0≤f∧f≤1048576
 n:Y.length≤64
 c:∀ x∈Y,CellOk x
theorem pcl_ok {e t f:Int} {Y:List C} (h:pclC e t f Y=0):PclOk e t f Y:=by
 obtain ⟨h1,h2,h3⟩:=pclC_zero h
 obtain ⟨h4,h5,h6,_,h7⟩:=segC_zero h3
 exact ⟨inB_iff.1 h1,inB_iff.1 h2,⟨h4,h5⟩,h6,chkCs_ok h7⟩
theorem PclOk.len {e t f:Int} {Y:List C} (h:PclOk e t f Y):(pclT e t f Y).length≤8000:=by
 have h1:=vbs_len (l:=[1,e.toNat,t.toNat,f.toNat]) (by have:=h.e;have:=h.t;have:=h.f;simp;omega)
 have h2:=vbs_len (l:=[Y.length]) (by have:=h.n;simp;omega)
 have h3:=runB_len 64 Y [] h.n (by omega) h.c
 unfold pclT
 simp only [List.length_append,List.length_cons,List.length_nil] at *
 omega
set_option maxHeartbeats 8000000 in
theorem pclPut_any (e t f:Int) (pa:Option Addr) (pk:Nat) (X:List CE) (W:World) (hX:CEs W pa pk X) (hc:pclC e t f (X.map (·.c))=0) (T:List UInt8) (hT:T=pclB e t f (X.map (·.c))) :
  Calls Tryz.prog 47 #[pclV e t f pa X.length pk] W fun en w'=>∃ (a:Option Addr) (c:Nat),en=.returned (.tuple #[.slice a T.length c,.nilIface])∧w'.ownsRow W.heap.size 5 1 (.slice a T.length c) T.length (byteVs T)∧Below W.heap.size W w':=by
 have hok:=pcl_ok hc
 have hln:=hok.len
 have hCK:=fun w (h:CEs w pa pk X)=>pclCheck_any e t f pa pk X w h
 rw [hc] at hCK
 have HCK:=Lib.hid' hCK
 have HOK:=Zh (show ∀ x∈X,CellOk x.c from fun x hx=>hok.c x.c (List.mem_map_of_mem hx))
 obtain ⟨T1,hT1⟩:∃ T1,T1=pclT e t f (X.map (·.c)):=⟨_,rfl⟩
 have HT:=Zh (show T=frameB T1 by rw [hT,hT1];rfl)
 obtain ⟨e0,e1⟩:=hok.e
 obtain ⟨t0,t1⟩:=hok.t
 obtain ⟨f0,f1⟩:=hok.f
 have hn:X.length≤64:=by have:=hok.n;rwa [List.length_map] at this
 obtain ⟨e,rfl⟩:∃ n:Nat,e=n:=⟨e.toNat,by omega⟩
 obtain ⟨t,rfl⟩:∃ n:Nat,t=n:=⟨t.toNat,by omega⟩
 obtain ⟨f,rfl⟩:∃ n:Nat,f=n:=⟨f.toNat,by omega⟩
 have HT1:=Zh (show T1=vbs [1,e,t,f]++vbs [X.length]++runB [] (X.map (·.c)) by rw [hT1];unfold pclT;rw [List.length_map];simp)
 have hl1:T1.length≤8000:=by rw [hT1];exact hln
 have HX:=Lib.hid' hX
 have u1:=u64_b e (by omega);have u2:=u64_b t (by omega);have u3:=u64_b f (by omega)
 have H1:=Zh ((Sep.start W).allocAt W.heap.size [.int .i64 (e:Int),.int .i64 (t:Int),.int .i64 (f:Int),.slice pa X.length pk] 66 rfl)
 clear hok hln hCK hX hc hT hT1
 go_enter Tryz.func47, Tryz.ntmps47
 go_upto_region 1 with fail
 obtain ⟨w1,hw1⟩:∃ w1,W.alloc (.cells #[.int .i64 (e:Int),.int .i64 (t:Int),.int .i64 (f:Int),.slice pa X.length pk] 66)=w1:=⟨_,rfl⟩
 rw [hw1]
 have H1:=Zh (show Sep W NoF [.box W.heap.size [.int .i64 (e:Int),.int .i64 (t:Int),.int .i64 (f:Int),.slice pa X.length pk] 66] w1 by rw [←hw1];exact H1.out)
 clear hw1
 obtain ⟨A,hA⟩:∃ A,W.heap.size=A:=⟨_,rfl⟩
 have HZ:=Lib.hid' hA
 rw [hA] at H1
 try rw [hA]
 clear hA
 have a0:=H1.out.cell 0 rfl 0 rfl;have a1:=H1.out.cell 0 rfl 1 rfl;have a2:=H1.out.cell 0 rfl 2 rfl;have a3:=H1.out.cell 0 rfl 3 rfl;have al:=H1.out.lt 0 rfl
 go_wp2_with fail
 refine (HCK.out _ (HX.out.below H1.out.toBelow)).mono ?_
 clear HCK
 rintro en w2 ⟨rfl,hb2⟩
 have H2:=Zh (H1.out.below hb2)
 rw [errV_0]
 clear hb2 a0 a1 a2 a3 al H1
 have a0:=H2.out.cell 0 rfl 0 rfl;have a1:=H2.out.cell 0 rfl 1 rfl;have a2:=H2.out.cell 0 rfl 2 rfl;have a3:=H2.out.cell 0 rfl 3 rfl;have al:=H2.out.lt 0 rfl
 go_wp2_with fail
 refine (vPut_any [] none 0 [1,e,t,f] (some ⟨w2.heap.size,0,none⟩) 4 _ (SlV.empty _ _ _ (Nat.zero_le _) (fun _=>rfl)) (SlV.new w2 (uVs [1,e,t,f]) 4 172 (by decide)) (by simp;omega) (by simp) (by simp)).mono ?_
 rintro en w3 ⟨ra,rc,rfl,ho3,hb3⟩
 rw [List.nil_append] at ho3 ⊢
 have H3:=Zh ((H2.out.allocX _).belowRow hb3 ho3)
 have hb0:(vbs [1,e,t,f]).length≤40:=by have:=vbs_len (l:=[1,e,t,f]) (by simp;omega);simpa using this
 have HPR:=Zh (cputRun_any (vbs [1,e,t,f]) ra rc X pa pk w3 (SlV.of_own (H3.out.row 0 rfl)) (HX.out.below H3.out.toBelow) hn HOK.out (by omega) T1 HT1.out)
 clear ho3 hb3 a0 a1 a2 a3 al H2 u1 u2 u3
 have a3:=H3.out.cell 1 rfl 3 rfl;have al:=H3.out.lt 1 rfl
 generalize vbs [1,e,t,f]=V at *
 go_wp2_with fail
 refine HPR.out.mono ?_
 clear HPR
 rintro en w4 ⟨a4,c4,rfl,ho4,hb4⟩
 have H4:=Zh (H3.out.belowRow hb4 ho4)
 have hfp:=fput_any [] T1 none a4 0 c4 w4 (bytes_nil w4) (SlV.of_own (H4.out.row 0 rfl)) (by simp)
 unfold FPutR fputN fputB at hfp
 rw [if_neg (by omega),if_neg (by omega),List.nil_append,←HT.out,errV_0] at hfp
 have HFP:=Lib.hid' hfp
 clear ho4 hb4 a3 al H3 hfp
 go_wp2_with fail
 refine HFP.out.mono ?_
 rintro en w5 ⟨a5,c5,rfl,ho5,hb5⟩
 have H5:=Zh (H4.out.belowRow hb5 ho5)
 clear ho5 hb5 H4 HFP
 go_wp2_with fail
 go_ret2
 exact ⟨a5,c5,rfl,H5.out.own 0 rfl,H5.out.toBelow⟩
set_option maxHeartbeats 8000000 in
theorem rcPut_any (e a:Int) (W:World) (he:0≤e∧e≤1099511627776) (ha:0≤a∧a≤1048576) (T:List UInt8) (hT:T=rcB e a) :
  Calls Tryz.prog 54 #[.agg #[.int .i64 e,.int .i64 a]] W fun en w'=>∃ (r:Option Addr) (c:Nat),en=.returned (.tuple #[.slice r T.length c,.nilIface])∧w'.ownsRow W.heap.size 5 1 (.slice r T.length c) T.length (byteVs T)∧Below W.heap.size W w':=by
 obtain ⟨e,rfl⟩:∃ n:Nat,e=n:=⟨e.toNat,by omega⟩
 obtain ⟨a,rfl⟩:∃ n:Nat,a=n:=⟨a.toNat,by omega⟩
 have hi1:inB (e:Int) 1099511627776=true:=inB_iff.2 he
 have hi2:inB (a:Int) 1048576=true:=inB_iff.2 ha
 have HI1:=fun w=>Zh (pcin_any (e:Int) 1099511627776 w)
 have HI2:=fun w=>Zh (pcin_any (a:Int) 1048576 w)
 rw [hi1] at HI1
 rw [hi2] at HI2
 obtain ⟨T1,hT1⟩:∃ T1,T1=vbs [2,e,a]:=⟨_,rfl⟩
 have HT:=Zh (show T=frameB T1 by rw [hT,hT1];unfold rcB rcT;simp)
 have hl1:T1.length≤30:=by rw [hT1];have:=vbs_len (l:=[2,e,a]) (by simp;omega);simpa using this
 have HT1:=Lib.hid' hT1
 have u1:=u64_b e (by omega);have u2:=u64_b a (by omega)
 have H1:=Zh ((Sep.start W).allocAt W.heap.size [.int .i64 (e:Int),.int .i64 (a:Int)] 59 rfl)
 clear hT hi1 hi2 hT1
 go_enter Tryz.func54, Tryz.ntmps54
 go_upto_region 1 with fail
 obtain ⟨w1,hw1⟩:∃ w1,W.alloc (.cells #[.int .i64 (e:Int),.int .i64 (a:Int)] 59)=w1:=⟨_,rfl⟩
 rw [hw1]
 have H1:=Zh (show Sep W NoF [.box W.heap.size [.int .i64 (e:Int),.int .i64 (a:Int)] 59] w1 by rw [←hw1];exact H1.out)
 clear hw1
 obtain ⟨A,hA⟩:∃ A,W.heap.size=A:=⟨_,rfl⟩
 have HZ:=Lib.hid' hA
 rw [hA] at H1
 try rw [hA]
 clear hA
 have a0:=H1.out.cell 0 rfl 0 rfl;have a1:=H1.out.cell 0 rfl 1 rfl;have al:=H1.out.lt 0 rfl
 go_wp2_with fail
 refine (HI1 w1).out.mono ?_
 rintro en wz ⟨rfl,rfl⟩
 go_wp2_with fail
 refine (HI2 w1).out.mono ?_
 rintro en wz ⟨rfl,rfl⟩
 go_wp2_with fail
 have hv:=vPut_any [] none 0 [2,e,a] (some ⟨w1.heap.size,0,none⟩) 3 _ (SlV.empty _ _ _ (Nat.zero_le _) (fun _=>rfl)) (SlV.new w1 (uVs [2,e,a]) 3 172 (by decide)) (by simp;omega) (by simp) (by simp)
 rw [List.nil_append,←HT1.out] at hv
 refine hv.mono ?_
 rintro en w3 ⟨ra,rc,rfl,ho3,hb3⟩
 have H3:=Zh ((H1.out.allocX _).belowRow hb3 ho3)
 have hfp:=fput_any [] T1 none ra 0 rc w3 (bytes_nil w3) (SlV.of_own (H3.out.row 0 rfl)) (by simp)
 unfold FPutR fputN fputB at hfp
 rw [if_neg (by omega),if_neg (by omega),List.nil_append,←HT.out,errV_0] at hfp
 have HFP:=Lib.hid' hfp
 clear ho3 hb3 a0 a1 al H1 u1 u2 hfp hv HI1 HI2
 go_wp2_with fail
 refine HFP.out.mono ?_
 rintro en w5 ⟨a5,c5,rfl,ho5,hb5⟩
 have H5:=Zh (H3.out.belowRow hb5 ho5)
 clear ho5 hb5 H3 HFP
 go_wp2_with fail
 go_ret2
 exact ⟨a5,c5,rfl,H5.out.own 0 rfl,H5.out.toBelow⟩
set_option maxHeartbeats 8000000 in
theorem popen_any (kd:Nat) (tail B:List UInt8) (hB:B=frameB (vb kd++tail)) (hl:(vb kd++tail).length≤8000) (hk:kd≤10) (a:Option Addr) (c:Nat) (W:World) (h:Bytes W (.slice a B.length c) B) :
  Calls Tryz.prog 102 #[.slice a B.length c,.int .u64 kd] W fun en w'=>∃ b,en=.returned (.tuple #[ptrV b,.nilIface])∧W.heap.size≤b∧RAt w' b ⟨tail,0⟩∧Below W.heap.size W w':=by
 have hfo:=fone_any B a c W h
 unfold FOneR at hfo
 rw [show fone B=(0,vb kd++tail) by rw [hB];exact fone_frame _ (by omega)] at hfo
 have HFO:=Lib.hid' hfo
 have hnu:=fun b w hh=>number_any b ⟨vb kd++tail,0⟩ w hh
 rw [show (⟨vb kd++tail,0⟩:RD).num=(kd,⟨tail,0⟩) from RD.num_put kd (by omega) tail] at hnu
 have HNU:=Lib.hid' hnu
 clear hfo hnu h hl hk hB
 generalize vb kd++tail=txt at *
 go_enter Tryz.func102, Tryz.ntmps102
 go_wp2_with fail
 refine HFO.out.mono ?_
 clear HFO
 rintro en w1 ⟨a1,c1,rfl,hy,hb1⟩
 try simp only at hy
 have HVN:=Zh (vNew_any txt a1 c1 w1 hy)
 rw [errV_0]
 go_wp2_with fail
 refine HVN.out.mono ?_
 clear HVN hy
 rintro en w2 ⟨rfl,hr2,hb2,_⟩
 have HR2:=Lib.hid' hr2
 have HB2:=Zh (hb1.trans (hb2.mono hb1.size))
 have HLE:=Lib.hid' hb1.size
 clear hr2 hb2 hb1
 generalize w1.heap.size=b at *
 go_wp2_with fail
 refine (HNU.out b w2 HR2.out).mono ?_
 clear HNU
 rintro en w3 ⟨rfl,hr3,hf3⟩
 have HR3:=Lib.hid' hr3
 have HB3:=Zh (HB2.out.trans (hf3.below HB2.out.size (fun k hk=>by subst hk;exact HLE.out)))
 clear hr3 hf3
 go_wp2_with fail
 go_ret2
 exact ⟨b,rfl,HLE.out,HR3.out,HB3.out⟩
theorem _root_.Go.Proofs.YtaodldbgikiekaaGreatDoor.RAt.pastSet {w:World} {b N:Nat} {r:RD} (h:RAt w b r) (hN:b<N) (j:Nat) (v:Value):RAt (w.setCell ⟨N,j,none⟩ v) b r :=
 h.high (Fr.setH (Fr.refl (fun k=>k=N) w) (show (fun k=>k=N) N from rfl) j v) (fun k hk=>by subst hk;exact hN)
set_option maxHeartbeats 8000000 in
theorem rcTake_any (e q:Int) (he:0≤e∧e≤1099511627776) (hq:0≤q∧q≤1048576) (B:List UInt8) (hB:B=rcB e q) (a:Option Addr) (c:Nat) (W:World) (h:Bytes W (.slice a B.length c) B) :
  Calls Tryz.prog 55 #[.slice a B.length c] W fun en w'=>en=.returned (.tuple #[.agg #[.int .i64 e,.int .i64 q],.nilIface])∧Below W.heap.size W w':=by
 obtain ⟨e,rfl⟩:∃ n:Nat,e=n:=⟨e.toNat,by omega⟩
 obtain ⟨q,rfl⟩:∃ n:Nat,q=n:=⟨q.toNat,by omega⟩
 have hvl:=vbs_len (l:=[2,e,q]) (by simp;omega)
 have hT:rcT (e:Int) (q:Int)=vb 2++(vb e++(vb q++[])):=by unfold rcT vbs;simp
 have HW1:=Zh (fun b w (hh:RAt w b ⟨vb e++(vb q++[]),0⟩)=>within_r_any b ⟨vb e++(vb q++[]),0⟩ 1099511627776 (by omega) w hh)
 rw [RD.within_put e 1099511627776 (by omega) (by omega) (vb q++[])] at HW1
 have HW2:=Zh (fun b w (hh:RAt w b ⟨vb q++[],0⟩)=>within_r_any b ⟨vb q++[],0⟩ 1048576 (by omega) w hh)
 rw [RD.within_put q 1048576 (by omega) (by omega) []] at HW2
 have h1:=(Sep.start W).allocAt W.heap.size [.int .i64 0,.int .i64 0] 59 rfl
 obtain ⟨w1,hw1⟩:∃ w1,W.alloc (.cells #[.int .i64 0,.int .i64 0] 59)=w1:=⟨_,rfl⟩
 rw [show ([.int .i64 0,.int .i64 0]:List Value).toArray=#[.int .i64 0,.int .i64 0] from rfl,hw1] at h1
 have H1:=Lib.hid' h1
 have HO:=Zh (popen_any 2 (vb e++(vb q++[])) B (by rw [hB];unfold rcB;rw [hT]) (by rw [←hT];unfold rcT;simp only [Int.toNat_natCast];simp at hvl;omega) (by omega) a c w1 (SlV.below h (Nat.le_refl _) h1.toBelow))
 clear h h1 hB hT hvl
 obtain ⟨A,hA⟩:∃ A,W.heap.size=A:=⟨_,rfl⟩
 have HZ:=Lib.hid' hA
 go_enter Tryz.func55, Tryz.ntmps55
 go_upto_region 1 with fail
 try rw [hw1]
 rw [hA] at H1
 try rw [hA]
 clear hw1 hA
 have al:=H1.out.lt 0 rfl
 go_wp2_with fail
 refine HO.out.mono ?_
 clear HO
 rintro en w2 ⟨b,rfl,hbl,hr2,hb2⟩
 have HR2:=Lib.hid' hr2
 have H2:=Zh (H1.out.below1 (A:=Asn.blk b) hb2 hr2.lt (fun k hk=>by have:k=b:=hk;omega))
 clear hr2 hb2 H1 al hbl
 go_wp2_with fail
 refine (HW1.out b w2 HR2.out).mono ?_
 clear HW1
 rintro en w3 ⟨rfl,hr3,hf3⟩
 have HR3:=Lib.hid' hr3
 have H3:=Zh (H2.out.rd 0 rfl hf3)
 clear hr3 hf3 H2 HR2
 go_wp2_with fail
 refine (HW2.out b w3 HR3.out).mono ?_
 clear HW2
 rintro en w4 ⟨rfl,hr4,hf4⟩
 have HR4:=Lib.hid' hr4
 have H4:=Zh (H3.out.rd 0 rfl hf4)
 clear hr4 hf4 H3 HR3
 go_upto_region 5 with fail
 have h5:=H4.out.allocAt w4.heap.size [.int .i64 (e:Int),.int .i64 (q:Int)] 59 rfl
 have HR5:=Zh (HR4.out.below (Nat.le_refl _) ((Sep.start w4).alloc [.int .i64 (e:Int),.int .i64 (q:Int)] 59).toBelow)
 rw [show ([.int .i64 (e:Int),.int .i64 (q:Int)]:List Value).toArray=#[.int .i64 (e:Int),.int .i64 (q:Int)] from rfl] at h5 HR5
 have H5:=Lib.hid' h5
 clear h5 H4 HR4
 generalize w4.alloc (.cells #[.int .i64 (e:Int),.int .i64 (q:Int)] 59)=w5 at *
 generalize w4.heap.size=N6 at *
 go_wp2_with fail
 refine (end_any b ⟨[],0⟩ w5 HR5.out).mono ?_
 rintro en wz ⟨rfl,rfl⟩
 rw [show (⟨[],0⟩:RD).fin=0 from rfl,errV_0]
 have p0:=H5.out.cell 0 rfl 0 rfl;have p1:=H5.out.cell 0 rfl 1 rfl;have pl:=H5.out.lt 0 rfl
 have r0:=H5.out.cell 2 rfl 0 rfl;have r1:=H5.out.cell 2 rfl 1 rfl;have f0:=H5.out.free 2 rfl 0;have f1:=H5.out.free 2 rfl 1;have rl:=H5.out.lt 2 rfl
 have H6:=Zh ((H5.out.set 2 rfl 0 (.int .i64 (e:Int))).set 0 rfl 1 (.int .i64 (q:Int)))
 go_wp2_with fail
 have k0:=H6.out.cell 0 rfl 0 rfl;have k1:=H6.out.cell 0 rfl 1 rfl
 generalize (w5.setCell ⟨A,0,none⟩ (.int .i64 (e:Int))).setCell ⟨A,1,none⟩ (.int .i64 (q:Int))=w6 at *
 refine bodyPost_ret (v:=.tuple #[.agg #[.int .i64 (e:Int),.int .i64 (q:Int)],.nilIface]) (by simp [results,Tryz.results55,go_sem,k0,k1]) rfl ?_
 exact ⟨rfl,H6.out.toBelow⟩
def PclTakeR (e t f:Int) (Y:List C) (W:World) (en:Ending) (w':World):Prop:=∃ a k X,en=.returned (.tuple #[pclV e t f a X.length k,.nilIface])∧X.map (·.c)=Y∧Sep W NoF [ceR X a k,Asn.all (X.map ceA)] w'
set_option maxHeartbeats 16000000 in
theorem pclTake_any (e t f:Int) (Y:List C) (hc:pclC e t f Y=0) (B:List UInt8) (hB:B=pclB e t f Y) (a:Option Addr) (c:Nat) (W:World) (h:Bytes W (.slice a B.length c) B) :
  Calls Tryz.prog 53 #[.slice a B.length c] W (PclTakeR e t f Y W):=by
 have hok:=pcl_ok hc
 have hln:=hok.len
 have HC:=Lib.hid' hc
 obtain ⟨e0,e1⟩:=hok.e
 obtain ⟨t0,t1⟩:=hok.t
 obtain ⟨f0,f1⟩:=hok.f
 have HOK:=Lib.hid' hok.c
 have hn:=hok.n
 obtain ⟨e,rfl⟩:∃ n:Nat,e=n:=⟨e.toNat,by omega⟩
 obtain ⟨t,rfl⟩:∃ n:Nat,t=n:=⟨t.toNat,by omega⟩
 obtain ⟨f,rfl⟩:∃ n:Nat,f=n:=⟨f.toNat,by omega⟩
 obtain ⟨R,hR⟩:∃ R,R=vbs [Y.length]++(runB [] Y++[]):=⟨_,rfl⟩
 have HR:=Lib.hid' hR
 have hT:pclT (e:Int) (t:Int) (f:Int) Y=vb 1++(vb e++(vb t++(vb f++R))):=by rw [hR];unfold pclT vbs;simp
 have HW1:=Zh (fun b w (hh:RAt w b ⟨vb e++(vb t++(vb f++R)),0⟩)=>within_r_any b ⟨vb e++(vb t++(vb f++R)),0⟩ 1099511627776 (by omega) w hh)
 rw [RD.within_put e 1099511627776 (by omega) (by omega) (vb t++(vb f++R))] at HW1
 have HW2:=Zh (fun b w (hh:RAt w b ⟨vb t++(vb f++R),0⟩)=>within_r_any b ⟨vb t++(vb f++R),0⟩ 1048576 (by omega) w hh)
 rw [RD.within_put t 1048576 (by omega) (by omega) (vb f++R)] at HW2
 have HW3:=Zh (fun b w (hh:RAt w b ⟨vb f++R,0⟩)=>within_r_any b ⟨vb f++R,0⟩ 1048576 (by omega) w hh)
 rw [RD.within_put f 1048576 (by omega) (by omega) R] at HW3
 have h1:=(Sep.start W).allocAt W.heap.size [.int .i64 0,.int .i64 0,.int .i64 0,.slice none 0 0] 66 rfl
 obtain ⟨w1,hw1⟩:∃ w1,W.alloc (.cells #[.int .i64 0,.int .i64 0,.int .i64 0,.slice none 0 0] 66)=w1:=⟨_,rfl⟩
 rw [show ([.int .i64 0,.int .i64 0,.int .i64 0,.slice none 0 0]:List Value).toArray=#[.int .i64 0,.int .i64 0,.int .i64 0,.slice none 0 0] from rfl,hw1] at h1
 have H1:=Lib.hid' h1
 have HO:=Zh (popen_any 1 (vb e++(vb t++(vb f++R))) B (by rw [hB];unfold pclB;rw [hT]) (by rw [←hT];exact hln) (by omega) a c w1 (SlV.below h (Nat.le_refl _) h1.toBelow))
 clear h h1 hB hT hln hc hok hR
 obtain ⟨A,hA⟩:∃ A,W.heap.size=A:=⟨_,rfl⟩
 have HZ:=Lib.hid' hA
 go_enter Tryz.func53, Tryz.ntmps53
 go_upto_region 1 with fail
 try rw [hw1]
 rw [hA] at H1
 try rw [hA]
 clear hw1 hA
 have al:=H1.out.lt 0 rfl
 go_wp2_with fail
 refine HO.out.mono ?_
 clear HO
 rintro en w2 ⟨b,rfl,hbl,hr2,hb2⟩
 have HR2:=Lib.hid' hr2
 have H2:=Zh (H1.out.below1 (A:=Asn.blk b) hb2 hr2.lt (fun k hk=>by have:k=b:=hk;omega))
 clear hr2 hb2 H1 al hbl
 go_wp2_with fail
 refine (HW1.out b w2 HR2.out).mono ?_
 clear HW1
 rintro en w3 ⟨rfl,hr3,hf3⟩
 have HR3:=Lib.hid' hr3
 have H3:=Zh (H2.out.rd 0 rfl hf3)
 clear hr3 hf3 H2 HR2
 go_wp2_with fail
 refine (HW2.out b w3 HR3.out).mono ?_
 clear HW2
 rintro en w4 ⟨rfl,hr4,hf4⟩
 have HR4:=Lib.hid' hr4
 have H4:=Zh (H3.out.rd 0 rfl hf4)
 clear hr4 hf4 H3 HR3
 go_upto_region 5 with fail
 have h5:=H4.out.allocAt w4.heap.size [.int .i64 (e:Int),.int .i64 (t:Int),.int .i64 0,.slice none 0 0] 66 rfl
 have HR5:=Zh (HR4.out.below (Nat.le_refl _) ((Sep.start w4).alloc [.int .i64 (e:Int),.int .i64 (t:Int),.int .i64 0,.slice none 0 0] 66).toBelow)
 rw [show ([.int .i64 (e:Int),.int .i64 (t:Int),.int .i64 0,.slice none 0 0]:List Value).toArray=#[.int .i64 (e:Int),.int .i64 (t:Int),.int .i64 0,.slice none 0 0] from rfl] at h5 HR5
 have H5:=Lib.hid' h5
 have hN:=HR4.out.lt
 clear h5 H4 HR4
 generalize w4.alloc (.cells #[.int .i64 (e:Int),.int .i64 (t:Int),.int .i64 0,.slice none 0 0] 66)=w5 at *
 generalize w4.heap.size=N at *
 go_wp2_with fail
 refine (HW3.out b w5 HR5.out).mono ?_
 clear HW3
 rintro en w6 ⟨rfl,hr6,hf6⟩
 have h6:=H5.out.rd 1 rfl hf6
 have g2:=h6.cell 1 rfl 2 rfl;have f2:=h6.free 1 rfl 2;have gl:=h6.lt 1 rfl
 have H7:=Zh (h6.set 1 rfl 2 (.int .i64 (f:Int)))
 have HR7:=Zh (hr6.pastSet hN 2 (.int .i64 (f:Int)))
 clear h6 hr6 hf6 H5 HR5
 go_wp2_with fail
 clear g2 f2 gl
 generalize w6.setCell ⟨N,2,none⟩ (.int .i64 (f:Int))=w7 at *
 have hr7:=HR7.out
 rw [HR.out] at hr7
 refine (ctakeRun_any Y [] hr7 hn HOK.out).mono ?_
 clear hr7 HR7
 rintro en w8 ⟨a8,k8,X,rfl,hX8,hs8⟩
 have HX8:=Lib.hid' hX8
 have HR8:=Zh (hs8.rat 2 rfl)
 have h8:=(H7.out.focus 1 rfl).call (A:=Asn.blk b) (K:=[ceR X a8 k8,Asn.all (X.map ceA),Asn.rdr w7 b ⟨[],0⟩]) hs8
 have g3:=h8.cell 3 rfl 3 rfl;have f3:=h8.free 3 rfl 3;have gl:=h8.lt 3 rfl
 have H9:=Zh (h8.set 3 rfl 3 (.slice a8 X.length k8))
 have HR9:=Zh (HR8.out.pastSet hN 3 (.slice a8 X.length k8))
 clear h8 hs8 hX8 H7 HR8
 go_wp2_with fail
 clear g3 f3 gl
 generalize w8.setCell ⟨N,3,none⟩ (.slice a8 X.length k8)=w9 at *
 refine (end_any b ⟨[],0⟩ w9 HR9.out).mono ?_
 rintro en wz ⟨rfl,rfl⟩
 rw [show (⟨[],0⟩:RD).fin=0 from rfl,errV_0]
 have p0:=H9.out.cell 0 rfl 0 rfl;have p1:=H9.out.cell 0 rfl 1 rfl;have p2:=H9.out.cell 0 rfl 2 rfl;have p3:=H9.out.cell 0 rfl 3 rfl;have pl:=H9.out.lt 0 rfl
 have hces:=ce_of (H9.out.pick [1,2] (by decide) (L':=[_,_]) rfl)
 have hck:=pclCheck_any (e:Int) (t:Int) (f:Int) a8 k8 X w9 hces
 rw [HX8.out,HC.out,errV_0] at hck
 have HCK:=Lib.hid' hck
 clear hck hces HR9
 go_wp2_with fail
 refine HCK.out.mono ?_
 clear HCK
 rintro en w10 ⟨rfl,hb10⟩
 have H10:=Zh (H9.out.below hb10)
 clear hb10 p0 p1 p2 p3 pl H9
 have p0:=H10.out.cell 0 rfl 0 rfl;have p1:=H10.out.cell 0 rfl 1 rfl;have p2:=H10.out.cell 0 rfl 2 rfl;have p3:=H10.out.cell 0 rfl 3 rfl;have pl:=H10.out.lt 0 rfl
 have r0:=H10.out.cell 4 rfl 0 rfl;have r1:=H10.out.cell 4 rfl 1 rfl;have r2:=H10.out.cell 4 rfl 2 rfl;have r3:=H10.out.cell 4 rfl 3 rfl;have f0:=H10.out.free 4 rfl 0;have f1:=H10.out.free 4 rfl 1;have f2:=H10.out.free 4 rfl 2;have f3:=H10.out.free 4 rfl 3;have rl:=H10.out.lt 4 rfl
 have H11:=Zh ((((H10.out.set 4 rfl 0 (.int .i64 (e:Int))).set 0 rfl 1 (.int .i64 (t:Int))).set 0 rfl 2 (.int .i64 (f:Int))).set 0 rfl 3 (.slice a8 X.length k8))
 go_wp2_with fail
 have k0:=H11.out.cell 0 rfl 0 rfl;have k1:=H11.out.cell 0 rfl 1 rfl;have k2:=H11.out.cell 0 rfl 2 rfl;have k3:=H11.out.cell 0 rfl 3 rfl
 generalize (((w10.setCell ⟨A,0,none⟩ (.int .i64 (e:Int))).setCell ⟨A,1,none⟩ (.int .i64 (t:Int))).setCell ⟨A,2,none⟩ (.int .i64 (f:Int))).setCell ⟨A,3,none⟩ (.slice a8 X.length k8)=w11 at *
 refine bodyPost_ret (v:=.tuple #[pclV e t f a8 X.length k8,.nilIface]) (by simp [results,Tryz.results53,go_sem,k0,k1,k2,k3]) rfl ?_
 exact ⟨a8,k8,X,rfl,HX8.out,H11.out.pick [2,3] (by decide) (L':=[_,_]) rfl⟩
theorem two_of {Z:List Asn} {a b:Nat} {Ma Mb:Cl} {Pb:ClP} {J:CJ} {W w:World} (h2:ClOK Mb Pb) (h:ClAt a Ma J (Z++clB b Mb Pb) W w):Two Z a Ma b Mb W w:=by
 obtain ⟨P',_,h3,H'⟩:=h
 rw [clL_eq] at H'
 have p:∀ X:List Asn,(Z++(X++clB b Mb Pb)).Perm (X++(Z++clB b Mb Pb)):=fun X=>by
  rw [←List.append_assoc,←List.append_assoc]
  exact List.perm_append_comm.append_right _
 exact ⟨P',Pb,h3,h2,H'.perm (p _).symm⟩
theorem Two.fst2 {Z:List Asn} {a b:Nat} {Ma Mb:Cl} {W w:World} (h:Two Z a Ma b Mb W w):∃ J Pb,ClOK Mb Pb∧ClAt a Ma J (Z++clB b Mb Pb) W w:=by
 obtain ⟨Pa,Pb,h1,h2,H⟩:=h
 have p:∀ X:List Asn,(Z++(X++clB b Mb Pb)).Perm (X++(Z++clB b Mb Pb)):=fun X=>by
  rw [←List.append_assoc,←List.append_assoc]
  exact List.perm_append_comm.append_right _
 exact ⟨Pa.J,Pb,h2,⟨Pa,rfl,h1,by rw [clL_eq];exact H.perm (p _)⟩⟩
theorem Two.swapZ {Z:List Asn} {a b:Nat} {Ma Mb:Cl} {W w:World} (h:Two Z a Ma b Mb W w):Two Z b Mb a Ma W w:=by
 obtain ⟨Pa,Pb,h1,h2,H⟩:=h
 exact ⟨Pb,Pa,h2,h1,H.perm (List.perm_append_comm.append_left Z)⟩
theorem Two.permZ {Z Z':List Asn} {a b:Nat} {Ma Mb:Cl} {W w:World} (h:Two Z a Ma b Mb W w) (p:Z.Perm Z'):Two Z' a Ma b Mb W w:=by
 obtain ⟨Pa,Pb,h1,h2,H⟩:=h
 exact ⟨Pa,Pb,h1,h2,H.perm (p.append_right _)⟩
theorem Two.focusZ {Z:List Asn} {a b:Nat} {Ma Mb:Cl} {W w:World} {A:Asn} (h:Two Z a Ma b Mb W w) (i:Nat) (hi:Z[i]?=some A):Two (A::Z.eraseIdx i) a Ma b Mb W w:=h.permZ (perm_get hi)
theorem Two.side {Z:List Asn} {a b:Nat} {Ma Mb:Cl} {W w:World} (h:Two Z a Ma b Mb W w):Sep W NoF Z w:=by
 obtain ⟨Pa,Pb,h1,h2,H⟩:=h
 exact H.keepOnly (List.sublist_append_left _ _)
theorem Two.below {Z:List Asn} {a b:Nat} {Ma Mb:Cl} {W w w':World} (h:Two Z a Ma b Mb W w) (hb:Below w.heap.size w w'):Two Z a Ma b Mb W w':=by
 obtain ⟨Pa,Pb,h1,h2,H⟩:=h
 exact ⟨Pa,Pb,h1,h2,H.below hb⟩
theorem Two.boxZ {Z:List Asn} {a b:Nat} {Ma Mb:Cl} {W w:World} (h:Two Z a Ma b Mb W w) (N:Nat) (R:List Value) (t:Nat) (hN:w.heap.size=N):Two (.box N R t::Z) a Ma b Mb W (w.alloc (.cells R.toArray t)):=by
 obtain ⟨Pa,Pb,h1,h2,H⟩:=h
 exact ⟨Pa,Pb,h1,h2,H.allocAt N R t hN⟩
theorem Two.setZ {Z:List Asn} {a b:Nat} {Ma Mb:Cl} {W w:World} {N:Nat} {R:List Value} {t:Nat} (h:Two (.box N R t::Z) a Ma b Mb W w) (j:Nat) (v:Value):Two (.box N (R.set j v) t::Z) a Ma b Mb W (w.setCell ⟨N,j,none⟩ v):=by
 obtain ⟨Pa,Pb,h1,h2,H⟩:=h
 exact ⟨Pa,Pb,h1,h2,H.set 0 rfl j v⟩
theorem Two.subZ {Z Z':List Asn} {a b:Nat} {Ma Mb:Cl} {W w:World} (h:Two Z a Ma b Mb W w) (hs:Z'.Sublist Z):Two Z' a Ma b Mb W w:=by
 obtain ⟨Pa,Pb,h1,h2,H⟩:=h
 exact ⟨Pa,Pb,h1,h2,H.keepOnly (hs.append_right _)⟩
theorem Two.newZ {Z:List Asn} {a b:Nat} {Ma Mb:Cl} {W w w':World} {A:Asn} (h:Two Z a Ma b Mb W w) (hb:Below w.heap.size w w') (hA:A.holds w') (hf:∀ b,A.foot b→w.heap.size≤b):Two (A::Z) a Ma b Mb W w':=by
 obtain ⟨Pa,Pb,h1,h2,H⟩:=h
 exact ⟨Pa,Pb,h1,h2,H.below1 hb hA hf⟩
theorem two_read {Z:List Asn} {a b:Nat} {Ma Mb:Cl} {W:World} (n:Int) (w:World) (h:Two Z a Ma b Mb W w) (hok:Ma.ok):Calls Tryz.prog 25 #[ptrV a,.int .i64 n] w (ReadR (Ma.read n).1 (Ma.read n).2 w):=by
 obtain ⟨J,Pb,_,h1⟩:=h.fst2
 exact Read_any n w h1 hok
set_option maxHeartbeats 8000000 in
theorem smessage_any {c s:Nat} {M:Cl} {J:CJ} {L:List Asn} {W:World} (p:Sp) (t:Int) (Y:List C) (w:World) (h:ClAt c M J (Asn.ship s p::L) W w) (hok:M.ok) (hp:0≤p.a∧p.a≤1048576) (hn:nextS M p.a=(0,t,Y)) (hc:pclC p.e t p.a Y=0) (T:List UInt8) (hT:T=pclB p.e t p.a Y) :
  Calls Tryz.prog 19 #[ptrV s,ptrV c] w fun en w'=>∃ a k,en=.returned (.tuple #[.slice a T.length k,.nilIface])∧ClAt c M J (.row 5 1 (.slice a T.length k) T.length (byteVs T)::Asn.ship s p::L) W w':=by
 have HN:=Zh (next_any p w h hok hp)
 have HNS:=Lib.hid' hn
 have HC:=Lib.hid' hc
 have HT:=Lib.hid' hT
 clear h hok hn hc hT
 go_enter Tryz.func19, Tryz.ntmps19
 go_wp2_with fail
 refine HN.out.mono ?_
 clear HN
 rintro en w1 hE
 obtain ⟨a1,k1,X,rfl,h1,hX⟩:∃ a1 k1 X,en=.returned (.tuple #[pclV p.e t p.a a1 X.length k1,.nilIface])∧ClAt c M J (ceR X a1 k1::Asn.all (X.map ceA)::Asn.ship s p::L) W w1∧X.map (·.c)=Y:=by
  obtain ⟨r,hr,hE⟩:=hE
  rw [HNS.out] at hr
  subst hr
  rcases hE with ⟨h0,_⟩ | ⟨_,a,k,X,h2,h3,h4⟩
  ·exact absurd rfl h0
  ·exact ⟨a,k,X,h2,h3,h4⟩
 have H1:=Lib.hid' h1
 have HX:=Lib.hid' hX
 clear hE h1 hX
 go_upto_region 2 with fail
 have h2:=H1.out.allocB w1.heap.size [.int .i64 p.e,.int .i64 t,.int .i64 p.a,.slice a1 X.length k1] 66 rfl
 rw [show ([.int .i64 p.e,.int .i64 t,.int .i64 p.a,.slice a1 X.length k1]:List Value).toArray=#[.int .i64 p.e,.int .i64 t,.int .i64 p.a,.slice a1 X.length k1] from rfl] at h2
 have H2:=Lib.hid' h2
 clear h2 H1
 generalize w1.alloc (.cells #[.int .i64 p.e,.int .i64 t,.int .i64 p.a,.slice a1 X.length k1] 66)=w2 at *
 generalize w1.heap.size=N at *
 have p0:=H2.out.side.cell 0 rfl 0 rfl;have p1:=H2.out.side.cell 0 rfl 1 rfl;have p2:=H2.out.side.cell 0 rfl 2 rfl;have p3:=H2.out.side.cell 0 rfl 3 rfl;have pl:=H2.out.side.lt 0 rfl
 have HP:=Zh (pclPut_any p.e t p.a a1 k1 X w2 (ce_of H2.out.side.tail) (by rw [HX.out];exact HC.out) T (by rw [HX.out];exact HT.out))
 rw [show pclV p.e t p.a a1 X.length k1=.agg #[.int .i64 p.e,.int .i64 t,.int .i64 p.a,.slice a1 X.length k1] from rfl] at HP
 go_wp2_with fail
 refine HP.out.mono ?_
 clear HP p0 p1 p2 p3 pl
 rintro en w3 ⟨a3,k3,rfl,ho3,hb3⟩
 have H3:=Zh ((H2.out.belowRow hb3 ho3).sub (L':=.row 5 1 (.slice a3 T.length k3) T.length (byteVs T)::Asn.ship s p::L) (((List.sublist_cons_self _ _).trans ((List.sublist_cons_self _ _).trans (List.sublist_cons_self _ _))).cons_cons _))
 clear ho3 hb3 H2
 go_wp2_with fail
 go_ret2
 exact ⟨a3,k3,rfl,H3.out⟩
set_option maxHeartbeats 8000000 in
theorem shear_any {c s:Nat} {M:Cl} {J:CJ} {L:List Asn} {W:World} (p:Sp) (e q:Int) (he:0≤e∧e≤1099511627776) (hq:0≤q∧q≤1048576) (B:List UInt8) (hB:B=rcB e q) (a:Option Addr) (k:Nat) (w:World) (h:ClAt c M J (Asn.ship s p::L) W w) (hb:Bytes w (.slice a B.length k) B) :
  Calls Tryz.prog 23 #[ptrV s,.slice a B.length k] w fun en w'=>en=.returned (errV (takeSp p e q).1)∧ClAt c M J (Asn.ship s (takeSp p e q).2::L) W w':=by
 have HR:=Zh (rcTake_any e q he hq B hB a k w hb)
 have H0:=Lib.hid' h
 clear h hb hB
 go_enter Tryz.func23, Tryz.ntmps23
 go_wp2_with fail
 refine HR.out.mono ?_
 clear HR
 rintro en w1 ⟨rfl,hb1⟩
 have H1:=Zh (H0.out.below hb1)
 clear hb1 H0
 go_upto_region 4 with fail
 have h2:=H1.out.allocB w1.heap.size [.int .i64 e,.int .i64 q] 59 rfl
 rw [show ([.int .i64 e,.int .i64 q]:List Value).toArray=#[.int .i64 e,.int .i64 q] from rfl] at h2
 have H2:=Lib.hid' h2
 clear h2 H1
 generalize w1.alloc (.cells #[.int .i64 e,.int .i64 q] 59)=w2 at *
 generalize w1.heap.size=N at *
 have p0:=H2.out.side.cell 0 rfl 0 rfl;have p1:=H2.out.side.cell 0 rfl 1 rfl;have pl:=H2.out.side.lt 0 rfl
 have HT:=Zh (stake_any p e q w2 (ClAt.less (K:=[_]) H2.out))
 go_wp2_with fail
 refine HT.out.mono ?_
 rintro en w3 ⟨rfl,h3⟩
 have H3:=Lib.hid' h3
 clear h3 HT H2
 go_wp2_with fail
 go_ret
 exact ⟨rfl,H3.out⟩
set_option maxHeartbeats 8000000 in
theorem ahear_any {c b:Nat} {M M':Cl} {J:CJ} {L:List Asn} {W:World} (x x':Sp) (e t f:Int) (Y:List C) (hc:pclC e t f Y=0) (B:List UInt8) (hB:B=pclB e t f Y) (a:Option Addr) (k:Nat) (w:World) (hp:Pow W) (h:ClAt c M J (Asn.appl b x::L) W w) (hok:M.ok) (hx:0≤x.a∧x.a≤1048576) (hb:Bytes w (.slice a B.length k) B)
  (hz:∀ X:List CE,X.map (·.c)=Y→takeA M x e t f X=(0,M',x')) (hx1:0≤x'.e∧x'.e≤1099511627776) (hx2:0≤x'.a∧x'.a≤1048576) (T:List UInt8) (hT:T=rcB x'.e x'.a) :
  Calls Tryz.prog 22 #[ptrV b,ptrV c,.slice a B.length k] w fun en w'=>∃ a' k',en=.returned (.tuple #[.slice a' T.length k',.nilIface])∧ClAt c M' J (.row 5 1 (.slice a' T.length k') T.length (byteVs T)::Asn.appl b x'::L) W w':=by
 have HR:=Zh (pclTake_any e t f Y hc B hB a k w hb)
 have H0:=Lib.hid' h
 have HP:=Lib.hid' hp
 have HOK:=Lib.hid' hok
 have HZ:=Lib.hid' hz
 have HTQ:=Zh (fun w=>rcPut_any x'.e x'.a w hx1 hx2 T hT)
 clear h hb hB hp hok hz hT hc
 go_enter Tryz.func22, Tryz.ntmps22
 go_wp2_with fail
 refine HR.out.mono ?_
 clear HR
 rintro en w1 ⟨a1,k1,X,rfl,hX,hs1⟩
 have HX:=Lib.hid' hX
 have h1:ClAt c M J (ceR X a1 k1::Asn.all (X.map ceA)::Asn.appl b x::L) W w1:=by
  obtain ⟨P,rfl,hP,H⟩:=ClAt.front (K:=[]) H0.out
  exact ClAt.unfront (K:=[_,_]) hP (H.call0 hs1)
 have H1:=Lib.hid' h1
 clear hs1 h1 H0 hX
 go_upto_region 4 with fail
 have h2:=H1.out.allocB w1.heap.size [.int .i64 e,.int .i64 t,.int .i64 f,.slice a1 X.length k1] 66 rfl
 rw [show ([.int .i64 e,.int .i64 t,.int .i64 f,.slice a1 X.length k1]:List Value).toArray=#[.int .i64 e,.int .i64 t,.int .i64 f,.slice a1 X.length k1] from rfl] at h2
 have H2:=Lib.hid' h2
 clear h2 H1
 generalize w1.alloc (.cells #[.int .i64 e,.int .i64 t,.int .i64 f,.slice a1 X.length k1] 66)=w2 at *
 generalize w1.heap.size=N at *
 have p0:=H2.out.side.cell 0 rfl 0 rfl;have p1:=H2.out.side.cell 0 rfl 1 rfl;have p2:=H2.out.side.cell 0 rfl 2 rfl;have p3:=H2.out.side.cell 0 rfl 3 rfl;have pl:=H2.out.side.lt 0 rfl
 have hta:=atake_any (L:=.box N [.int .i64 e,.int .i64 t,.int .i64 f,.slice a1 X.length k1] 66::ceR X a1 k1::Asn.all (X.map ceA)::L) x e t f X a1 k1 w2 HP.out (H2.out.focus 3 rfl) HOK.out hx (fun M' w' h'=>ce_of h'.side.tail)
 rw [HZ.out X HX.out,show pclV e t f a1 X.length k1=.agg #[.int .i64 e,.int .i64 t,.int .i64 f,.slice a1 X.length k1] from rfl,errV_0,show rcV (0,M',x')=.agg #[.int .i64 x'.e,.int .i64 x'.a] from rfl] at hta
 have HTA:=Lib.hid' hta
 clear hta
 go_wp2_with fail
 refine HTA.out.mono ?_
 clear HTA p0 p1 p2 p3 pl
 rintro en w3 ⟨rfl,h3⟩
 have H3:=Lib.hid' h3
 clear h3 H2 HOK HZ HX
 go_upto_region 7 with fail
 have h4:=H3.out.allocB w3.heap.size [.int .i64 x'.e,.int .i64 x'.a] 59 rfl
 rw [show ([.int .i64 x'.e,.int .i64 x'.a]:List Value).toArray=#[.int .i64 x'.e,.int .i64 x'.a] from rfl] at h4
 have H4:=Lib.hid' h4
 clear h4 H3
 generalize w3.alloc (.cells #[.int .i64 x'.e,.int .i64 x'.a] 59)=w4 at *
 generalize w3.heap.size=N4 at *
 have p0:=H4.out.side.cell 0 rfl 0 rfl;have p1:=H4.out.side.cell 0 rfl 1 rfl;have pl:=H4.out.side.lt 0 rfl
 go_wp2_with fail
 refine (HTQ.out w4).mono ?_
 clear HTQ p0 p1 pl
 rintro en w5 ⟨a5,k5,rfl,ho5,hb5⟩
 have H5:=Zh ((H4.out.belowRow hb5 ho5).sub (L':=.row 5 1 (.slice a5 T.length k5) T.length (byteVs T)::Asn.appl b x'::L) (((((List.sublist_cons_self _ _).trans ((List.sublist_cons_self _ _).trans (List.sublist_cons_self _ _))).cons_cons _).trans (List.sublist_cons_self _ _)).cons_cons _))
 clear ho5 hb5 H4
 go_wp2_with fail
 go_ret2
 exact ⟨a5,k5,rfl,H5.out⟩
/-- a message, with where it lies -/
structure Ms where
 a:Option Addr
 k:Nat
 d:List UInt8
def msV (x:Ms):Value:=.slice x.a x.d.length x.k
theorem etMsg:ElemT Tryz.prog 114 26 1 24:=ElemT.mk' (z:=.slice none 0 0) Tryz.underlying114 (by kernel_rfl) rfl (by decide) (by decide)
/-- how many were sent, delivered, lost, doubled -/
structure Tn where
 s:Int
 d:Int
 l:Int
 t:Int
abbrev lnB (t:Nat) (q:Tn) (a:Option Addr) (n k:Nat):Asn:=.box t [.int .i64 q.s,.int .i64 q.d,.int .i64 q.l,.int .i64 q.t,.slice a n k] 116
abbrev lnR (X:List Ms) (a:Option Addr) (k:Nat):Asn:=.row 26 1 (.slice a X.length k) X.length (X.map msV)
theorem tnew_any {w0:World} {F:Nat→Prop} {L:List Asn} (w:World) (h:Sep w0 F L w):Calls Tryz.prog 16 #[] w fun e w'=>e=.returned (ptrV w.heap.size)∧Sep w0 F (lnB w.heap.size ⟨0,0,0,0⟩ none 0 0::lnR [] none 0::L) w':=by
 go_enter Tryz.func16, Tryz.ntmps16
 go_wp2
 go_ret
 exact ⟨rfl,(h.nilRow _ _).alloc [.int .i64 0,.int .i64 0,.int .i64 0,.int .i64 0,.slice none 0 0] 116⟩
theorem aadd_any {b o:Nat} {x:Int} (w:World) (h:w.cell? ⟨b,o,none⟩=some (.int .i64 x)) (hz:w.frozen? ⟨b,o,none⟩=false):Calls Tryz.prog 99 #[.pointer (some ⟨b,o,none⟩),.int .i64 1] w fun e w'=>e=.returned (.int .i64 (wrap64 (x+1)))∧w'=w.setCell ⟨b,o,none⟩ (.int .i64 (wrap64 (x+1))):=by
 have hl:=run_call_add (P:=Tryz.prog) Tryz.func137 (by kernel_rfl) (by kernel_rfl) (by kernel_rfl) .i64 (by kernel_rfl) (y:=1) (s:=wrap64 (x+1)) h hz (by rw [←show IntKind.i64.wrap (x+1)=wrap64 (x+1) from IntWalk.i64_left (x+1)];simp [go_sem])
 go_enter Tryz.func99, Tryz.ntmps99
 go_wp2
 go_ret
 exact ⟨rfl,rfl⟩
/-- what a line counts where a message comes in: j = 0 sent, 3 doubled -/
def Tn.up (q:Tn) (j:Nat):Tn:=match j with
 | 0=>{ q with s:=wrap64 (q.s+1)}
 | 1=>{ q with d:=wrap64 (q.d+1)}
 | 2=>{ q with l:=wrap64 (q.l+1)}
 | _=>{ q with t:=wrap64 (q.t+1)}
set_option maxHeartbeats 4000000 in
theorem tadd0_any {w0:World} {F:Nat→Prop} {L:List Asn} {t:Nat} {q:Tn} {X:List Ms} {a:Option Addr} {k:Nat} (x:Ms) (w:World) (h:Sep w0 F (lnB t q a X.length k::lnR X a k::L) w) (hl:X.length≤64) :
  Calls Tryz.prog 48 #[ptrV t,msV x,.pointer (some ⟨t,0,none⟩)] w fun e w'=>(64≤X.length∧e=.returned (errV 5)∧Sep w0 F (lnB t q a X.length k::lnR X a k::L) w')∨(X.length<64∧e=.returned .nilIface∧∃ a' k',Sep w0 F (lnB t (q.up 0) a' (X.length+1) k'::lnR (X++[x]) a' k'::L) w'):=by
 have H:=Lib.hid' h
 obtain ⟨xa,xk,xd⟩:=x
 rw [show msV ⟨xa,xk,xd⟩=.slice xa xd.length xk from rfl]
 have c4:=h.cell 0 rfl 4 rfl;have tl:=h.lt 0 rfl
 clear h
 by_cases hf:64≤X.length
 ·go_enter Tryz.func48, Tryz.ntmps48
  go_wp2_with fail
  go_ret
  exact .inl ⟨hf,rfl,H.out⟩
 go_enter Tryz.func48, Tryz.ntmps48
 have hX:X.length<64:=by omega
 have f4:=H.out.free 0 rfl 4
 have H1:=H.out.allocAt w.heap.size [.slice xa xd.length xk] 26 rfl
 go_upto_region 4 with (at_builtin;refine Sep.append etMsg rfl (.tmp 18) (.tmp 20) rfl [.slice xa xd.length xk] rfl H.out 1 rfl rfl rfl (by simp [Value.oneCell']) (by omega) ?_;intro a7 c7 w7 H7;have p3:=H7.cell 1 rfl 4 rfl;have pf:=H7.free 1 rfl 4;have pl:=H7.lt 1 rfl)
 have H8:=H7.set 1 rfl 4 (.slice a7 (X.length+1) c7)
 rw [show Asn.row 26 1 (.slice a7 (X.length+1) c7) (X.length+1) (X.map msV++[.slice xa xd.length xk])=lnR (X++[⟨xa,xk,xd⟩]) a7 c7 by
  show _=Asn.row _ _ _ _ _
  rw [List.length_append,List.map_append]
  rfl] at H8
 have HB:=Zh (show Sep w0 F (lnB t q a7 (X.length+1) c7::lnR (X++[⟨xa,xk,xd⟩]) a7 c7::L) (w7.setCell ⟨t,4,none⟩ (.slice a7 (X.length+1) c7)) from H8)
 clear H7 H8 p3 pf pl f4 c4 tl H1 H
 generalize w7.setCell ⟨t,4,none⟩ (.slice a7 (X.length+1) c7)=w8 at *
 have HA:=Zh (aadd_any w8 (HB.out.cell 0 rfl 0 rfl) (HB.out.free 0 rfl 0))
 go_wp2_with fail
 refine HA.out.mono ?_
 rintro en w9 ⟨rfl,rfl⟩
 have H9:=Zh (HB.out.set 0 rfl 0 (.int .i64 (wrap64 (q.s+1))))
 generalize w8.setCell ⟨t,0,none⟩ (.int .i64 (wrap64 (q.s+1)))=w9 at *
 clear HA HB
 go_wp2_with fail
 go_ret
 exact .inr ⟨hX,rfl,a7,c7,H9.out⟩
set_option maxHeartbeats 4000000 in
theorem tsend_long {w0:World} {F:Nat→Prop} {L:List Asn} {t:Nat} (x:Ms) (w:World) (h:Sep w0 F L w) (hl:65536<x.d.length):Calls Tryz.prog 20 #[ptrV t,msV x] w fun e w'=>e=.returned (errV 3)∧Sep w0 F L w':=by
 obtain ⟨xa,xk,xd⟩:=x
 rw [show msV ⟨xa,xk,xd⟩=.slice xa xd.length xk from rfl] at *
 have hf:65536<xd.length:=hl
 go_enter Tryz.func20, Tryz.ntmps20
 go_wp2_with fail
 go_ret
 exact ⟨rfl,h⟩
/-- what a sent message's line is -/
def SendR (w0:World) (F:Nat→Prop) (t:Nat) (q:Tn) (X:List Ms) (a:Option Addr) (k:Nat) (L:List Asn) (y:Ms) (v:Value) (w':World):Prop :=
 (64≤X.length∧v=errV 5∧Sep w0 F (lnB t q a X.length k::lnR X a k::L) w') ∨
 (X.length<64∧v=.nilIface∧∃ a' k',Sep w0 F (lnB t (q.up 0) a' (X.length+1) k'::lnR (X++[y]) a' k'::L) w')
theorem SendR.lt {w0:World} {F:Nat→Prop} {t:Nat} {q:Tn} {X:List Ms} {a:Option Addr} {k:Nat} {L:List Asn} {y:Ms} {v:Value} {w':World} (h:SendR w0 F t q X a k L y v w'):t<w'.heap.size:=by
 rcases h with ⟨_,_,h⟩ | ⟨_,_,_,_,h⟩
 ·exact h.lt 0 rfl
 ·exact h.lt 0 rfl
set_option maxHeartbeats 4000000 in
theorem tsend_any {w0:World} {F:Nat→Prop} {L:List Asn} {t:Nat} {q:Tn} {X:List Ms} {a:Option Addr} {k:Nat} {Z:Nat→Prop} {vs:PoolL} (x:Ms) (w:World) (h:Sep w0 F (lnB t q a X.length k::lnR X a k::Asn.pool Z vs::L) w) (hl:X.length≤64) (hx:Bytes w (msV x) x.d) (hf:x.d.length≤65536) :
  Calls Tryz.prog 20 #[ptrV t,msV x] w fun e w'=>∃ Z' y,y.d=x.d∧∃ v,e=.returned v∧SendR w0 F t q X a k (Asn.pool Z' ((msV y,y.d)::vs)::L) y v w':=by
 have H:=Lib.hid' h
 obtain ⟨xa,xk,xd⟩:=x
 rw [show msV ⟨xa,xk,xd⟩=.slice xa xd.length xk from rfl] at *
 have hf2:¬65536<xd.length:=by have:xd.length≤65536:=hf;omega
 have HC:=Zh (clone_any (.slice xa xd.length xk) xd w.drew (SlV.below hx (Nat.le_refl _) ((Below.refl _ w).drew)) (by have:xd.length≤65536:=hf;omega))
 clear h hx hf
 go_enter Tryz.func20, Tryz.ntmps20
 go_upto_region 5 with fail
 refine startD (S:=(fun w'=>t<w'.heap.size)) (by kernel_rfl) (H.out.lt 0 rfl) (fun hH0=>?_)
 simp only [List.length_cons,List.length_nil,Nat.reduceAdd,List.replicate_succ,List.replicate_zero]
 refine tD 0 14 (ptrV t) rfl rfl [(0,ptrV t)] hH0 ?_
 dsimp only [sZ,sS]
 refine tD 1 15 (.slice xa xd.length xk) rfl rfl [(1,.slice xa xd.length xk)] hH0 ?_
 dsimp only [sZ,sS]
 refine tD 3 17 (.pointer (some ⟨t,0,none⟩)) rfl rfl [(0,ptrV t)] hH0 ?_
 dsimp only [sZ,sS]
 refine tD 4 18 (.pointer (some ⟨t,0,none⟩)) rfl rfl [(17,.pointer (some ⟨t,0,none⟩))] hH0 ?_
 dsimp only [sZ,sS]
 refine tD 5 19 (.pointer (some ⟨t,0,none⟩)) rfl rfl [(18,.pointer (some ⟨t,0,none⟩))] hH0 ?_
 dsimp only [sZ,sS]
 refine tD 6 20 (.pointer (some ⟨t,0,none⟩)) rfl rfl [(19,.pointer (some ⟨t,0,none⟩))] hH0 ?_
 dsimp only [sZ,sS]
 refine rD 2 rfl (fun K hK=>?_)
 go_simp
 refine HC.out.mono ?_
 rintro en w1 ⟨a1,c1,rfl,ho,hb⟩
 obtain ⟨Z1,h1⟩:=Sep.toPool (((H.out.drew.belowRow hb ho).focus 3 rfl).focus 1 rfl)
 have H1:=Zh ((h1.focus 2 rfl).focus 2 rfl)
 clear h1 ho hb HC
 refine hK.out _ _ ?_ (fun hH1=>?_)
 ·exact H1.out.lt 0 rfl
 clear hK K
 try simp only [Act.put,gA,gZ,gS,sA,sZ,sS]
 refine rD 7 rfl (fun K hK=>?_)
 go_simp
 refine (tadd0_any (x:=⟨a1,c1,xd⟩) w1 H1.out hl).mono ?_
 rintro en w2 hor
 obtain ⟨v,rfl,hv⟩:∃ v,en=.returned v∧SendR w0 F t q X a k (Asn.pool Z1 ((.slice a1 xd.length c1,xd)::vs)::L) ⟨a1,c1,xd⟩ v w2:=by
  rcases hor with ⟨g1,rfl,g3⟩ | ⟨g1,rfl,g3⟩
  ·exact ⟨_,rfl,.inl ⟨g1,rfl,g3⟩⟩
  ·exact ⟨_,rfl,.inr ⟨g1,rfl,g3⟩⟩
 have HV:=Lib.hid' hv
 have htl:=hv.lt
 clear hor hv
 refine hK.out _ _ ?_ (fun hH2=>?_)
 ·exact htl
 clear hK K
 try simp only [Act.put,gA,gZ,gS,sA,sZ,sS]
 refine tD 8 4 (v) rfl rfl [(21,v)] hH2 ?_
 dsimp only [sZ,sS]
 refine wpAnyH_done (by kernel_rfl) ?_ _
 go_wp2_with fail
 go_ret
 exact ⟨Z1,⟨a1,c1,xd⟩,rfl,v,rfl,HV.out⟩
theorem thas_any {w0:World} {F:Nat→Prop} {L:List Asn} {t n:Nat} {q:Tn} {a:Option Addr} {k:Nat} (i:Int) (w:World) (h:Sep w0 F (lnB t q a n k::L) w):Calls Tryz.prog 100 #[ptrV t,.int .i64 i] w fun e w'=>e=.returned (errV (if 0≤i∧i<(n:Int) then 0 else 1))∧w=w':=by
 have c4:=h.cell 0 rfl 4 rfl;have tl:=h.lt 0 rfl
 have H1:=Zh (show 0≤i∧i<(n:Int)→(if 0≤i∧i<(n:Int) then 0 else 1)=0 from fun h=>if_pos h)
 have H2:=Zh (show ¬(0≤i∧i<(n:Int))→(if 0≤i∧i<(n:Int) then 0 else 1)=1 from fun h=>if_neg h)
 generalize (if 0≤i∧i<(n:Int) then 0 else 1)=r at *
 clear h
 by_cases h0:i<0
 ·obtain rfl:=H2.out (by omega)
  go_enter Tryz.func100, Tryz.ntmps100
  go_wp2_with fail
  go_ret
  exact ⟨rfl,rfl⟩
 by_cases h1:(n:Int)≤i
 ·obtain rfl:=H2.out (by omega)
  go_enter Tryz.func100, Tryz.ntmps100
  go_wp2_with fail
  go_ret
  exact ⟨rfl,rfl⟩
 obtain rfl:=H1.out (by omega)
 go_enter Tryz.func100, Tryz.ntmps100
 go_wp2_with fail
 go_ret
 exact ⟨rfl,rfl⟩
theorem own_less {w:World} {B e size n m c:Nat} {a:Option Addr} {xs:List Value} (h:w.ownsRow B e size (.slice a n c) n xs) (hm:m≤n) (hn:0<n):w.ownsRow B e size (.slice a m c) m (xs.take (m*size)):=by
 rcases own_cases h with ⟨_,h0,_⟩ | ⟨g,cur,rfl,h1,h2,h3,h4,h5,h6,h7⟩
 ·omega
 ·refine ⟨by rw [List.length_take,h.1];exact Nat.min_eq_left (Nat.mul_le_mul_right _ hm),.inr ⟨g,c,cur,rfl,h1,h3,by omega,h5,h6,?_⟩⟩
  rw [←h7,List.take_take,Nat.min_eq_left (Nat.mul_le_mul_right _ hm)]
theorem msg_cut {X:List Ms} {i m:Nat} (h:X.length=i+1+m):((((X.map msV).take i++(X.drop (i+1)).map msV++(X.map msV).drop (i+m)).take (i+m)++[Value.slice none 0 0]++((X.map msV).take i++(X.drop (i+1)).map msV++(X.map msV).drop (i+m)).drop (i+m+1))).take (i+m)=(X.eraseIdx i).map msV:=by
 have h1:((X.map msV).take i++(X.drop (i+1)).map msV).length=i+m:=by
  rw [List.length_append,List.length_take,List.length_map,List.length_map,List.length_drop];omega
 rw [List.take_append_of_le_length (by rw [List.length_append,List.length_take,List.length_append,h1];omega)]
 rw [List.take_append_of_le_length (by rw [List.length_take,List.length_append,h1];omega)]
 rw [List.take_take,Nat.min_self,List.take_append_of_le_length (by omega),List.take_of_length_le (by omega),List.eraseIdx_eq_take_drop_succ,List.map_append,List.map_take]
set_option maxHeartbeats 4000000 in
theorem deleteM_any {w0:World} {F:Nat→Prop} {L:List Asn} {X:List Ms} {a:Option Addr} {k:Nat} (i m:Nat) (w:World) (h:Sep w0 F (lnR X a k::L) w) (hX:X.length=i+1+m) (hl:X.length≤1000) :
  Calls Tryz.prog 138 #[.slice a X.length k,.int .i64 i,.int .i64 ((i:Int)+1)] w fun e w'=>e=.returned (.slice a (i+m) k)∧Sep w0 F (lnR (X.eraseIdx i) a k::L) w':=by
 obtain ⟨g,cur,rfl,_,hg,hh,h1,h2,h3,h4⟩:=(own_cases (h.row 0 rfl)).resolve_left (by rintro ⟨_,h0,_⟩;omega)
 have hsl:SlV w.drew (.slice (some ⟨g,0,none⟩) X.length k) X.length (X.map msV):=SlV.of_own (h.drew.row 0 rfl)
 have hcl:∀ j u,(X.map msV)[j]?=some u→w.drew.cell? ⟨g,0+j,none⟩=some u:=fun j u hu=>by
  obtain ⟨p,he,hc⟩:=slv_at hsl hu
  cases he
  rwa [Addr.add_lit] at hc
 have HD:=Lib.hid' h.drew
 obtain ⟨news,hnews⟩:∃ news,news=(X.drop (i+1)).map msV:=⟨_,rfl⟩
 have hlen:news.length=m:=by rw [hnews];simp;omega
 have hone:∀ u∈news,u.oneCell'=true:=fun u hu=>by rw [hnews] at hu;obtain ⟨x,_,rfl⟩:=List.mem_map.1 hu;rfl
 obtain ⟨A,hA,hsrc⟩:∃ A:Addr,(if k=i+1 then some (⟨g,0,none⟩:Addr) else some ⟨g,i+1,none⟩)=some A∧∀ j u,news[j]?=some u→w.drew.cell? (A.add j)=some u:=by
  by_cases hk:k=i+1
  ·refine ⟨⟨g,0,none⟩,by simp [hk],fun j u hu=>?_⟩
   have:news.length=0:=by omega
   rw [List.length_eq_zero_iff.1 this] at hu
   simp at hu
  ·refine ⟨⟨g,i+1,none⟩,by simp [hk],fun j u hu=>?_⟩
   rw [hnews,List.map_drop,List.getElem?_drop] at hu
   rw [Addr.add_lit]
   have:=hcl _ _ hu
   rwa [Nat.zero_add] at this
 have hsp:∀ j,j<news.length→(w.drew.cell? ⟨g,0+i*1+j,none⟩).isSome=true∧w.drew.frozen? ⟨g,0+i*1+j,none⟩=false:=fun j hj=>by
  refine ⟨?_,?_⟩
  ·have hj2:i+j<(X.map msV).length:=by rw [List.length_map];omega
   have:=hcl (i+j) _ (List.getElem?_eq_getElem hj2)
   rw [show 0+i*1+j=0+(i+j) by omega,this];rfl
  ·have hgf:w.drew.heap[g]?=some (.cells cur 26 (0,0)):=hh
   unfold World.frozen?
   rw [hgf]
   simp
 obtain ⟨W1,hW1⟩:∃ W1,W1=w.drew.setCells g (0+i*1) news:=⟨_,rfl⟩
 have hs1:=HD.out.storeRow 0 rfl (0+i*1) news (by rw [hlen];omega)
 rw [←hW1] at hs1
 have hs1':Sep w0 F (.row 26 1 (.slice (some ⟨g,0,none⟩) X.length k) X.length ((X.map msV).take i++(X.drop (i+1)).map msV++(X.map msV).drop (i+m))::L) W1:=by
  rw [show (0:Nat)+i*1=i by omega,hlen,hnews] at hs1;exact hs1
 have hs2:=hs1'.storeRow 0 rfl (i+m) [Value.slice none 0 0] (by simp;omega)
 have hR2:=own_less (m:=i+m) (hs2.row 0 rfl) (by omega) (by omega)
 rw [Nat.mul_one,show ([Value.slice none 0 0]:List Value).length=1 from rfl,msg_cut hX] at hR2
 have hs3:=Zh (hs2.turn (B:=lnR (X.eraseIdx i) (some ⟨g,0,none⟩) k) (by
  show World.ownsRow _ 0 _ 1 _ _ _
  rw [show (X.eraseIdx i).length=i+m by rw [List.length_eraseIdx,if_pos (by omega)];omega]
  exact hR2) (fun b hb=>hb))
 have hc1:∀ j,j<1→(W1.cell? ⟨g,i+m+j,none⟩).isSome=true∧W1.frozen? ⟨g,i+m+j,none⟩=false:=fun j hj=>by
  obtain rfl:j=0:=by omega
  have hrow:=hs1'.row 0 rfl
  rcases own_cases hrow with ⟨e,_⟩ | ⟨g2,cur2,e,_,hg2,hh2,k1,k2,k3,k4⟩
  ·cases e
  ·cases e
   refine ⟨?_,?_⟩
   ·unfold World.cell?
    rw [hh2]
    have:i+m<cur2.size:=by omega
    simp [this]
   ·unfold World.frozen?
    rw [hh2]
    simp
 have hclr:∀ ty,(Builtin.clear_ #[114] ty #[.slice (some ⟨g,i+m,none⟩) (X.length - (i+m)) (k - (i+m))]).run Tryz.prog W1=.ok (.tuple #[]) (W1.setCells g (i+m) (List.replicate (X.length - (i+m)) (.slice none 0 0))):=fun ty=>by
  refine Lib.run_clear_slice W1 _ 26 ty (.slice none 0 0) Tryz.underlying114 (fun w=>?_) rfl rfl g (i+m) _ _ (by omega) (fun j hj=>(hc1 j (by omega)).1) (fun j hj=>(hc1 j (by omega)).2)
  exact Tryz.zeroValue26 w
 obtain ⟨i0,z0,hi0,_,hz1,_,_⟩:=etMsg.info
 have hi1:i≤k:=by omega
 have hi2:i+1≤k:=by omega
 have hi3:i+m≤k:=by omega
 have hi4:i+1≤X.length:=by omega
 have hi5:i+m≤X.length:=by omega
 have hi6:¬k=i+m:=by omega
 have HW:=Lib.hid' hW1
 have HN:=Lib.hid' hlen
 have HS:=Lib.hid' hsrc
 have HP:=Lib.hid' hsp
 have HO:=Lib.hid' hone
 have hm:X.length - (i+1)=m:=by omega
 have hr1:X.length - (i+m)=1:=by omega
 have hi7:(i:Int)+1≤(X.length:Int):=by omega
 have hi8:0≤(i:Int)+1:=by omega
 have HR1:=Lib.hid' hr1
 have HXX:=Lib.hid' hX
 clear hX
 clear hr1 hs1 hs1' hs2 hR2 hc1 hcl hsl h hnews hh h3 h4 hW1 hlen hsrc hsp hone
 go_enter Tryz.func138, Tryz.ntmps138
 go_wp2_with fail
 go_region_law (refine step_append_room rfl (.tmp 22) (.tmp 25) 114 rfl 26 i0 1 etMsg.under hi0 hz1 g 0 i k (by simp [Act.eval,Act.put]) A m (k - (i+1)) news (by simp [Act.eval,Act.put,hm]) (by rw [HN.out];omega) HS.out HO.out (by omega) HP.out ?_;rw [←HW.out])
 go_wp2_with fail
 go_ret
 refine ⟨rfl,?_⟩
 have:=hs3.out
 simpa [HR1.out] using this
/-- a line of messages with these bytes -/
def lineI (t:Nat) (D:List (List UInt8)) (K:List Asn):Prop:=∃ q X a k Z vs,K=[lnB t q a X.length k,lnR X a k,Asn.pool Z vs]∧X.map (·.d)=D∧(∀ x∈X,(msV x,x.d)∈vs)∧X.length≤64∧∀ x∈X,x.d.length≤65536
abbrev lineA (t:Nat) (D:List (List UInt8)) (G:Nat→Prop):Asn:=Asn.ex (lineI t D) G
theorem line_new {w0:World} {F:Nat→Prop} {L:List Asn} (w:World) (h:Sep w0 F L w):Calls Tryz.prog 16 #[] w fun e w'=>e=.returned (ptrV w.heap.size)∧∃ G,Sep w0 F (lineA w.heap.size [] G::L) w':=by
 refine (tnew_any w h).mono ?_
 rintro e w' ⟨rfl,h'⟩
 have h2:=((h'.pool0.focus 1 rfl).focus 2 rfl).swap1
 obtain ⟨G,h3⟩:=Sep.pack (I:=lineI w.heap.size []) [lnB w.heap.size ⟨0,0,0,0⟩ none 0 0,lnR [] none 0,Asn.pool NoF [nilB]] (L:=L) h2 ⟨⟨0,0,0,0⟩,[],none,0,NoF,[nilB],rfl,rfl,by simp,by decide,by simp⟩
 exact ⟨rfl,G,h3⟩
/-- a send: an error's number, the line then -/
def sendS (D:List (List UInt8)) (d:List UInt8):Nat×List (List UInt8):=if 65536<d.length then (3,D) else if 64≤D.length then (5,D) else (0,D++[d])
theorem line_send {w0:World} {F G:Nat→Prop} {L:List Asn} {t:Nat} {D:List (List UInt8)} (d:List UInt8) (da:Option Addr) (dc:Nat) (w:World) (h:Sep w0 F (lineA t D G::L) w) (hd:Bytes w (.slice da d.length dc) d) :
  Calls Tryz.prog 20 #[ptrV t,.slice da d.length dc] w fun e w'=>e=.returned (errV (sendS D d).1)∧∃ G',Sep w0 F (lineA t (sendS D d).2 G'::L) w':=by
 obtain ⟨K,⟨q,X,a,k,Z,vs,rfl,rfl,hv,hl,hb⟩,h1⟩:=h.unpack
 unfold sendS
 rw [List.length_map]
 by_cases h3:65536<d.length
 ·rw [if_pos h3]
  refine (tsend_long (t:=t) ⟨da,dc,d⟩ w h h3).mono ?_
  rintro e w' ⟨rfl,h'⟩
  exact ⟨rfl,G,h'⟩
 ·rw [if_neg h3]
  refine (tsend_any ⟨da,dc,d⟩ w h1 hl hd (by show d.length≤65536;omega)).mono ?_
  rintro e w' ⟨Z',y,hy,v,rfl,hs⟩
  rcases hs with ⟨g1,rfl,g3⟩ | ⟨g1,rfl,a',k',g3⟩
  ·rw [if_pos g1]
   obtain ⟨G',h4⟩:=Sep.pack (I:=lineI t (X.map (·.d))) [lnB t q a X.length k,lnR X a k,Asn.pool Z' ((msV y,y.d)::vs)] (L:=L) g3 ⟨q,X,a,k,Z',_,rfl,rfl,fun x hx=>List.mem_cons_of_mem _ (hv x hx),hl,hb⟩
   exact ⟨rfl,G',h4⟩
  ·rw [if_neg (by omega)]
   have e1:X.length+1=(X++[y]).length:=by simp
   rw [e1] at g3
   obtain ⟨G',h4⟩:=Sep.pack (I:=lineI t (X.map (·.d)++[d])) [lnB t (q.up 0) a' (X++[y]).length k',lnR (X++[y]) a' k',Asn.pool Z' ((msV y,y.d)::vs)] (L:=L) g3 ⟨q.up 0,X++[y],a',k',Z',_,rfl,by rw [List.map_append];show _++[y.d]=_;rw [hy],fun x hx=>by
    rcases List.mem_append.1 hx with hx | hx
    ·exact List.mem_cons_of_mem _ (hv x hx)
    ·obtain rfl:=List.mem_singleton.1 hx;exact List.mem_cons_self,by simp;omega,fun x hx=>by
    rcases List.mem_append.1 hx with hx | hx
    ·exact hb x hx
    ·obtain rfl:=List.mem_singleton.1 hx;rw [hy];show d.length≤65536;omega⟩
   exact ⟨rfl,G',h4⟩
set_option maxHeartbeats 4000000 in
theorem tdrop_any {w0:World} {F:Nat→Prop} {L:List Asn} {t:Nat} {q:Tn} {X:List Ms} {a:Option Addr} {k:Nat} (i m j:Nat) (hj:j=1∨j=2) (w:World) (h:Sep w0 F (lnB t q a X.length k::lnR X a k::L) w) (hX:X.length=i+1+m) (hl:X.length≤64) :
  Calls Tryz.prog 101 #[ptrV t,.int .i64 i,.pointer (some ⟨t,j,none⟩)] w fun e w'=>∃ q',e=.returned (msV (X[i]'(by omega)))∧Sep w0 F (lnB t q' a (i+m) k::lnR (X.eraseIdx i) a k::L) w':=by
 have H:=Lib.hid' h
 have c4:=h.cell 0 rfl 4 rfl;have tl:=h.lt 0 rfl;have f4:=h.free 0 rfl 4
 obtain ⟨g,cur,rfl,_⟩:=(own_cases (h.row 1 rfl)).resolve_left (by rintro ⟨_,h0,_⟩;omega)
 have hi:i<X.length:=by omega
 have hci:w.cell? ⟨g,0+i,none⟩=some (msV X[i]):=by
  obtain ⟨p,he,hc⟩:=slv_at (SlV.of_own (h.row 1 rfl)) (j:=i) (u:=msV X[i]) (by rw [List.getElem?_map,List.getElem?_eq_getElem hi];rfl)
  cases he
  rwa [Addr.add_lit] at hc
 rw [Nat.zero_add] at hci
 have HDL:=Zh (deleteM_any i m w ((h.focus 1 rfl)) hX (by omega))
 have hi2:(i:Int)<X.length:=by omega
 have HI:=Lib.hid' hi
 clear h
 generalize X[i]=y at *
 obtain ⟨ya,yk,yd⟩:=y
 rw [show msV ⟨ya,yk,yd⟩=.slice ya yd.length yk from rfl] at *
 have HX:=Lib.hid' hX
 clear hX
 go_enter Tryz.func101, Tryz.ntmps101
 go_wp2_with fail
 refine HDL.out.mono ?_
 clear HDL
 rintro en w2 ⟨rfl,h2⟩
 have H2:=Zh (h2.focus 1 rfl)
 clear h2 c4 tl f4 H hci
 have c4:=H2.out.cell 0 rfl 4 rfl;have tl:=H2.out.lt 0 rfl;have f4:=H2.out.free 0 rfl 4
 have H3:=Zh (H2.out.set 0 rfl 4 (.slice (some ⟨g,0,none⟩) (i+m) k))
 go_wp2_with fail
 clear c4 tl f4 H2
 generalize w2.setCell ⟨t,4,none⟩ (.slice (some ⟨g,0,none⟩) (i+m) k)=w3 at *
 rcases hj with rfl | rfl
 ·have HA:=Zh (aadd_any w3 (H3.out.cell 0 rfl 1 rfl) (H3.out.free 0 rfl 1))
  have H4:=Zh (H3.out.set 0 rfl 1 (.int .i64 (wrap64 (q.d+1))))
  refine HA.out.mono ?_
  rintro en w4 ⟨rfl,rfl⟩
  clear HA H3
  generalize w3.setCell ⟨t,1,none⟩ (.int .i64 (wrap64 (q.d+1)))=w4 at *
  go_wp2_with fail
  go_ret
  exact ⟨q.up 1,rfl,H4.out⟩
 ·have HA:=Zh (aadd_any w3 (H3.out.cell 0 rfl 2 rfl) (H3.out.free 0 rfl 2))
  have H4:=Zh (H3.out.set 0 rfl 2 (.int .i64 (wrap64 (q.l+1))))
  refine HA.out.mono ?_
  rintro en w4 ⟨rfl,rfl⟩
  clear HA H3
  generalize w3.setCell ⟨t,2,none⟩ (.int .i64 (wrap64 (q.l+1)))=w4 at *
  go_wp2_with fail
  go_ret
  exact ⟨q.up 2,rfl,H4.out⟩
theorem map_erase {α β:Type} (f:α→β) (X:List α) (i:Nat):(X.eraseIdx i).map f=(X.map f).eraseIdx i:=by
 rw [List.eraseIdx_eq_take_drop_succ,List.eraseIdx_eq_take_drop_succ,List.map_append,List.map_take,List.map_drop]
/-- what a line is that a message is taken out of -/
theorem line_out {w0 w:World} {F:Nat→Prop} {L:List Asn} {t:Nat} {q:Tn} {X:List Ms} {a:Option Addr} {k i m:Nat} {Z:Nat→Prop} {vs:PoolL} (hX:X.length=i+1+m) (h:Sep w0 F (lnB t q a (i+m) k::lnR (X.eraseIdx i) a k::Asn.pool Z vs::L) w) (hv:∀ x∈X,(msV x,x.d)∈vs) (hl:X.length≤64) (hb:∀ x∈X,x.d.length≤65536):∃ G,Sep w0 F (lineA t ((X.map (·.d)).eraseIdx i) G::L) w:=by
 have e1:i+m=(X.eraseIdx i).length:=by rw [List.length_eraseIdx,if_pos (by omega)];omega
 rw [e1] at h
 exact Sep.pack (I:=lineI t ((X.map (·.d)).eraseIdx i)) [lnB t q a (X.eraseIdx i).length k,lnR (X.eraseIdx i) a k,Asn.pool Z vs] (L:=L) h ⟨q,X.eraseIdx i,a,k,Z,vs,rfl,map_erase _ _ _,fun x hx=>hv x (List.mem_of_mem_eraseIdx hx),by rw [←e1];omega,fun x hx=>hb x (List.mem_of_mem_eraseIdx hx)⟩
def DelR (w0:World) (F:Nat→Prop) (L:List Asn) (t:Nat) (D:List (List UInt8)) (i:Int) (en:Ending) (w':World):Prop :=
 (¬(0≤i∧i<(D.length:Int))∧en=.returned (.tuple #[.slice none 0 0,errV 1])∧∃ G,Sep w0 F (lineA t D G::L) w') ∨
 (∃ (n:Nat) (hn:n<D.length) (a:Option Addr) (c:Nat),i=n∧en=.returned (.tuple #[.slice a D[n].length c,.nilIface])∧∃ G,Sep w0 F (.row 5 1 (.slice a D[n].length c) D[n].length (byteVs D[n])::lineA t (D.eraseIdx n) G::L) w')
set_option maxHeartbeats 4000000 in
theorem line_deliver {w0:World} {F G:Nat→Prop} {L:List Asn} {t:Nat} {D:List (List UInt8)} (i:Int) (w:World) (h:Sep w0 F (lineA t D G::L) w) :
  Calls Tryz.prog 50 #[ptrV t,.int .i64 i] w (DelR w0 F L t D i):=by
 have H:=Lib.hid' h
 obtain ⟨K,⟨q,X,a,k,Z,vs,rfl,rfl,hv,hl,hb⟩,h1⟩:=h.unpack
 have HH:=Zh (thas_any i w h1)
 have tl:=h1.lt 0 rfl
 by_cases hi:0≤i∧i<(X.length:Int)
 ·rw [if_pos hi] at HH
  obtain ⟨n,rfl⟩:∃ n:Nat,i=n:=⟨i.toNat,by omega⟩
  obtain ⟨m,hm⟩:∃ m,X.length=n+1+m:=⟨X.length - (n+1),by omega⟩
  have hn:n<X.length:=by omega
  have HD:=Zh (tdrop_any n m 1 (.inl rfl) w h1 hm hl)
  have HBY:=Zh (hv _ (List.getElem_mem hn))
  have HDL:=Zh (hb _ (List.getElem_mem hn))
  have HLO:=Zh (fun (q':Tn) (w':World) (hh:Sep w0 F (lnB t q' a (n+m) k::lnR (X.eraseIdx n) a k::Asn.pool Z vs::L) w')=>line_out hm hh hv hl hb)
  have HE:=Zh (fun (v:Ms) (e:X[n]=v)=>show (X.map (·.d))[n]'(by rw [List.length_map];exact hn)=v.d by rw [List.getElem_map,e])
  have HN:=Zh (show n<(X.map (·.d)).length by rw [List.length_map];exact hn)
  have HE1:=Zh (HE.out _ rfl)
  clear hi hv hb h h1 HE
  unfold DelR
  generalize X[n]=y at *
  obtain ⟨ya,yk,yd⟩:=y
  rw [show msV ⟨ya,yk,yd⟩=.slice ya yd.length yk from rfl] at *
  go_enter Tryz.func50, Tryz.ntmps50
  go_wp2_with fail
  refine HH.out.mono ?_
  rintro en wz ⟨rfl,rfl⟩
  rw [errV_0]
  go_wp2_with fail
  refine HD.out.mono ?_
  rintro en w2 ⟨q',rfl,h2⟩
  have H2:=Lib.hid' h2
  have HC:=Zh (clone_any (.slice ya yd.length yk) yd w2 (h2.bytes 2 rfl HBY.out) (by have:yd.length≤65536:=HDL.out;omega))
  clear HD HH tl h2
  go_wp2_with fail
  refine HC.out.mono ?_
  rintro en w3 ⟨a3,c3,rfl,ho3,hb3⟩
  have H3:=Zh (H2.out.below hb3)
  obtain ⟨G',h4⟩:=HLO.out q' w2 H2.out
  have H4:=Zh (h4.belowRow hb3 ho3)
  clear ho3 hb3 h4 H2 HC H3
  go_wp2_with fail
  go_ret2
  refine .inr ⟨n,HN.out,a3,c3,rfl,?_⟩
  rw [HE1.out]
  exact ⟨rfl,G',H4.out⟩
 ·rw [if_neg hi] at HH
  have HI:=Zh (show ¬(0≤i∧i<((X.map (·.d)).length:Int)) by rw [List.length_map];exact hi)
  clear hi h1 hv hb
  unfold DelR
  generalize X.map (·.d)=D at *
  go_enter Tryz.func50, Tryz.ntmps50
  go_wp2_with fail
  refine HH.out.mono ?_
  rintro en wz ⟨rfl,rfl⟩
  go_wp2_with fail
  go_ret2
  exact .inl ⟨HI.out,rfl,G,H.out⟩
/-- what is left where one is lost -/
def loseS (D:List (List UInt8)) (i:Int):List (List UInt8):=if 0≤i∧i<(D.length:Int) then D.eraseIdx i.toNat else D
theorem line_lose {w0:World} {F G:Nat→Prop} {L:List Asn} {t:Nat} {D:List (List UInt8)} (i:Int) (w:World) (h:Sep w0 F (lineA t D G::L) w) :
  Calls Tryz.prog 51 #[ptrV t,.int .i64 i] w fun en w'=>∃ v G',en=.returned v∧Sep w0 F (lineA t (loseS D i) G'::L) w':=by
 have H:=Lib.hid' h
 obtain ⟨K,⟨q,X,a,k,Z,vs,rfl,rfl,hv,hl,hb⟩,h1⟩:=h.unpack
 have HH:=Zh (thas_any i w h1)
 have tl:=h1.lt 0 rfl
 unfold loseS
 rw [List.length_map]
 by_cases hi:0≤i∧i<(X.length:Int)
 ·rw [if_pos hi] at HH ⊢
  obtain ⟨n,rfl⟩:∃ n:Nat,i=n:=⟨i.toNat,by omega⟩
  obtain ⟨m,hm⟩:∃ m,X.length=n+1+m:=⟨X.length - (n+1),by omega⟩
  have hn:n<X.length:=by omega
  have HD:=Zh (tdrop_any n m 2 (.inr rfl) w h1 hm hl)
  have HLO:=Zh (fun (q':Tn) (w':World) (hh:Sep w0 F (lnB t q' a (n+m) k::lnR (X.eraseIdx n) a k::Asn.pool Z vs::L) w')=>line_out hm hh hv hl hb)
  rw [Int.toNat_natCast]
  clear hi hv hb h h1
  generalize (X.map (·.d)).eraseIdx n=D' at *
  go_enter Tryz.func51, Tryz.ntmps51
  go_wp2_with fail
  refine HH.out.mono ?_
  rintro en wz ⟨rfl,rfl⟩
  rw [errV_0]
  go_wp2_with fail
  refine HD.out.mono ?_
  rintro en w2 ⟨q',rfl,h2⟩
  obtain ⟨G',h4⟩:=HLO.out q' w2 h2
  have H4:=Lib.hid' h4
  clear h4 h2 HD
  go_wp2_with fail
  go_ret
  exact ⟨_,G',rfl,H4.out⟩
 ·rw [if_neg hi] at HH ⊢
  clear hi h1 hv hb
  generalize X.map (·.d)=D at *
  go_enter Tryz.func51, Tryz.ntmps51
  go_wp2_with fail
  refine HH.out.mono ?_
  rintro en wz ⟨rfl,rfl⟩
  go_wp2_with fail
  go_ret
  exact ⟨_,G,rfl,H.out⟩
end SL
end Go.Proofs.YtaodldbgikiekaaGreatDoor
