/- Proved here: a part of the proof (16 of 35). -/
import Derived.Test.YtaodldbgikiekaaGreatDoorW15
import Derived.Great.Walk
set_option linter.unusedSimpArgs false
set_option linter.unusedVariables false
set_option maxRecDepth 100000
namespace Go.Proofs.YtaodldbgikiekaaGreatDoor
open Go.RowKit
namespace DK

theorem etChg:ElemT Tryz.prog 191 300 4 64:=ElemT.mk' (z:=.agg #[.int .i64 0,.string ⟨#[]⟩,.string ⟨#[]⟩,.slice none 0 0]) Tryz.underlying191 (by kernel_rfl) rfl (by decide) (by decide)
theorem step_bs {P:Program} {t e size bytes:Nat} (T:ElemT P t e size bytes) {ops:Array Oper} {o:Oper} {a:Act} {w:World} {K:Act→World→Prop} {Q:Exit→Act→World→Prop} {Z:Prop} (hg:o.guard=none) (x:Operand) (ho:o.op=.buildSlice t 1 #[(0,x)])
  (Y:List Value) (hx:a.eval x=.agg Y.toArray) (hl:Y.length=size) (hs:size≤2 ^ 24) (h:K (a.put o.dst (.slice (some ⟨w.heap.size,0,none⟩) 1 1)) (w.alloc (.cells Y.toArray e))) :
  if Region.wanted o (yielded ops a.tmps)=true then Oper.wp P o a w K Q else Z:=by
 obtain ⟨i,z,hi,hz,hsz,_,hc⟩:=T.info
 have hp:=T.pos
 have hw:Region.wanted o (yielded ops a.tmps)=true:=by simp [Region.wanted,hg]
 rw [if_pos hw]
 refine Go.wp_buildSlice t e 1 #[(0,x)] ho Y.toArray i z T.under hi hz (by rw [hsz];omega) (by rw [hsz];omega) ?_ h
 have:=Go.Great.fill_whole (s:=size) T.pos [Value.agg Y.toArray] ((Array.range (1*size)).map (z.cells[· % z.cells.size]!)) (by
  intro v hv
  rw [List.mem_singleton] at hv
  subst hv
  simpa [Value.cells] using hl) (by simp)
 rw [hsz]
 simpa [hx,Value.cells] using this
theorem chgVs_snoc (P:List (Chg×Value)) (p:Chg×Value):chgVs (P++[p])=chgVs P++chgV p:=by unfold chgVs;rw [List.flatMap_append];simp
set_option maxHeartbeats 4000000 in
/-- a change is noted and done; its bytes' row is the disk's then -/
theorem add_any {N:Nat} {D:Dk} {G:Nat→Prop} (c:Chg) (v:Value) (w:World) (h:((Asn.disk N D G).sep (.row 5 1 v c.d.length (byteVs c.d))).holds w) (hk:c.kind<3) (hp:D.pend.length≤1073741824) :
  Calls Tryz.prog 209 #[ptrV N,.agg #[.int .i64 (c.kind:Nat),.string c.name,.string c.to,v]] w (fun e w'=>e=.returned (.tuple #[])∧∃ G',Sep w (fun b=>G b∨v.ownBlock=some b) [Asn.disk N (addD D c) G'] w'):=by
 have HS:=(Sep.start2 _ _ h).unpack
 obtain ⟨K,⟨bs,bh,u,P,Z,vs,Ls,Lh,rfl,hI⟩,H0⟩:=HS
 have H1:=((H0.focus 4 rfl).focus 5 rfl).toPool
 obtain ⟨Z',H1⟩:=H1
 have hv1:v.oneCell'=true:=by obtain ⟨_,_,e⟩:=own_shape (H0.row 5 rfl);rw [e];rfl
 have H2:=((((H1.focus 4 rfl).focus 4 rfl).focus 4 rfl).focus 4 rfl)
 have hI':=hI
 obtain ⟨i1,i2,i3,i4,i5⟩:=hI
 have hPl:P.length≤1073741824:=by have:=congrArg List.length i3;rw [List.length_map] at this;omega
 have HI:=Lib.hid' hI'
 clear i1 i2 i3 i4 i5 hI' h H0 H1
 obtain ⟨k,n,tn,d⟩:=c
 simp only at hk H2
 dsimp only
 have H3:=Zh (show Sep w (fun b=>G b∨v.ownBlock=some b) [.box N [.int .i64 D.room,.map (some bs),.map (some bh),u,.int .i64 D.fuse,.bool D.down] 193,.map bs Ls,.map bh Lh,.row 300 4 u P.length (chgVs P),.pool Z' ((v,d)::vs)] w from H2)
 clear H2
 go_enter Tryz.func209, Tryz.ntmps209
 go_upto_region 1 with fail
 have HB:=H3.out.allocAt w.heap.size [.int .i64 (k:Nat),.string n,.string tn,v] 300 rfl
 have H4:Sep w (fun b=>G b∨v.ownBlock=some b) [.box w.heap.size [.int .i64 (k:Nat),.string n,.string tn,v] 300,.box N [.int .i64 D.room,.map (some bs),.map (some bh),u,.int .i64 D.fuse,.bool D.down] 193,.map bs Ls,.map bh Lh,.row 300 4 u P.length (chgVs P),.pool Z' ((v,d)::vs)] _:=HB.drew
 have hs4:Sep w (fun b=>G b∨v.ownBlock=some b) [.box w.heap.size [.int .i64 (k:Nat),.string n,.string tn,v] 300,.box N [.int .i64 D.room,.map (some bs),.map (some bh),u,.int .i64 D.fuse,.bool D.down] 193,.map bs Ls,.map bh Lh,.row 300 4 u P.length (chgVs P),.pool Z' ((v,d)::vs)] (w.alloc (.cells #[.int .i64 (k:Nat),.string n,.string tn,v] 300)):=HB
 generalize w.heap.size=B at *
 generalize w.alloc (.cells #[.int .i64 (k:Nat),.string n,.string tn,v] 300)=w1 at *
 clear H3 HB

 have c3a:=hs4.cell 1 rfl 3 rfl
 have c3b:=(hs4.allocX (.cells #[.int .i64 (k:Nat),.string n,.string tn,v] 300)).cell 1 rfl 3 rfl
 refine startD (S:=(fun w'=>w'.cell? ⟨B,0,none⟩=some (.int .i64 (k:Nat))∧w'.cell? ⟨B,1,none⟩=some (.string n)∧w'.cell? ⟨B,2,none⟩=some (.string tn)∧w'.cell? ⟨B,3,none⟩=some v∧B<w'.heap.size)) (by kernel_rfl) ⟨H4.cell 0 rfl 0 rfl,H4.cell 0 rfl 1 rfl,H4.cell 0 rfl 2 rfl,H4.cell 0 rfl 3 rfl,H4.lt 0 rfl⟩ (fun hH0=>?_)
 simp only [List.length_cons,List.length_nil,Nat.reduceAdd,List.replicate_succ,List.replicate_zero]
 refine tD 0 4 (.pointer (some ⟨N,0,none⟩)) rfl rfl [(0,.pointer (some ⟨N,0,none⟩))] hH0 ?_
 dsimp only [sZ,sS]
 refine tD 1 5 (.pointer (some ⟨N,0,none⟩)) rfl rfl [(0,.pointer (some ⟨N,0,none⟩))] hH0 ?_
 dsimp only [sZ,sS]
 refine tD 2 6 (.pointer (some ⟨N,0,none⟩)) rfl rfl [(5,.pointer (some ⟨N,0,none⟩))] hH0 ?_
 dsimp only [sZ,sS]
 refine tD 3 7 (.pointer (some ⟨N,3,none⟩)) rfl rfl [(6,.pointer (some ⟨N,0,none⟩))] hH0 ?_
 dsimp only [sZ,sS]
 refine tD 5 9 (.agg #[.int .i64 (k:Nat),.string n,.string tn,v]) rfl rfl [(3,.pointer (some ⟨B,0,none⟩))] hH0 ?_
 dsimp only [sZ,sS]
 refine wpAnyH_ready (rs:=[4,6]) (by kernel_rfl) (by simp) (AllReadyH.cons (o:=_) rfl (fun K hK=>?_) (AllReadyH.cons (o:=_) rfl (fun K hK=>?_) AllReadyH.nil))
 ·skip
  go_simp
  refine hK.out _ _ ?_ (fun hH1=>?_)
  ·exact ⟨H4.cell 0 rfl 0 rfl,H4.cell 0 rfl 1 rfl,H4.cell 0 rfl 2 rfl,H4.cell 0 rfl 3 rfl,H4.lt 0 rfl⟩
  clear hK K
  try simp only [Act.put,gA,gZ,gS,sA,sZ,sS]
  refine rD 6 rfl (fun K hK=>?_)
  refine step_bs etChg rfl (.tmp 9) rfl [.int .i64 (k:Nat),.string n,.string tn,v] rfl rfl (by decide) ?_
  refine hK.out _ _ ?_ (fun hH2=>?_)
  ·exact ⟨(H4.allocX _).cell 0 rfl 0 rfl,(H4.allocX _).cell 0 rfl 1 rfl,(H4.allocX _).cell 0 rfl 2 rfl,(H4.allocX _).cell 0 rfl 3 rfl,(H4.allocX _).lt 0 rfl⟩
  clear hK K
  try simp only [Act.put,gA,gZ,gS,sA,sZ,sS]
  refine rD 7 rfl (fun K hK=>?_)
  refine Sep.appendStep (w:=w1.drew) etChg rfl (.tmp 8) (.tmp 10) rfl [.int .i64 (k:Nat),.string n,.string tn,v] rfl H4 4 rfl rfl rfl (by intro x hx;simp only [List.mem_cons,List.not_mem_nil,or_false] at hx;rcases hx with rfl | rfl | rfl | rfl;rfl;rfl;rfl;exact hv1) (by omega) ?_
  intro a5 c5 w5 H5
  have f5:=H5.free 2 rfl 3
  have hl5:=H5.lt 2 rfl
  have c5n:=H5.cell 2 rfl 3 rfl
  refine hK.out _ _ ?_ (fun hH3=>?_)
  ·exact ⟨H5.cell 1 rfl 0 rfl,H5.cell 1 rfl 1 rfl,H5.cell 1 rfl 2 rfl,H5.cell 1 rfl 3 rfl,H5.lt 1 rfl⟩
  clear hK K
  try simp only [Act.put,gA,gZ,gS,sA,sZ,sS]
  refine tD 8 12 (.pointer (some ⟨N,0,none⟩)) rfl rfl [(4,.pointer (some ⟨N,0,none⟩))] hH3 ?_
  dsimp only [sZ,sS]
  refine tD 9 13 (.pointer (some ⟨N,3,none⟩)) rfl rfl [(12,.pointer (some ⟨N,0,none⟩))] hH3 ?_
  dsimp only [sZ,sS]
  refine rD 10 rfl (fun K hK=>?_)
  go_simp
  have H6a:=H5.set 2 rfl 3 (.slice a5 (P.length+1) c5)
  clear H5
  refine hK.out _ _ ?_ (fun hH4=>?_)
  ·exact ⟨H6a.cell 2 rfl 0 rfl,H6a.cell 2 rfl 1 rfl,H6a.cell 2 rfl 2 rfl,H6a.cell 2 rfl 3 rfl,H6a.lt 2 rfl⟩
  clear hK K
  refine wpAnyH_done (by kernel_rfl) ?_ _
  have H6:Sep w (fun b=>G b∨v.ownBlock=some b) [.box N [.int .i64 D.room,.map (some bs),.map (some bh),.slice a5 (P.length+1) c5,.int .i64 D.fuse,.bool D.down] 193,.row 300 4 (.slice a5 (P.length+1) c5) (P.length+1) (chgVs P++[.int .i64 (k:Nat),.string n,.string tn,v]),.box B [.int .i64 (k:Nat),.string n,.string tn,v] 300,.map bs Ls,.map bh Lh,.pool Z' ((v,d)::vs)] (w5.setCell ⟨N,3,none⟩ (.slice a5 (P.length+1) c5)):=H6a
  clear H6a f5 c5n hl5 H4 hs4 c3a c3b
  generalize w5.setCell ⟨N,3,none⟩ (.slice a5 (P.length+1) c5)=w6 at *
  go_wp2_with fail
  have H7:=H6.drew
  have c72:=H7.cell 0 rfl 2 rfl
  have hl7:=H7.lt 0 rfl
  clear H6
  refine startD (S:=(fun w'=>w'.cell? ⟨B,0,none⟩=some (.int .i64 (k:Nat))∧w'.cell? ⟨B,1,none⟩=some (.string n)∧w'.cell? ⟨B,2,none⟩=some (.string tn)∧w'.cell? ⟨B,3,none⟩=some v∧B<w'.heap.size)) (by kernel_rfl) ⟨H7.cell 2 rfl 0 rfl,H7.cell 2 rfl 1 rfl,H7.cell 2 rfl 2 rfl,H7.cell 2 rfl 3 rfl,H7.lt 2 rfl⟩ (fun hH0=>?_)
  simp only [List.length_cons,List.length_nil,Nat.reduceAdd,List.replicate_succ,List.replicate_zero]
  refine tD 0 14 (.pointer (some ⟨N,0,none⟩)) rfl rfl [(0,.pointer (some ⟨N,0,none⟩))] hH0 ?_
  dsimp only [sZ,sS]
  refine tD 1 15 (.pointer (some ⟨N,0,none⟩)) rfl rfl [(14,.pointer (some ⟨N,0,none⟩))] hH0 ?_
  dsimp only [sZ,sS]
  refine tD 2 16 (.pointer (some ⟨N,2,none⟩)) rfl rfl [(15,.pointer (some ⟨N,0,none⟩))] hH0 ?_
  dsimp only [sZ,sS]
  refine tD 4 18 (.agg #[.int .i64 (k:Nat),.string n,.string tn,v]) rfl rfl [(3,.pointer (some ⟨B,0,none⟩))] hH0 ?_
  dsimp only [sZ,sS]
  refine rD 3 rfl (fun K hK=>?_)
  go_simp
  refine hK.out _ _ ?_ (fun hH1=>?_)
  ·exact ⟨H7.cell 2 rfl 0 rfl,H7.cell 2 rfl 1 rfl,H7.cell 2 rfl 2 rfl,H7.cell 2 rfl 3 rfl,H7.lt 2 rfl⟩
  clear hK K
  try simp only [Act.put,gA,gZ,gS,sA,sZ,sS]
  refine rD 5 rfl (fun K hK=>?_)
  go_simp
  refine (do_any bh Lh k n tn v _ (H7.at 4 rfl) hk).mono ?_
  rintro en w7 ⟨rfl,hm7,hf7⟩
  have H8:=(H7.focus 4 rfl).fr1 hf7 (B:=.map bh (doE Lh k n tn v)) hm7 (fun b hb=>.inr hb)
  refine hK.out _ _ ?_ (fun hH2=>?_)
  ·exact ⟨H8.cell 3 rfl 0 rfl,H8.cell 3 rfl 1 rfl,H8.cell 3 rfl 2 rfl,H8.cell 3 rfl 3 rfl,H8.lt 3 rfl⟩
  clear hK K
  refine wpAnyH_done (by kernel_rfl) ?_ _
  clear hm7 hf7 H7
  go_wp2_with fail
  go_end0
  have H9:=((((H8.drop 3).focus 2 rfl).focus 1 rfl).focus 3 rfl).focus 3 rfl
  obtain ⟨i1,i2,i3,i4,i5⟩:=HI.out
  exact ⟨rfl,Sep.close1 H9 ⟨bs,bh,.slice a5 (P.length+1) c5,P++[(⟨k,n,tn,d⟩,v)],Z',(v,d)::vs,Ls,doE Lh k n tn v,by rw [List.length_append,chgVs_snoc];rfl,i1.more (fun x hx=>List.mem_cons_of_mem _ hx),(i2.more (fun x hx=>List.mem_cons_of_mem _ hx)).do ⟨k,n,tn,d⟩ List.mem_cons_self,by rw [List.map_append,i3];rfl,fun x hx=>(by rcases List.mem_append.1 hx with hx | hx;exact List.mem_cons_of_mem _ (i4 x hx);obtain rfl:=List.mem_singleton.1 hx;exact List.mem_cons_self),List.mem_cons_of_mem _ i5⟩⟩
 ·skip
  refine step_bs etChg rfl (.tmp 9) rfl [.int .i64 (k:Nat),.string n,.string tn,v] rfl rfl (by decide) ?_
  refine hK.out _ _ ?_ (fun hH1=>?_)
  ·exact ⟨(H4.allocX _).cell 0 rfl 0 rfl,(H4.allocX _).cell 0 rfl 1 rfl,(H4.allocX _).cell 0 rfl 2 rfl,(H4.allocX _).cell 0 rfl 3 rfl,(H4.allocX _).lt 0 rfl⟩
  clear hK K
  try simp only [Act.put,gA,gZ,gS,sA,sZ,sS]
  refine rD 4 rfl (fun K hK=>?_)
  go_simp
  refine hK.out _ _ ?_ (fun hH2=>?_)
  ·exact ⟨(H4.allocX _).cell 0 rfl 0 rfl,(H4.allocX _).cell 0 rfl 1 rfl,(H4.allocX _).cell 0 rfl 2 rfl,(H4.allocX _).cell 0 rfl 3 rfl,(H4.allocX _).lt 0 rfl⟩
  clear hK K
  try simp only [Act.put,gA,gZ,gS,sA,sZ,sS]
  refine rD 7 rfl (fun K hK=>?_)
  refine Sep.appendStep (w:=w1.drew) etChg rfl (.tmp 8) (.tmp 10) rfl [.int .i64 (k:Nat),.string n,.string tn,v] rfl H4 4 rfl rfl rfl (by intro x hx;simp only [List.mem_cons,List.not_mem_nil,or_false] at hx;rcases hx with rfl | rfl | rfl | rfl;rfl;rfl;rfl;exact hv1) (by omega) ?_
  intro a5 c5 w5 H5
  have f5:=H5.free 2 rfl 3
  have hl5:=H5.lt 2 rfl
  have c5n:=H5.cell 2 rfl 3 rfl
  refine hK.out _ _ ?_ (fun hH3=>?_)
  ·exact ⟨H5.cell 1 rfl 0 rfl,H5.cell 1 rfl 1 rfl,H5.cell 1 rfl 2 rfl,H5.cell 1 rfl 3 rfl,H5.lt 1 rfl⟩
  clear hK K
  try simp only [Act.put,gA,gZ,gS,sA,sZ,sS]
  refine tD 8 12 (.pointer (some ⟨N,0,none⟩)) rfl rfl [(4,.pointer (some ⟨N,0,none⟩))] hH3 ?_
  dsimp only [sZ,sS]
  refine tD 9 13 (.pointer (some ⟨N,3,none⟩)) rfl rfl [(12,.pointer (some ⟨N,0,none⟩))] hH3 ?_
  dsimp only [sZ,sS]
  refine rD 10 rfl (fun K hK=>?_)
  go_simp
  have H6a:=H5.set 2 rfl 3 (.slice a5 (P.length+1) c5)
  clear H5
  refine hK.out _ _ ?_ (fun hH4=>?_)
  ·exact ⟨H6a.cell 2 rfl 0 rfl,H6a.cell 2 rfl 1 rfl,H6a.cell 2 rfl 2 rfl,H6a.cell 2 rfl 3 rfl,H6a.lt 2 rfl⟩
  clear hK K
  refine wpAnyH_done (by kernel_rfl) ?_ _
  have H6:Sep w (fun b=>G b∨v.ownBlock=some b) [.box N [.int .i64 D.room,.map (some bs),.map (some bh),.slice a5 (P.length+1) c5,.int .i64 D.fuse,.bool D.down] 193,.row 300 4 (.slice a5 (P.length+1) c5) (P.length+1) (chgVs P++[.int .i64 (k:Nat),.string n,.string tn,v]),.box B [.int .i64 (k:Nat),.string n,.string tn,v] 300,.map bs Ls,.map bh Lh,.pool Z' ((v,d)::vs)] (w5.setCell ⟨N,3,none⟩ (.slice a5 (P.length+1) c5)):=H6a
  clear H6a f5 c5n hl5 H4 hs4 c3a c3b
  generalize w5.setCell ⟨N,3,none⟩ (.slice a5 (P.length+1) c5)=w6 at *
  go_wp2_with fail
  have H7:=H6.drew
  have c72:=H7.cell 0 rfl 2 rfl
  have hl7:=H7.lt 0 rfl
  clear H6
  refine startD (S:=(fun w'=>w'.cell? ⟨B,0,none⟩=some (.int .i64 (k:Nat))∧w'.cell? ⟨B,1,none⟩=some (.string n)∧w'.cell? ⟨B,2,none⟩=some (.string tn)∧w'.cell? ⟨B,3,none⟩=some v∧B<w'.heap.size)) (by kernel_rfl) ⟨H7.cell 2 rfl 0 rfl,H7.cell 2 rfl 1 rfl,H7.cell 2 rfl 2 rfl,H7.cell 2 rfl 3 rfl,H7.lt 2 rfl⟩ (fun hH0=>?_)
  simp only [List.length_cons,List.length_nil,Nat.reduceAdd,List.replicate_succ,List.replicate_zero]
  refine tD 0 14 (.pointer (some ⟨N,0,none⟩)) rfl rfl [(0,.pointer (some ⟨N,0,none⟩))] hH0 ?_
  dsimp only [sZ,sS]
  refine tD 1 15 (.pointer (some ⟨N,0,none⟩)) rfl rfl [(14,.pointer (some ⟨N,0,none⟩))] hH0 ?_
  dsimp only [sZ,sS]
  refine tD 2 16 (.pointer (some ⟨N,2,none⟩)) rfl rfl [(15,.pointer (some ⟨N,0,none⟩))] hH0 ?_
  dsimp only [sZ,sS]
  refine tD 4 18 (.agg #[.int .i64 (k:Nat),.string n,.string tn,v]) rfl rfl [(3,.pointer (some ⟨B,0,none⟩))] hH0 ?_
  dsimp only [sZ,sS]
  refine rD 3 rfl (fun K hK=>?_)
  go_simp
  refine hK.out _ _ ?_ (fun hH1=>?_)
  ·exact ⟨H7.cell 2 rfl 0 rfl,H7.cell 2 rfl 1 rfl,H7.cell 2 rfl 2 rfl,H7.cell 2 rfl 3 rfl,H7.lt 2 rfl⟩
  clear hK K
  try simp only [Act.put,gA,gZ,gS,sA,sZ,sS]
  refine rD 5 rfl (fun K hK=>?_)
  go_simp
  refine (do_any bh Lh k n tn v _ (H7.at 4 rfl) hk).mono ?_
  rintro en w7 ⟨rfl,hm7,hf7⟩
  have H8:=(H7.focus 4 rfl).fr1 hf7 (B:=.map bh (doE Lh k n tn v)) hm7 (fun b hb=>.inr hb)
  refine hK.out _ _ ?_ (fun hH2=>?_)
  ·exact ⟨H8.cell 3 rfl 0 rfl,H8.cell 3 rfl 1 rfl,H8.cell 3 rfl 2 rfl,H8.cell 3 rfl 3 rfl,H8.lt 3 rfl⟩
  clear hK K
  refine wpAnyH_done (by kernel_rfl) ?_ _
  clear hm7 hf7 H7
  go_wp2_with fail
  go_end0
  have H9:=((((H8.drop 3).focus 2 rfl).focus 1 rfl).focus 3 rfl).focus 3 rfl
  obtain ⟨i1,i2,i3,i4,i5⟩:=HI.out
  exact ⟨rfl,Sep.close1 H9 ⟨bs,bh,.slice a5 (P.length+1) c5,P++[(⟨k,n,tn,d⟩,v)],Z',(v,d)::vs,Ls,doE Lh k n tn v,by rw [List.length_append,chgVs_snoc];rfl,i1.more (fun x hx=>List.mem_cons_of_mem _ hx),(i2.more (fun x hx=>List.mem_cons_of_mem _ hx)).do ⟨k,n,tn,d⟩ List.mem_cons_self,by rw [List.map_append,i3];rfl,fun x hx=>(by rcases List.mem_append.1 hx with hx | hx;exact List.mem_cons_of_mem _ (i4 x hx);obtain rfl:=List.mem_singleton.1 hx;exact List.mem_cons_self),List.mem_cons_of_mem _ i5⟩⟩

/-- the disk, opened to be read -/
structure DiskIn (N:Nat) (D:Dk) (bs bh:Nat) (v:Value) (n:Nat) (Ls Lh:List (ByteArray×Value)) (vs:Vs) (w:World):Prop where
 c0:w.cell? ⟨N,0,none⟩=some (.int .i64 D.room)
 c1:w.cell? ⟨N,1,none⟩=some (.map (some bs))
 c2:w.cell? ⟨N,2,none⟩=some (.map (some bh))
 c3:w.cell? ⟨N,3,none⟩=some v
 c4:w.cell? ⟨N,4,none⟩=some (.int .i64 D.fuse)
 c5:w.cell? ⟨N,5,none⟩=some (.bool D.down)
 lt:N<w.heap.size
 ms:MS.MapAt w bs Ls
 mh:MS.MapAt w bh Lh
 fs:FilesIn vs Ls D.sure
 fh:FilesIn vs Lh D.shown
 pool:PoolIn w vs
 len:n=D.pend.length
theorem disk_in {N:Nat} {D:Dk} {G:Nat→Prop} {w:World} (h:(Asn.disk N D G).holds w):∃ bs bh v n Ls Lh vs,DiskIn N D bs bh v n Ls Lh vs w:=by
 obtain ⟨K,⟨bs,bh,v,P,Z,vs,Ls,Lh,rfl,hI⟩,H0⟩:=Sep.open1 h
 obtain ⟨i1,i2,i3,i4,i5⟩:=hI
 exact ⟨bs,bh,v,P.length,Ls,Lh,vs,H0.cell 0 rfl 0 rfl,H0.cell 0 rfl 1 rfl,H0.cell 0 rfl 2 rfl,H0.cell 0 rfl 3 rfl,H0.cell 0 rfl 4 rfl,H0.cell 0 rfl 5 rfl,H0.lt 0 rfl,H0.at 1 rfl,H0.at 2 rfl,i1,i2,fun x hx=>((H0.at 4 rfl).1 x hx).1,by rw [←i3,List.length_map]⟩
theorem DiskIn.isSome {N:Nat} {D:Dk} {bs bh:Nat} {v:Value} {k:Nat} {Ls Lh:List (ByteArray×Value)} {vs:Vs} {w:World} (h:DiskIn N D bs bh v k Ls Lh vs w) (n:Nm):(MS.lookE Lh n).isSome=(getF D.shown n).isSome:=by
 rcases h.fh.get n with ⟨e1,e2⟩ | ⟨v,d,e1,e2,_⟩<;>rw [e1,e2]<;>rfl
theorem look_some {N:Nat} {D:Dk} {bs bh:Nat} {v:Value} {k:Nat} {Ls Lh:List (ByteArray×Value)} {vs:Vs} {w:World} (h:DiskIn N D bs bh v k Ls Lh vs w) {n:Nm} {x:Value} (hx:MS.lookE Lh n=some x):∃ a c d,x=.slice a d.length c∧getF D.shown n=some d∧Bytes w (.slice a d.length c) d:=by
 rcases h.fh.get n with ⟨e1,e2⟩ | ⟨y,d,e1,e2,hm⟩
 ·rw [e1] at hx;cases hx
 ·rw [e1] at hx
  simp only [Option.some.injEq] at hx
  subst hx
  have hb:=h.pool _ hm
  obtain ⟨a,c,he,_⟩:=hb
  have he:y=.slice a d.length c:=he
  subst he
  exact ⟨a,c,d,rfl,e2,h.pool _ hm⟩
theorem exec_len {P:Program} {t k e:Nat} {z:Value} (T:MS.MapT P t k e z) {w:World} {b:Nat} {L:List (ByteArray×Value)} (h:MS.MapAt w b L) {ρ:Operand→Value} {o:Oper} (m:Operand) (ho:o.op=.call { callee:=.builtin .len,args:=#[m],argTypes:=#[t]}) (hm:ρ m=.map (some b)) :
  (execOp ρ o).run P w=.ok (.value (.int .i64 L.length)) w:=by
 have hrun:=MS.run_len_map T h o.type
 simp [execOp,ho,resolve,invoke,builtin,hm,hrun,Result.andThen]
theorem DiskR.from {N:Nat} {G:Nat→Prop} {D1:Dk} {v:Value} {w w1 w2:World} {G1:Nat→Prop} (h:Sep w G [Asn.disk N D1 G1] w1) (hb:Below w1.heap.size w1 w2):DiskR N G D1 v w (.returned v) w2:=⟨rfl,G1,h.below hb⟩
theorem DiskR.then {N:Nat} {G G1:Nat→Prop} {D1 D2:Dk} {w w1 w2:World} (h:Sep w G [Asn.disk N D1 G1] w1) (k:∃ G2,Sep w1 G1 [Asn.disk N D2 G2] w2):∃ G2,Sep w G [Asn.disk N D2 G2] w2:=by
 obtain ⟨G2,hk⟩:=k
 exact ⟨G2,h.call hk⟩
theorem pend_works (D:Dk):(worksD D).2.pend=D.pend:=by
 unfold worksD
 split
 ·rfl
 ·split<;>rfl
/-- a disk with a change without bytes -/
theorem disk_nil {N:Nat} {D:Dk} {G:Nat→Prop} {w w1:World} {G1:Nat→Prop} (h:Sep w G [Asn.disk N D G1] w1):((Asn.disk N D G1).sep (.row 5 1 (.slice none 0 0) ([]:List UInt8).length (byteVs []))).holds w1 :=
 (((h.nilRow 5 1).swap1).join).at 0 rfl
theorem nil_own (b:Nat):¬(Value.slice none 0 0).ownBlock=some b:=by simp [Value.ownBlock]

set_option maxHeartbeats 4000000 in
theorem sync_any {m N:Nat} {D:Dk} {G:Nat→Prop} (w:World) (h:(Asn.disk N D G).holds w) (ho:Ok m D):Calls Tryz.prog 164 #[ptrV N] w (DiskR N G (syncD D).2 (errV (syncD D).1) w):=by
 have HW:=Zh (works_any w h ho)
 clear h
 rcases works_err D with h0 | h0
 ·have HF:=Zh (show syncD D=(0,{ (worksD D).2 with sure:=(worksD D).2.shown,pend:=[]}) by unfold syncD;rw [if_neg (by omega)])
  have H0:=Lib.hid' h0
  clear h0
  go_enter Tryz.func164, Tryz.ntmps164
  go_upto_region 2 with (go_at_call 207;refine HW.out.mono ?_;rintro e w1 ⟨rfl,G1,hk⟩;rw [H0.out,errV_0])
  obtain ⟨K,⟨bs,bh,v,P,Z,vs,Ls,Lh,rfl,hI⟩,H1⟩:=hk.unpack
  rw [List.append_nil] at H1
  have HI:=Lib.hid' hI
  have H:=Lib.hid' H1
  have c1:=H1.cell 0 rfl 1 rfl
  have c2:=H1.cell 0 rfl 2 rfl
  have c3:=H1.cell 0 rfl 3 rfl
  have f1:=H1.free 0 rfl 1
  have f3:=H1.free 0 rfl 3
  have hl:=H1.lt 0 rfl
  have HM:=Zh (fclone_any bh Lh w1 (H1.at 2 rfl))
  clear hk H1 hI HW ho
  go_wp2_with (go_at_call 210;refine HM.out.mono ?_;rintro e w2 ⟨rfl,hb2,hz2,hm2⟩;have d1:=(hb2.cell (p:=⟨N,1,none⟩) hl).trans c1;have d3:=(hb2.cell (p:=⟨N,3,none⟩) hl).trans c3;have g1:=(hb2.frozen (p:=⟨N,1,none⟩) hl).trans f1;have g3:=(hb2.frozen (p:=⟨N,3,none⟩) hl).trans f3;have hl2:N<w2.heap.size:=by omega)
  go_ret
  have H2:=H.out.below1 hb2 (A:=.map w1.heap.size Lh) hm2 (fun b hb=>Nat.le_of_eq hb.symm)
  have H3:=(H2.set 1 rfl 1 (.map (some w1.heap.size))).set 0 rfl 3 (.slice none 0 0)
  have H4:Sep w G [.box N [.int .i64 (worksD D).2.room,.map (some w1.heap.size),.map (some bh),.slice none 0 0,.int .i64 (worksD D).2.fuse,.bool (worksD D).2.down] 193,.map w1.heap.size Lh,.map bh Lh,.pool Z vs] _:=(H3.drop 2).drop 3
  have H6:=H4.nilRow 300 4
  have H7:Sep w G [.box N [.int .i64 (worksD D).2.room,.map (some w1.heap.size),.map (some bh),.slice none 0 0,.int .i64 (worksD D).2.fuse,.bool (worksD D).2.down] 193,.map w1.heap.size Lh,.map bh Lh,.row 300 4 (.slice none 0 0) 0 [],.pool Z vs] _:=((H6.focus 3 rfl).focus 3 rfl).focus 3 rfl
  rw [HF.out]
  obtain ⟨i1,i2,i3,i4,i5⟩:=HI.out
  exact ⟨rfl,Sep.close1 H7 ⟨w1.heap.size,bh,.slice none 0 0,[],Z,vs,Lh,Lh,rfl,i2,i2,rfl,by simp,i5⟩⟩
 ·have HF:=Zh (show syncD D=(14,(worksD D).2) by
   unfold syncD
   simp only
   rw [if_pos (by omega),←h0])
  have H0:=Lib.hid' h0
  clear h0 ho
  go_enter Tryz.func164, Tryz.ntmps164
  go_wp2_with (go_at_call 207;refine HW.out.mono ?_;rintro e w1 ⟨rfl,G1,hk⟩;rw [H0.out])
  go_ret
  rw [HF.out]
  exact ⟨rfl,G1,hk⟩

def ReadDR (r:Nat×List UInt8) (w:World) (e:Ending) (w':World):Prop:=∃ a c,e=.returned (.tuple #[.slice a r.2.length c,errV r.1])∧w'.ownsRow w.heap.size 5 1 (.slice a r.2.length c) r.2.length (byteVs r.2)∧Below w.heap.size w w'
theorem dread_any {m N:Nat} {D:Dk} {G:Nat→Prop} (n:Nm) (w:World) (h:(Asn.disk N D G).holds w) (ho:Ok m D):Calls Tryz.prog 215 #[ptrV N,.string n] w (ReadDR (readD D n) w):=by
 obtain ⟨bs,bh,v,k,Ls,Lh,vs,hin⟩:=disk_in h
 have c2:=hin.c2
 have c5:=hin.c5
 have hl:=hin.lt
 have HM:=Lib.hid' hin.mh
 have HT:=mtFiles
 obtain ⟨r,hr⟩:∃ r,MS.lookE Lh n=r:=⟨_,rfl⟩
 have HR:=Lib.hid' hr
 cases hd:D.down with
 | true =>
  have HF:=Zh (show readD D n=(14,[]) by unfold readD;rw [if_pos hd])
  rw [hd] at c5
  clear hr hd hin h ho
  go_enter Tryz.func215, Tryz.ntmps215
  go_wp2_with (go_at_call 203;refine (looks_any N true _ c5 hl).mono ?_;rintro e w' ⟨rfl,rfl⟩)
  go_ret2
  rw [HF.out]
  exact ⟨none,0,rfl,own_nil _ _ _ _,Below.refl _ _⟩
 | false =>
  rw [hd] at c5
  have hdn:¬D.down=true:=by rw [hd];decide
  cases r with
  | none =>
   have HF:=Zh (show readD D n=(4,[]) by
    have hs:=hin.isSome n
    rw [hr] at hs
    unfold readD;rw [if_neg hdn]
    cases hg:getF D.shown n with
    | none=>rfl
    | some d=>rw [hg] at hs;cases hs)
   clear hr hd hin h ho hdn
   go_enter Tryz.func215, Tryz.ntmps215
   go_wp2_with (first | (go_at_call 203;refine (looks_any N false _ c5 hl).mono ?_;rintro e w' ⟨rfl,rfl⟩) | (at_lookup;refine MS.wp_look_ok HT rfl (.tmp 18) (.tmp 19) rfl rfl n rfl HM.out ?_;rw [HR.out]))
   go_ret2
   rw [HF.out]
   exact ⟨none,0,rfl,own_nil _ _ _ _,Below.refl _ _⟩
  | some x =>
   obtain ⟨a,c,d,rfl,hg,hb⟩:=look_some hin hr
   have hdl:=(ho.shown.get hg).2
   have HF:=Zh (show readD D n=(0,d) by unfold readD;rw [if_neg hdn,hg])
   have HB:=Lib.hid' hb
   clear hr hd hin h ho hdn hb hg
   go_enter Tryz.func215, Tryz.ntmps215
   go_wp2_with (first | (go_at_call 203;refine (looks_any N false _ c5 hl).mono ?_;rintro e w' ⟨rfl,rfl⟩) | (at_lookup;refine MS.wp_look_ok HT rfl (.tmp 18) (.tmp 19) rfl rfl n rfl HM.out ?_;rw [HR.out]) | (go_at_call 49;refine (clone_any _ d _ HB.out (by omega)).mono ?_;rintro e w2 ⟨a2,c2',rfl,ho2,hb2⟩))
   go_ret2
   rw [HF.out]
   exact ⟨a2,c2',rfl,ho2,hb2⟩
def bools (ks:List Bool):List Value:=ks.map Value.bool
end DK
end Go.Proofs.YtaodldbgikiekaaGreatDoor
