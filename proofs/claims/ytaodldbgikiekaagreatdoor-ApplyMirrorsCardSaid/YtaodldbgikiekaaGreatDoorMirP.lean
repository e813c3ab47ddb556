/- Proved here: the statement ApplyMirrors (a tied card): for every input the Go function holdfastlaw26.ApplyMirrors returns true, and its arguments read as they did, where the listed variables read as the program's text lays them. -/
import Derived.Test.YtaodldbgikiekaaGreatDoorOpenJ
import Derived.Test.YtaodldbgikiekaaGreatDoorOpenK
import Derived.Test.YtaodldbgikiekaaGreatDoorOpenN
import Derived.Test.YtaodldbgikiekaaGreatDoorOpenT
import Derived.Test.YtaodldbgikiekaaGreatDoorOpenX
import Derived.Test.YtaodldbgikiekaaGreatDoorW35
import Derived.Test.YtaodldbgikiekaaGreatDoorMirQ
import Derived.Test.YtaodldbgikiekaaGreatDoorMirT
import Derived.Test.YtaodldbgikiekaaGreatDoorMirU
import Derived.Test.YtaodldbgikiekaaGreatDoorRows
import Derived.Test.YtaodldbgikiekaaGreatDoorCards
import Derived.Test.YtaodldbgikiekaaGreatDoorTie
import Derived.Test.YtaodldbgikiekaaGreatDoorChecked
import Derived.ProofKit
import Derived.LaidMore
import Derived.OpenShut
import Derived.Stop.Joined
import Derived.MakeChecks
import Derived.SevenTiedAt
import Derived.Lay
import Derived.LaidSub
import Derived.Lib.LaidTab
import Derived.Stop.LaidErr
set_option linter.unusedSimpArgs false
set_option linter.unusedVariables false
set_option maxRecDepth 100000
namespace Go.Proofs.YtaodldbgikiekaaGreatDoor
open Go.ChangeShapes Go.WideShapes Go.ChangeAt Go.RowKit
def laidL:List (String×DataW Unit):=Rows.applyMirrorsRow.laid
theorem laid_p:(Rows.laid_internal_strconv_uint64pow10:DataW Unit)=Lib.tabData .u64 Go.Lib.pow10Tab:=by kernel_rfl
theorem pow_of {W:World} (h:laidMetH Tryz.prog laidL W):DK.Pow W:=by
 rw [MakeChecks.laidMetH_plain _ _ _ (by kernel_rfl)] at h
 have h1:=(laidMet.tail (laidMet.tail h))
 rw [laid_p] at h1
 exact Lib.tabIs_of_head (g:=2) (by kernel_rfl) (by kernel_rfl) Tryz.underlying381 Tryz.underlying172 Tryz.cellsPw (by kernel_rfl) h1
theorem applyMirrors_lifted (os:Os) (started:os.Started) (H:Type) (enc:TypeId×Value→H) :
  ReturnsInHanded {} Tryz.checked os 3 .any (fun w args=>(Rows.applyMirrorsSpec.pre enc Tryz.prog Tryz.f3 [] false w args∧laidMetH Tryz.prog laidL w)∧sizedMet enc Tryz.prog Tryz.f3 (OpenSpec.ofChange Rows.applyMirrorsSpec) false w args)
   (Rows.applyMirrorsSpec.post enc Tryz.prog Tryz.f3 false true false false):=by
 refine returnsInHanded_of_change_and (C:=Tryz.checked) (X:=fun w _=>laidMetH Tryz.prog laidL w) (fun _ _ _ hh h=>h.of_heap hh) own0 started (by kernel_rfl) Tryz.func3
  (ChangeSpec.witness_shaped (enc:=enc) (C:=Tryz.checked) (os:=os) (X:=fun w _=>laidMetH Tryz.prog laidL w) false (World.laidAll Tryz.prog os laidL) #[.slice none 0 0] 8 (World.laidAll_os _ _ _)
   (World.shaped_of_ZipB (by kernel_rfl) (by kernel_rfl)) (by kernel_rfl) (by kernel_rfl) (by kernel_rfl)
   (by rw [MakeChecks.laidMetH_plain _ _ _ (by kernel_rfl)];exact laidMet_laidAll _ (by kernel_rfl) (by kernel_rfl))) ?_
 intro W base args ds gs before hval0 hW _ _ hL _
 have hval:∀ (j:Nat) t v,Tryz.f3.params[j]?=some t→args[j]?=some v→Value.okWide Tryz.prog W .any base t v:=hval0
 have hW':=hW
 obtain ⟨p,q,hA0,hV,rfl,_,_⟩:=hW
 have hA:DataW.TrodAll enc Tryz.prog W 0 (fun _=>true) true Tryz.f3.params.toList args.toList ds p:=hA0
 rw [Tryz.params3] at hA hval
 obtain ⟨v0,d0,rfl,rfl,h0⟩:=trodAll_one hA
 obtain ⟨rfl,rfl⟩:=trodVars_none hV
 clear hA0 hval0
 simp only [List.append_nil,List.append_assoc] at hW'
 have hlt:∀ x∈p,x.block<W.heap.size:=fun x hx=>by simpa using hW'.lt x hx
 have k0:∀ W',Below W.heap.size W W'→DataW.Trod enc Tryz.prog W' 0 (fun b=>decide (b<W.heap.size)) true _ v0 d0 p:=fun W' hb=>Below.trod laidOut0 (by kernel_rfl) (of_decide_eq_true (by kernel_rfl)) h0 hb (fun x hx=>hlt x (by simp [hx]))
 obtain ⟨a0,n0,c0,rfl⟩:=okWide_slice Tryz.underlying22 (hval 0 _ v0 rfl rfl)
 obtain ⟨Y0,rfl,hs0⟩:=rd_picks (a:=a0) (n:=n0) (c:=c0) (by simpa [Value.cells] using Rd.of_trod h0)
 refine (SL.applyMirrors_any a0 c0 Y0 W (pow_of hL) hs0).mono fun e W' ⟨he,hb⟩=>?_
 subst he
 exact ⟨_,rfl,_,_,_,[],p,[],hW',trodAll_mk1 (shut_bool Tryz.underlying4 _),trodAll_mk1 (k0 _ hb),rfl,hb.frame _,fun h=>by cases h⟩

theorem applyMirrors_named:Tryz.pinned.checked.prog.funcNamed Rows.applyMirrorsRow.func=some 3:=by kernel_rfl
theorem applyMirrors_closed:joinedFacts Tryz.pinned.checked.prog 3 Tryz.f3 Rows.applyMirrorsSpec Rows.applyMirrorsRow=true:=by
 unfold joinedFacts
 rw [applyMirrors_ip,applyMirrors_uf,applyMirrors_rc,applyMirrors_vn]
 kernel_rfl
theorem applyMirrors_row:Rows.ApplyMirrorsSaid :=
 OpenClaim.holds_of_wide 3 Tryz.f3 rfl rfl rfl rfl rfl rfl rfl ⟨rfl,rfl,rfl,rfl,rfl⟩ rfl rfl rfl rfl rfl applyMirrors_named Tryz.func3 applyMirrors_closed
  (of_decide_eq_true (by kernel_rfl)) (by unfold Func.isWrapper;first | (rw [if_pos (by decide +kernel)];kernel_rfl) | (rw [if_neg (by decide +kernel)];exact ⟨rfl,rfl⟩))
  (fun os started H enc _=>applyMirrors_lifted os started H enc)
theorem applyMirrors_holds:Rows.ApplyMirrorsCardSaid :=
 Claim7.holds_tied_plain_at .later [] [.data,.data,.data,.data,.sentinel,.sentinel,.pinned] true Rows.applyMirrorsCard.stood.harness true
  applyMirrors_row (fun _ h=>by cases h) applyMirrors_wf (fun _ h=>by cases h) applyMirrors_row_tie rfl ⟨rfl,rfl⟩ applyMirrors_main rfl
  (fun f fn hf hfn=>by
   obtain rfl:f=3:=Option.some.inj (applyMirrors_named.symm.trans hf) |>.symm
   obtain rfl:fn=Tryz.f3:=(Option.some.inj (Tryz.func3.symm.trans hfn)).symm
   exact ⟨applyMirrors_looks,fun j t ht=>by
    rw [Tryz.params3] at ht
    have hm:t∈[22]:=by have:=Array.mem_of_getElem? ht;first | (simpa using this) | (simp at this;rcases this with rfl | rfl | rfl<;>simp)
    exact (show Tryz.prog.wantsStandIn t=false by simpa using List.all_eq_true.1 applyMirrors_want t hm)⟩)
  applyMirrors_goes
#print axioms applyMirrors_holds
end Go.Proofs.YtaodldbgikiekaaGreatDoor
