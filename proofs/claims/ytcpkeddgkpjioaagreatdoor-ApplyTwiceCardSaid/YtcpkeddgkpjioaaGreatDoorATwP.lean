/- Proved here: the statement ApplyTwice (a tied card): for every input the Go function holdfastlaw26.ApplyTwice returns true, and its arguments read as they did, where the listed variables read as the program's text lays them. -/
import Derived.Test.YtcpkeddgkpjioaaGreatDoorOpenK
import Derived.Test.YtcpkeddgkpjioaaGreatDoorOpenP
import Derived.Test.YtcpkeddgkpjioaaGreatDoorB34
import Derived.Test.YtcpkeddgkpjioaaGreatDoorATwQ
import Derived.Test.YtcpkeddgkpjioaaGreatDoorATwT
import Derived.Test.YtcpkeddgkpjioaaGreatDoorRows
import Derived.Test.YtcpkeddgkpjioaaGreatDoorCards
import Derived.Test.YtcpkeddgkpjioaaGreatDoorTie
import Derived.Test.YtcpkeddgkpjioaaGreatDoorChecked
import Derived.ProofKit
import Derived.LaidMore
import Derived.OpenShut
import Derived.Stop.Joined
import Derived.MakeChecks
import Derived.SevenTiedAt
import Derived.Lay
import Derived.LaidSub
import Derived.Lib.LaidTab
import Derived.Stop.LaidErr
set_option linter.unusedSimpArgs false
set_option linter.unusedVariables false
set_option maxRecDepth 100000
namespace Go.Proofs.YtcpkeddgkpjioaaGreatDoor
open Go.ChangeShapes Go.WideShapes Go.ChangeAt Go.RowKit
def laidL : List (String × DataW Unit) := Rows.applyTwiceRow.laid
theorem laid_p : (Rows.laid_internal_strconv_uint64pow10 : DataW Unit) = Lib.tabData .u64 Go.Lib.pow10Tab := by kernel_rfl
theorem pow_of {W : World} (h : laidMetH Tryz.prog laidL W) : DK.Pow W := by
 rw [MakeChecks.laidMetH_plain _ _ _ (by kernel_rfl)] at h
 have h1 := (laidMet.tail (laidMet.tail h))
 rw [laid_p] at h1
 exact Lib.tabIs_of_head (g := 2) (by kernel_rfl) (by kernel_rfl) Tryz.underlying339 Tryz.underlying186 Tryz.cellsPw (by kernel_rfl) h1
theorem applyTwice_lifted (os : Os) (started : os.Started) (H : Type) (enc : TypeId × Value → H) :
  ReturnsInHanded {} Tryz.checked os 4 .any (fun w args => (Rows.applyTwiceSpec.pre enc Tryz.prog Tryz.f4 [] false w args ∧ laidMetH Tryz.prog laidL w) ∧ sizedMet enc Tryz.prog Tryz.f4 (OpenSpec.ofChange Rows.applyTwiceSpec) false w args)
   (Rows.applyTwiceSpec.post enc Tryz.prog Tryz.f4 false true false false) := by
 refine returnsInHanded_of_change_and (C := Tryz.checked) (X := fun w _ => laidMetH Tryz.prog laidL w) (fun _ _ _ hh h => h.of_heap hh) own0 started (by kernel_rfl) Tryz.func4
  (ChangeSpec.witness_shaped (enc := enc) (C := Tryz.checked) (os := os) (X := fun w _ => laidMetH Tryz.prog laidL w) false (World.laidAll Tryz.prog os laidL) #[.slice none 0 0] 8 (World.laidAll_os _ _ _)
   (World.shaped_of_ZipB (by kernel_rfl) (by kernel_rfl)) (by kernel_rfl) (by kernel_rfl) (by kernel_rfl)
   (by rw [MakeChecks.laidMetH_plain _ _ _ (by kernel_rfl)]; exact laidMet_laidAll _ (by kernel_rfl) (by kernel_rfl))) ?_
 intro W base args ds gs before hval0 hW _ _ hL _
 have hval : ∀ (j : Nat) t v, Tryz.f4.params[j]? = some t → args[j]? = some v → Value.okWide Tryz.prog W .any base t v := hval0
 have hW' := hW
 obtain ⟨p, q, hA0, hV, rfl, _, _⟩ := hW
 have hA : DataW.TrodAll enc Tryz.prog W 0 (fun _ => true) true Tryz.f4.params.toList args.toList ds p := hA0
 rw [Tryz.params4] at hA hval
 obtain ⟨v0, d0, rfl, rfl, h0⟩ := trodAll_one hA
 obtain ⟨rfl, rfl⟩ := trodVars_none hV
 clear hA0 hval0
 simp only [List.append_nil, List.append_assoc] at hW'
 have hlt : ∀ x ∈ p, x.block < W.heap.size := fun x hx => by simpa using hW'.lt x hx
 have k0 : ∀ W', Below W.heap.size W W' → DataW.Trod enc Tryz.prog W' 0 (fun b => decide (b < W.heap.size)) true _ v0 d0 p := fun W' hb => Below.trod laidOut0 (by kernel_rfl) (of_decide_eq_true (by kernel_rfl)) h0 hb (fun x hx => hlt x (by simp [hx]))
 obtain ⟨a0, n0, c0, rfl⟩ := okWide_slice Tryz.underlying53 (hval 0 _ v0 rfl rfl)
 obtain ⟨Y0, rfl, hs0⟩ := rd_pcls (a := a0) (n := n0) (c := c0) (by simpa [Value.cells] using Rd.of_trod h0)
 refine (SL.applyTwice_any a0 c0 Y0 W (pow_of hL) hs0).mono fun e W' ⟨he, hb⟩ => ?_
 subst he
 exact ⟨_, rfl, _, _, _, [], p, [], hW', trodAll_mk1 (shut_bool Tryz.underlying4 _), trodAll_mk1 (k0 _ hb), rfl, hb.frame _, fun h => by cases h⟩

theorem applyTwice_named : Tryz.pinned.checked.prog.funcNamed Rows.applyTwiceRow.func = some 4 := by kernel_rfl
theorem applyTwice_closed : joinedFacts Tryz.pinned.checked.prog 4 Tryz.f4 Rows.applyTwiceSpec Rows.applyTwiceRow = true := by
 unfold joinedFacts
 rw [applyTwice_ip, applyTwice_uf, applyTwice_rc, applyTwice_vn]
 kernel_rfl
theorem applyTwice_row : Rows.ApplyTwiceSaid :=
 OpenClaim.holds_of_wide 4 Tryz.f4 rfl rfl rfl rfl rfl rfl rfl ⟨rfl, rfl, rfl, rfl, rfl⟩ rfl rfl rfl rfl rfl applyTwice_named Tryz.func4 applyTwice_closed
  (of_decide_eq_true (by kernel_rfl)) (by unfold Func.isWrapper; first | (rw [if_pos (by decide +kernel)]; kernel_rfl) | (rw [if_neg (by decide +kernel)]; exact ⟨rfl, rfl⟩))
  (fun os started H enc _ => applyTwice_lifted os started H enc)
theorem applyTwice_holds : Rows.ApplyTwiceCardSaid :=
 Claim7.holds_tied_plain_at .later [] [.data, .data, .data, .data, .sentinel, .sentinel, .pinned] true Rows.applyTwiceCard.stood.harness true
  applyTwice_row (fun _ h => by cases h) (by kernel_rfl) (fun _ h => by cases h) applyTwice_row_tie rfl ⟨rfl, rfl⟩ (by kernel_rfl) rfl
  (fun f fn hf hfn => by
   obtain rfl : f = 4 := Option.some.inj ((show Tryz.prog.funcNamed "holdfast/holdfastlaw26.ApplyTwice" = some 4 by kernel_rfl).symm.trans hf) |>.symm
   obtain rfl : fn = Tryz.f4 := (Option.some.inj (Tryz.func4.symm.trans hfn)).symm
   exact ⟨by kernel_rfl, fun j t ht => by
    rw [Tryz.params4] at ht
    have hm : t ∈ [53] := by have := Array.mem_of_getElem? ht; first | (simpa using this) | (simp at this; rcases this with rfl | rfl | rfl <;> simp)
    have hall : ([53].all fun u => !Tryz.prog.wantsStandIn u) = true := by kernel_rfl
    exact (show Tryz.prog.wantsStandIn t = false by simpa using List.all_eq_true.1 hall t hm)⟩)
  (by kernel_rfl)
#print axioms applyTwice_holds
end Go.Proofs.YtcpkeddgkpjioaaGreatDoor
