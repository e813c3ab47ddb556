/- Proved here: the statement SuiteNil (a tied card): for every input the Go function holdfastlaw32.SuiteNil returns true, and its arguments read as they did, where the listed variables read as the program's text lays them. -/
import Derived.Test.YtelneaokoiojkaaGreatDoorOpen0
import Derived.Test.YtelneaokoiojkaaGreatDoorOpenK
import Derived.Test.YtelneaokoiojkaaGreatDoorV31
import Derived.Test.YtelneaokoiojkaaGreatDoorSuNQ
import Derived.Test.YtelneaokoiojkaaGreatDoorSuNT
import Derived.Test.YtelneaokoiojkaaGreatDoorSuNU
import Derived.Test.YtelneaokoiojkaaGreatDoorRows
import Derived.Test.YtelneaokoiojkaaGreatDoorCards
import Derived.Test.YtelneaokoiojkaaGreatDoorTie
import Derived.Test.YtelneaokoiojkaaGreatDoorChecked
import Derived.ProofKit
import Derived.LaidMore
import Derived.OpenShut
import Derived.Stop.Joined
import Derived.MakeChecks
import Derived.SevenTiedAt
import Derived.Lay
import Derived.LaidSub
import Derived.Lib.LaidTab
import Derived.Stop.LaidErr
set_option linter.unusedSimpArgs false
set_option linter.unusedVariables false
set_option maxRecDepth 100000
namespace Go.Proofs.YtelneaokoiojkaaGreatDoor
open Go.ChangeShapes Go.WideShapes Go.ChangeAt Go.RowKit
def laidL : List (String × DataW Unit) := Rows.suiteNilRow.laid
theorem laid_p : (Rows.laid_internal_strconv_uint64pow10 : DataW Unit) = Lib.tabData .u64 Go.Lib.pow10Tab := by kernel_rfl
theorem pow_of {W : World} (h : laidMetH Tryz.prog laidL W) : DK.Pow W := by
 rw [MakeChecks.laidMetH_plain _ _ _ (by kernel_rfl)] at h
 have h1 := (laidMet.tail (laidMet.tail h))
 rw [laid_p] at h1
 exact Lib.tabIs_of_head (g := 1) (by kernel_rfl) (by kernel_rfl) Tryz.underlying432 Tryz.underlying229 Tryz.cellsPw (by kernel_rfl) h1
theorem suiteNil_lifted (os : Os) (started : os.Started) (H : Type) (enc : TypeId × Value → H) :
  ReturnsInHanded {} Tryz.checked os 3 .any (fun w args => (Rows.suiteNilSpec.pre enc Tryz.prog Tryz.f3 [] false w args ∧ laidMetH Tryz.prog laidL w) ∧ sizedMet enc Tryz.prog Tryz.f3 (OpenSpec.ofChange Rows.suiteNilSpec) false w args)
   (Rows.suiteNilSpec.post enc Tryz.prog Tryz.f3 false true false false) := by
 refine returnsInHanded_of_change_and (C := Tryz.checked) (X := fun w _ => laidMetH Tryz.prog laidL w) (fun _ _ _ hh h => h.of_heap hh) own0 started (by kernel_rfl) Tryz.func3
  (ChangeSpec.witness_shaped (enc := enc) (C := Tryz.checked) (os := os) (X := fun w _ => laidMetH Tryz.prog laidL w) false (World.laidAll Tryz.prog os laidL) #[.int .i64 0, .int .i64 0] 8 (World.laidAll_os _ _ _)
   (World.shaped_of_ZipB (by kernel_rfl) (by kernel_rfl)) (by kernel_rfl) (by kernel_rfl) (by kernel_rfl)
   (by rw [MakeChecks.laidMetH_plain _ _ _ (by kernel_rfl)]; exact laidMet_laidAll _ (by kernel_rfl) (by kernel_rfl))) ?_
 intro W base args ds gs before hval0 hW _ _ hL _
 have hval : ∀ (j : Nat) t v, Tryz.f3.params[j]? = some t → args[j]? = some v → Value.okWide Tryz.prog W .any base t v := hval0
 have hW' := hW
 obtain ⟨p, q, hA0, hV, rfl, _, _⟩ := hW
 have hA : DataW.TrodAll enc Tryz.prog W 0 (fun _ => true) true Tryz.f3.params.toList args.toList ds p := hA0
 rw [Tryz.params3] at hA hval
 obtain ⟨v0, v1, d0, d1, p0, p1, rfl, rfl, rfl, h0, h1⟩ := trodAll_two hA
 obtain ⟨rfl, rfl⟩ := trodVars_none hV
 clear hA0 hval0
 simp only [List.append_nil, List.append_assoc] at hW'
 have hlt : ∀ x ∈ p0 ++ p1, x.block < W.heap.size := fun x hx => by simpa using hW'.lt x hx
 have k0 : ∀ W', Below W.heap.size W W' → DataW.Trod enc Tryz.prog W' 0 (fun b => decide (b < W.heap.size)) true _ v0 d0 p0 := fun W' hb => Below.trod laidOut0 (by kernel_rfl) (of_decide_eq_true (by kernel_rfl)) h0 hb (fun x hx => hlt x (by simp [hx]))
 have k1 : ∀ W', Below W.heap.size W W' → DataW.Trod enc Tryz.prog W' 0 (fun b => decide (b < W.heap.size)) true _ v1 d1 p1 := fun W' hb => Below.trod laidOut0 (by kernel_rfl) (of_decide_eq_true (by kernel_rfl)) h1 hb (fun x hx => hlt x (by simp [hx]))
 obtain ⟨z0, rfl, _, _, w0⟩ := open_int Tryz.underlying3 (hval 0 _ v0 rfl rfl) h0
 obtain ⟨z1, rfl, _, _, w1⟩ := open_int Tryz.underlying3 (hval 1 _ v1 rfl rfl) h1
 refine (SL.suiteNil_any z0 z1 W (pow_of hL)).mono fun e W' ⟨he, hb⟩ => ?_
 subst he
 exact ⟨_, rfl, _, _, _, [], p0 ++ p1, [], hW', trodAll_mk1 (shut_bool Tryz.underlying4 _), trodAll_mk2 (k0 _ hb) (k1 _ hb), rfl, hb.frame _, fun h => by cases h⟩

theorem suiteNil_named : Tryz.pinned.checked.prog.funcNamed Rows.suiteNilRow.func = some 3 := by kernel_rfl
theorem suiteNil_closed : joinedFacts Tryz.pinned.checked.prog 3 Tryz.f3 Rows.suiteNilSpec Rows.suiteNilRow = true := by
 unfold joinedFacts
 rw [suiteNil_ip, suiteNil_uf, suiteNil_rc, suiteNil_vn]
 kernel_rfl
theorem suiteNil_row : Rows.SuiteNilSaid :=
 OpenClaim.holds_of_wide 3 Tryz.f3 rfl rfl rfl rfl rfl rfl rfl ⟨rfl, rfl, rfl, rfl, rfl⟩ rfl rfl rfl rfl rfl suiteNil_named Tryz.func3 suiteNil_closed
  (of_decide_eq_true (by kernel_rfl)) (by unfold Func.isWrapper; first | (rw [if_pos (by decide +kernel)]; kernel_rfl) | (rw [if_neg (by decide +kernel)]; exact ⟨rfl, rfl⟩))
  (fun os started H enc _ => suiteNil_lifted os started H enc)
theorem suiteNil_holds : Rows.SuiteNilCardSaid :=
 Claim7.holds_tied_plain_at .later [] [.data, .data, .data, .data, .sentinel, .sentinel, .pinned] true Rows.suiteNilCard.stood.harness true
  suiteNil_row (fun _ h => by cases h) suiteNil_wf (fun _ h => by cases h) suiteNil_row_tie rfl ⟨rfl, rfl⟩ suiteNil_main rfl
  (fun f fn hf hfn => by
   obtain rfl : f = 3 := Option.some.inj (suiteNil_named.symm.trans hf) |>.symm
   obtain rfl : fn = Tryz.f3 := (Option.some.inj (Tryz.func3.symm.trans hfn)).symm
   exact ⟨suiteNil_looks, fun j t ht => by
    rw [Tryz.params3] at ht
    have hm : t ∈ [3] := by have := Array.mem_of_getElem? ht; first | (simpa using this) | (simp at this; rcases this with rfl | rfl | rfl <;> simp)
    exact (show Tryz.prog.wantsStandIn t = false by simpa using List.all_eq_true.1 suiteNil_want t hm)⟩)
  suiteNil_goes
#print axioms suiteNil_holds
end Go.Proofs.YtelneaokoiojkaaGreatDoor
