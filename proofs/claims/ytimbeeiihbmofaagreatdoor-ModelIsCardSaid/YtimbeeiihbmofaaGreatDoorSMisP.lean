/- Proved here: the statement ModelIs (a tied card): for every input the Go function holdfastlaw33.ModelIs returns true, and its arguments read as they did, where the listed variables read as the program's text lays them. -/
import Derived.Test.YtimbeeiihbmofaaGreatDoorOpenJ
import Derived.Test.YtimbeeiihbmofaaGreatDoorOpenK
import Derived.Test.YtimbeeiihbmofaaGreatDoorOpenN
import Derived.Test.YtimbeeiihbmofaaGreatDoorOpenT
import Derived.Test.YtimbeeiihbmofaaGreatDoorW37
import Derived.Test.YtimbeeiihbmofaaGreatDoorSMisQ
import Derived.Test.YtimbeeiihbmofaaGreatDoorSMisT
import Derived.Test.YtimbeeiihbmofaaGreatDoorSMisU
import Derived.Test.YtimbeeiihbmofaaGreatDoorRows
import Derived.Test.YtimbeeiihbmofaaGreatDoorCards
import Derived.Test.YtimbeeiihbmofaaGreatDoorTie
import Derived.Test.YtimbeeiihbmofaaGreatDoorChecked
import Derived.ProofKit
import Derived.LaidMore
import Derived.OpenShut
import Derived.Stop.Joined
import Derived.MakeChecks
import Derived.SevenTiedAt
import Derived.Lay
import Derived.LaidSub
import Derived.Lib.LaidTab
import Derived.Stop.LaidErr
set_option linter.unusedSimpArgs false
set_option linter.unusedVariables false
set_option maxRecDepth 100000
namespace Go.Proofs.YtimbeeiihbmofaaGreatDoor
open Go.ChangeShapes Go.WideShapes Go.ChangeAt Go.RowKit
def laidL : List (String × DataW Unit) := Rows.modelIsRow.laid
theorem laid_p : (Rows.laid_internal_strconv_uint64pow10 : DataW Unit) = Lib.tabData .u64 Go.Lib.pow10Tab := by kernel_rfl
theorem pow_of {W : World} (h : laidMetH Tryz.prog laidL W) : DK.Pow W := by
 rw [MakeChecks.laidMetH_plain _ _ _ (by kernel_rfl)] at h
 have h1 := (laidMet.tail (laidMet.tail h))
 rw [laid_p] at h1
 exact Lib.tabIs_of_head (g := 2) (by kernel_rfl) (by kernel_rfl) Tryz.underlying337 Tryz.underlying186 Tryz.cellsPw (by kernel_rfl) h1
theorem modelIs_lifted (os : Os) (started : os.Started) (H : Type) (enc : TypeId × Value → H) :
  ReturnsInHanded {} Tryz.checked os 3 .any (fun w args => (Rows.modelIsSpec.pre enc Tryz.prog Tryz.f3 [] false w args ∧ laidMetH Tryz.prog laidL w) ∧ sizedMet enc Tryz.prog Tryz.f3 (OpenSpec.ofChange Rows.modelIsSpec) false w args)
   (Rows.modelIsSpec.post enc Tryz.prog Tryz.f3 false true false false) := by
 refine returnsInHanded_of_change_and (C := Tryz.checked) (X := fun w _ => laidMetH Tryz.prog laidL w) (fun _ _ _ hh h => h.of_heap hh) own0 started (by kernel_rfl) Tryz.func3
  (ChangeSpec.witness_shaped (enc := enc) (C := Tryz.checked) (os := os) (X := fun w _ => laidMetH Tryz.prog laidL w) false (World.laidAll Tryz.prog os laidL) #[.agg #[.int .i64 0, .int .i64 0, .slice none 0 0], .slice none 0 0, .int .i64 0] 8 (World.laidAll_os _ _ _)
   (World.shaped_of_ZipB (by kernel_rfl) (by kernel_rfl)) (by kernel_rfl) (by kernel_rfl) (by kernel_rfl)
   (by rw [MakeChecks.laidMetH_plain _ _ _ (by kernel_rfl)]; exact laidMet_laidAll _ (by kernel_rfl) (by kernel_rfl))) ?_
 intro W base args ds gs before hval0 hW _ _ hL _
 have hval : ∀ (j : Nat) t v, Tryz.f3.params[j]? = some t → args[j]? = some v → Value.okWide Tryz.prog W .any base t v := hval0
 have hW' := hW
 obtain ⟨p, q, hA0, hV, rfl, _, _⟩ := hW
 have hA : DataW.TrodAll enc Tryz.prog W 0 (fun _ => true) true Tryz.f3.params.toList args.toList ds p := hA0
 rw [Tryz.params3] at hA hval
 obtain ⟨v0, v1, v2, d0, d1, d2, p0, p1, p2, rfl, rfl, rfl, h0, h1, h2⟩ := trodAll_three hA
 obtain ⟨rfl, rfl⟩ := trodVars_none hV
 clear hA0 hval0
 simp only [List.append_nil, List.append_assoc] at hW'
 have hlt : ∀ x ∈ p0 ++ (p1 ++ p2), x.block < W.heap.size := fun x hx => by simpa using hW'.lt x hx
 have k0 : ∀ W', Below W.heap.size W W' → DataW.Trod enc Tryz.prog W' 0 (fun b => decide (b < W.heap.size)) true _ v0 d0 p0 := fun W' hb => Below.trod laidOut0 (by kernel_rfl) (of_decide_eq_true (by kernel_rfl)) h0 hb (fun x hx => hlt x (by simp [hx]))
 have k1 : ∀ W', Below W.heap.size W W' → DataW.Trod enc Tryz.prog W' 0 (fun b => decide (b < W.heap.size)) true _ v1 d1 p1 := fun W' hb => Below.trod laidOut0 (by kernel_rfl) (of_decide_eq_true (by kernel_rfl)) h1 hb (fun x hx => hlt x (by simp [hx]))
 have k2 : ∀ W', Below W.heap.size W W' → DataW.Trod enc Tryz.prog W' 0 (fun b => decide (b < W.heap.size)) true _ v2 d2 p2 := fun W' hb => Below.trod laidOut0 (by kernel_rfl) (of_decide_eq_true (by kernel_rfl)) h2 hb (fun x hx => hlt x (by simp [hx]))
 obtain ⟨cs0, rfl, hz0⟩ := okWide_struct Tryz.underlying24 (hval 0 _ v0 rfl rfl)
 obtain ⟨un0, rm0, ca0, cc0, X0, rfl, hs0⟩ := rd_size13 (cs := cs0) (by rw [hz0]; exact Tryz.cellsSizeT) (by simpa [Value.cells] using Rd.of_trod h0)
 obtain ⟨a1, n1, c1, rfl⟩ := okWide_slice Tryz.underlying25 (hval 1 _ v1 rfl rfl)
 obtain ⟨S1, rfl, hs1⟩ := rd_acts13 (a := a1) (n := n1) (c := c1) (by simpa [Value.cells] using Rd.of_trod h1)
 obtain ⟨z2, rfl, _, _, w2⟩ := open_int Tryz.underlying3 (hval 2 _ v2 rfl rfl) h2
 refine (SL.modelIs_any un0 rm0 ca0 cc0 X0 a1 c1 S1 z2 W (pow_of hL) hs0 hs1).mono fun e W' ⟨he, hb⟩ => ?_
 subst he
 exact ⟨_, rfl, _, _, _, [], p0 ++ (p1 ++ p2), [], hW', trodAll_mk1 (shut_bool Tryz.underlying4 _), trodAll_mk3 (k0 _ hb) (k1 _ hb) (k2 _ hb), rfl, hb.frame _, fun h => by cases h⟩

theorem modelIs_named : Tryz.pinned.checked.prog.funcNamed Rows.modelIsRow.func = some 3 := by kernel_rfl
theorem modelIs_closed : joinedFacts Tryz.pinned.checked.prog 3 Tryz.f3 Rows.modelIsSpec Rows.modelIsRow = true := by
 unfold joinedFacts
 rw [modelIs_ip, modelIs_uf, modelIs_rc, modelIs_vn]
 kernel_rfl
theorem modelIs_row : Rows.ModelIsSaid :=
 OpenClaim.holds_of_wide 3 Tryz.f3 rfl rfl rfl rfl rfl rfl rfl ⟨rfl, rfl, rfl, rfl, rfl⟩ rfl rfl rfl rfl rfl modelIs_named Tryz.func3 modelIs_closed
  (of_decide_eq_true (by kernel_rfl)) (by unfold Func.isWrapper; first | (rw [if_pos (by decide +kernel)]; kernel_rfl) | (rw [if_neg (by decide +kernel)]; exact ⟨rfl, rfl⟩))
  (fun os started H enc _ => modelIs_lifted os started H enc)
theorem modelIs_holds : Rows.ModelIsCardSaid :=
 Claim7.holds_tied_plain_at .later [] [.data, .data, .data, .data, .sentinel, .sentinel, .pinned] true Rows.modelIsCard.stood.harness true
  modelIs_row (fun _ h => by cases h) modelIs_wf (fun _ h => by cases h) modelIs_row_tie rfl ⟨rfl, rfl⟩ modelIs_main rfl
  (fun f fn hf hfn => by
   obtain rfl : f = 3 := Option.some.inj (modelIs_named.symm.trans hf) |>.symm
   obtain rfl : fn = Tryz.f3 := (Option.some.inj (Tryz.func3.symm.trans hfn)).symm
   exact ⟨modelIs_looks, fun j t ht => by
    rw [Tryz.params3] at ht
    have hm : t ∈ [24, 25, 3] := by have := Array.mem_of_getElem? ht; first | (simpa using this) | (simp at this; rcases this with rfl | rfl | rfl <;> simp)
    exact (show Tryz.prog.wantsStandIn t = false by simpa using List.all_eq_true.1 modelIs_want t hm)⟩)
  modelIs_goes
#print axioms modelIs_holds
end Go.Proofs.YtimbeeiihbmofaaGreatDoor
