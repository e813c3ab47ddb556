/- Proved here: the statement ForkBytes (a tied card): for every input the Go function holdfastlaw30.ForkBytes returns true, and its arguments read as they did, where the listed variables read as the program's text lays them. -/
import Derived.Test.YtddlkkmdcfamiaaGreatDoorOpen0
import Derived.Test.YtddlkkmdcfamiaaGreatDoorOpenK
import Derived.Test.YtddlkkmdcfamiaaGreatDoorOpenE
import Derived.Test.YtddlkkmdcfamiaaGreatDoorOpenF
import Derived.Test.YtddlkkmdcfamiaaGreatDoorB35
import Derived.Test.YtddlkkmdcfamiaaGreatDoorFBytesQ
import Derived.Test.YtddlkkmdcfamiaaGreatDoorFBytesT
import Derived.Test.YtddlkkmdcfamiaaGreatDoorRows
import Derived.Test.YtddlkkmdcfamiaaGreatDoorCards
import Derived.Test.YtddlkkmdcfamiaaGreatDoorTie
import Derived.Test.YtddlkkmdcfamiaaGreatDoorChecked
import Derived.ProofKit
import Derived.LaidMore
import Derived.OpenShut
import Derived.Stop.Joined
import Derived.MakeChecks
import Derived.SevenTiedAt
import Derived.Lay
import Derived.LaidSub
import Derived.Lib.LaidTab
import Derived.Stop.LaidErr
set_option linter.unusedSimpArgs false
set_option linter.unusedVariables false
set_option maxRecDepth 100000
namespace Go.Proofs.YtddlkkmdcfamiaaGreatDoor
open Go.ChangeShapes Go.WideShapes Go.ChangeAt Go.RowKit
def laidL : List (String × DataW Unit) := Rows.forkBytesRow.laid
theorem laid_p : (Rows.laid_internal_strconv_uint64pow10 : DataW Unit) = Lib.tabData .u64 Go.Lib.pow10Tab := by kernel_rfl
theorem pow_of {W : World} (h : laidMetH Tryz.prog laidL W) : DK.Pow W := by
 rw [MakeChecks.laidMetH_plain _ _ _ (by kernel_rfl)] at h
 have h1 := (laidMet.tail (laidMet.tail h))
 rw [laid_p] at h1
 exact Lib.tabIs_of_head (g := 2) (by kernel_rfl) (by kernel_rfl) Tryz.underlying357 Tryz.underlying107 Tryz.cellsPw (by kernel_rfl) h1
theorem forkBytes_lifted (os : Os) (started : os.Started) (H : Type) (enc : TypeId × Value → H) :
  ReturnsInHanded {} Tryz.checked os 4 .any (fun w args => (Rows.forkBytesSpec.pre enc Tryz.prog Tryz.f4 [] false w args ∧ laidMetH Tryz.prog laidL w) ∧ sizedMet enc Tryz.prog Tryz.f4 (OpenSpec.ofChange Rows.forkBytesSpec) false w args)
   (Rows.forkBytesSpec.post enc Tryz.prog Tryz.f4 false true false false) := by
 refine returnsInHanded_of_change_and (C := Tryz.checked) (X := fun w _ => laidMetH Tryz.prog laidL w) (fun _ _ _ hh h => h.of_heap hh) own0 started (by kernel_rfl) Tryz.func4
  (ChangeSpec.witness_shaped (enc := enc) (C := Tryz.checked) (os := os) (X := fun w _ => laidMetH Tryz.prog laidL w) false (World.laidAll Tryz.prog os laidL) #[.agg #[.int .i64 0, .slice none 0 0], .agg #[.int .i64 0, .slice none 0 0], .slice none 0 0] 8 (World.laidAll_os _ _ _)
   (World.shaped_of_ZipB (by kernel_rfl) (by kernel_rfl)) (by kernel_rfl) (by kernel_rfl) (by kernel_rfl)
   (by rw [MakeChecks.laidMetH_plain _ _ _ (by kernel_rfl)]; exact laidMet_laidAll _ (by kernel_rfl) (by kernel_rfl))) ?_
 intro W base args ds gs before hval0 hW _ _ hL _
 have hval : ∀ (j : Nat) t v, Tryz.f4.params[j]? = some t → args[j]? = some v → Value.okWide Tryz.prog W .any base t v := hval0
 have hW' := hW
 obtain ⟨p, q, hA0, hV, rfl, _, _⟩ := hW
 have hA : DataW.TrodAll enc Tryz.prog W 0 (fun _ => true) true Tryz.f4.params.toList args.toList ds p := hA0
 rw [Tryz.params4] at hA hval
 obtain ⟨v0, v1, v2, d0, d1, d2, p0, p1, p2, rfl, rfl, rfl, h0, h1, h2⟩ := trodAll_three hA
 obtain ⟨rfl, rfl⟩ := trodVars_none hV
 clear hA0 hval0
 simp only [List.append_nil, List.append_assoc] at hW'
 have hlt : ∀ x ∈ p0 ++ (p1 ++ p2), x.block < W.heap.size := fun x hx => by simpa using hW'.lt x hx
 have k0 : ∀ W', Below W.heap.size W W' → DataW.Trod enc Tryz.prog W' 0 (fun b => decide (b < W.heap.size)) true _ v0 d0 p0 := fun W' hb => Below.trod laidOut0 (by kernel_rfl) (of_decide_eq_true (by kernel_rfl)) h0 hb (fun x hx => hlt x (by simp [hx]))
 have k1 : ∀ W', Below W.heap.size W W' → DataW.Trod enc Tryz.prog W' 0 (fun b => decide (b < W.heap.size)) true _ v1 d1 p1 := fun W' hb => Below.trod laidOut0 (by kernel_rfl) (of_decide_eq_true (by kernel_rfl)) h1 hb (fun x hx => hlt x (by simp [hx]))
 have k2 : ∀ W', Below W.heap.size W W' → DataW.Trod enc Tryz.prog W' 0 (fun b => decide (b < W.heap.size)) true _ v2 d2 p2 := fun W' hb => Below.trod laidOut0 (by kernel_rfl) (of_decide_eq_true (by kernel_rfl)) h2 hb (fun x hx => hlt x (by simp [hx]))
 obtain ⟨cs0, rfl, hz0⟩ := okWide_struct Tryz.underlying36 (hval 0 _ v0 rfl rfl)
 obtain ⟨x0, ca0, cc0, rfl, hs0⟩ := rd_cellF (cs := cs0) (by rw [hz0]; exact Tryz.cellsCellF) (by simpa [Value.cells] using Rd.of_trod h0)
 obtain ⟨cs1, rfl, hz1⟩ := okWide_struct Tryz.underlying36 (hval 1 _ v1 rfl rfl)
 obtain ⟨x1, ca1, cc1, rfl, hs1⟩ := rd_cellF (cs := cs1) (by rw [hz1]; exact Tryz.cellsCellF) (by simpa [Value.cells] using Rd.of_trod h1)
 obtain ⟨a2, n2, c2, rfl⟩ := okWide_slice Tryz.underlying24 (hval 2 _ v2 rfl rfl)
 obtain ⟨E2, rfl, hs2⟩ := rd_entries (a := a2) (n := n2) (c := c2) (by simpa [Value.cells] using Rd.of_trod h2)
 refine (forkBytes_any x0 x1 ca0 cc0 ca1 cc1 E2 a2 c2 W (pow_of hL) hs0 hs1 hs2).mono fun e W' ⟨he, hb⟩ => ?_
 subst he
 exact ⟨_, rfl, _, _, _, [], p0 ++ (p1 ++ p2), [], hW', trodAll_mk1 (shut_bool Tryz.underlying4 _), trodAll_mk3 (k0 _ hb) (k1 _ hb) (k2 _ hb), rfl, hb.frame _, fun h => by cases h⟩

theorem forkBytes_named : Tryz.pinned.checked.prog.funcNamed Rows.forkBytesRow.func = some 4 := by kernel_rfl
theorem forkBytes_closed : joinedFacts Tryz.pinned.checked.prog 4 Tryz.f4 Rows.forkBytesSpec Rows.forkBytesRow = true := by
 unfold joinedFacts
 rw [forkBytes_ip, forkBytes_uf, forkBytes_rc, forkBytes_vn]
 kernel_rfl
theorem forkBytes_row : Rows.ForkBytesSaid :=
 OpenClaim.holds_of_wide 4 Tryz.f4 rfl rfl rfl rfl rfl rfl rfl ⟨rfl, rfl, rfl, rfl, rfl⟩ rfl rfl rfl rfl rfl forkBytes_named Tryz.func4 forkBytes_closed
  (of_decide_eq_true (by kernel_rfl)) (by unfold Func.isWrapper; first | (rw [if_pos (by decide +kernel)]; kernel_rfl) | (rw [if_neg (by decide +kernel)]; exact ⟨rfl, rfl⟩))
  (fun os started H enc _ => forkBytes_lifted os started H enc)
theorem forkBytes_holds : Rows.ForkBytesCardSaid :=
 Claim7.holds_tied_plain_at .later [] [.data, .data, .data, .data, .sentinel, .sentinel, .pinned] true Rows.forkBytesCard.stood.harness true
  forkBytes_row (fun _ h => by cases h) (by kernel_rfl) (fun _ h => by cases h) forkBytes_row_tie rfl ⟨rfl, rfl⟩ (by kernel_rfl) rfl
  (fun f fn hf hfn => by
   obtain rfl : f = 4 := Option.some.inj ((show Tryz.prog.funcNamed "holdfast/holdfastlaw30.ForkBytes" = some 4 by kernel_rfl).symm.trans hf) |>.symm
   obtain rfl : fn = Tryz.f4 := (Option.some.inj (Tryz.func4.symm.trans hfn)).symm
   exact ⟨by kernel_rfl, fun j t ht => by
    rw [Tryz.params4] at ht
    have hm : t ∈ [36, 24] := by have := Array.mem_of_getElem? ht; first | (simpa using this) | (simp at this; rcases this with rfl | rfl | rfl <;> simp)
    have hall : ([36, 24].all fun u => !Tryz.prog.wantsStandIn u) = true := by kernel_rfl
    exact (show Tryz.prog.wantsStandIn t = false by simpa using List.all_eq_true.1 hall t hm)⟩)
  (by kernel_rfl)
#print axioms forkBytes_holds
end Go.Proofs.YtddlkkmdcfamiaaGreatDoor
