/- Proved here: a part of the proof (20 of 31). -/
import Derived.Test.YtelneaokoiojkaaGreatDoorV19
import Derived.Lib.AppendIntMem
import Derived.Lib.AtoiErrMem
import Derived.BigQuiet
set_option linter.unusedSimpArgs false
set_option linter.unusedVariables false
set_option maxRecDepth 20000
namespace Go.Proofs.YtelneaokoiojkaaGreatDoor
open Go.RowKit
namespace DK
/-- strconv's table of powers of ten lies as it was laid -/
def Pow (w : World) : Prop := Go.Lib.TabIs Tryz.prog w "internal/strconv.uint64pow10" .u64 Go.Lib.pow10Tab
theorem Pow.below {w w' : World} (h : Pow w) (hb : Below w.heap.size w w') : Pow w' := Go.Lib.tabBelow_of_tabIs h w' hb
theorem bExtra : Builder.Extra Tryz.prog Tryz.repS_ren where
 sizeBuilder := by kernel_rfl
 liesBuilder := by kernel_rfl
 t5 := Tryz.underlying5
 a5 := Tryz.isAgg5
 z5 := Tryz.sizeOf5
 v5 := Tryz.zeroValue5
 infoByte := by kernel_rfl
 cellsByte := by kernel_rfl
 sizeByte := by kernel_rfl
 neB5 := by decide
theorem itoa_any (n : Nat) (w : World) (h : Pow w) (hn : n ≤ 99999999) : Calls Tryz.prog 232 #[.int .i64 n] w fun e w' => e = .returned (.string ⟨(Go.Lib.decDigits n).toArray⟩) ∧ Below w.heap.size w w' :=
 (Any.strconv_Itoa Tryz.itoS n (by omega) (by omega) w h).mono fun e w' ⟨he, k, os, hw⟩ => ⟨by rw [he, Go.Lib.itoa_nonneg], by rw [hw]; exact Go.Lib.below_grow _ w (Nat.le_refl _) k os⟩
theorem repeat_any (c : Nat) (w : World) (hc : c ≤ 8) : Calls Tryz.prog 233 #[.string ⟨#[48]⟩, .int .i64 c] w fun e w' => e = .returned (.string ⟨(Go.Lib.repeatL [48] c).toArray⟩) ∧ Below w.heap.size w w' :=
 Any.strings_Repeat Tryz.repS bExtra ⟨#[48]⟩ c w (by omega) (by show 1 * c ≤ _; omega)
theorem digits_le {n : Nat} (h : n ≤ 99999999) : (Go.Lib.decDigits n).length ≤ 8 := by
 have h1 := congrArg List.length (pad8_eq h)
 rw [List.length_append, pad8_len] at h1; omega
theorem ba_append (a b : List UInt8) : (⟨a.toArray⟩ : ByteArray) ++ ⟨b.toArray⟩ = ⟨(a ++ b).toArray⟩ := by
 apply ByteArray.ext
 rw [ByteArray.data_append]
 simp
set_option maxHeartbeats 2000000 in
theorem name_any (b : UInt8) (n : Nat) (w : World) (hp : Pow w) (hn : n ≤ 99999999) : Calls Tryz.prog 173 #[.string ⟨#[b]⟩, .int .i64 n] w fun e w' => e = .returned (.string (nameN b n)) ∧ Below w.heap.size w w' := by
 have HI := Zh (itoa_any n w hp hn)
 have hl := digits_le hn
 have HN := Zh (show nameN b n = (⟨#[b]⟩ : ByteArray) ++ (⟨(Go.Lib.repeatL [48] (8 - (Go.Lib.decDigits n).length)).toArray⟩ : ByteArray) ++ (⟨(Go.Lib.decDigits n).toArray⟩ : ByteArray) by
  rw [show (⟨#[b]⟩ : ByteArray) = ⟨[b].toArray⟩ from rfl, ba_append, ba_append, List.append_assoc, pad8_eq hn]; rfl)
 have hr : (Go.Lib.repeatL [48] (8 - (Go.Lib.decDigits n).length)).length ≤ 8 := by rw [repeatL_one, List.length_replicate]; omega
 clear hp hn
 obtain ⟨s, hs⟩ : ∃ s, (⟨(Go.Lib.decDigits n).toArray⟩ : ByteArray) = s := ⟨_, rfl⟩
 have hsz : s.size = (Go.Lib.decDigits n).length := by rw [← hs]; simp [ByteArray.size]
 rw [hs] at HN HI
 obtain ⟨k, hk⟩ : ∃ k, (Go.Lib.decDigits n).length = k := ⟨_, rfl⟩
 rw [hk] at HN hl hr hsz
 obtain ⟨z, hz⟩ : ∃ z, (⟨(Go.Lib.repeatL [48] (8 - k)).toArray⟩ : ByteArray) = z := ⟨_, rfl⟩
 have hzs : z.size ≤ 8 := by rw [← hz]; simpa [ByteArray.size] using hr
 rw [hz] at HN
 have HR := Zh (show ∀ w : World, Calls Tryz.prog 233 #[.string ⟨#[48]⟩, .int .i64 (8 - (k : Int))] w fun e w' => e = .returned (.string z) ∧ Below w.heap.size w w' from fun w => by
  have h1 := repeat_any (8 - k) w (by omega)
  rw [hz] at h1
  rwa [show ((8 - k : Nat) : Int) = 8 - (k : Int) by omega] at h1)
 have e1 : IntKind.i64.wrap (8 - (k : Int)) = 8 - (k : Int) := IntWalk.i64_in _ (by omega)
 have hb1 : (⟨#[b]⟩ : ByteArray).size = 1 := rfl
 have g1 : ¬ 9223372036854775807 < 1 + z.size := by omega
 have g2 : ¬ 9223372036854775807 < ((⟨#[b]⟩ : ByteArray) ++ z).size + s.size := by rw [ByteArray.size_append]; omega
 clear hr hs hk hz
 go_enter Tryz.func173, Tryz.ntmps173
 go_wp2_with (first | (go_at_call 232; refine HI.out.mono ?_; rintro e w1 ⟨rfl, hb⟩) | (go_at_call 233; refine (HR.out _).mono ?_; rintro e w2 ⟨rfl, hb2⟩))
 go_ret
 exact ⟨by rw [HN.out]; rfl, hb.trans (hb2.mono hb.size)⟩
end DK
end Go.Proofs.YtelneaokoiojkaaGreatDoor
