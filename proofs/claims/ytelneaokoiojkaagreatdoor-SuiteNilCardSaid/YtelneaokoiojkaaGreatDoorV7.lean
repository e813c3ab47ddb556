/- Proved here: a part of the proof (7 of 31). -/
import Derived.Test.YtelneaokoiojkaaGreatDoorV5
import Derived.Test.YtelneaokoiojkaaGreatDoorV3
import Derived.Test.YtelneaokoiojkaaGreatDoorV4
import Derived.Test.YtelneaokoiojkaaGreatDoorV1
import Derived.Laws.EntriesVeiled
import Derived.Test.YtelneaokoiojkaaGreatDoorV6
set_option linter.unusedSimpArgs false
set_option linter.unusedVariables false
set_option maxRecDepth 100000
namespace Go.Proofs.YtelneaokoiojkaaGreatDoor
open Go.RowKit

/-- a row is handed back, longer; what else was written lies in blocks from B on -/
def PutR (B : Nat) (r : List UInt8) (w : World) (en : Ending) (w' : World) : Prop :=
 ∃ a' c', en = .returned (.slice a' r.length c') ∧ w'.ownsRow B 5 1 (.slice a' r.length c') r.length (byteVs r) ∧ Fr (fun k => B ≤ k) w w'
theorem or128_i (m : Nat) : bits .or .u8 ((m : Int) % 256) 128 = ((m % 128 + 128 : Nat) : Int) := by
 have := or128_u8 m
 rwa [Int.natCast_emod] at this
theorem ofNat_lo (m : Nat) (h : m < 128) : byteV (UInt8.ofNat m) = .int .u8 (m : Int) := by
 simp [byteV]; omega
theorem ofNat_hi (m : Nat) : byteV (UInt8.ofNat (m % 128 + 128)) = .int .u8 ((m % 128 + 128 : Nat) : Int) := by
 simp [byteV]; omega
theorem own_mono {B e size n : Nat} {v : Value} {xs : List Value} {w0 w w' : World} (h : Fr (fun k => v.ownBlock = some k) w w') (ho : w.ownsRow B e size v n xs) (h0 : Fr (fun k => B ≤ k) w0 w) : Fr (fun k => B ≤ k) w0 w' :=
 h0.trans h (fun i hi => .inl (own_blk ho hi).1)
set_option maxHeartbeats 1000000 in
theorem vput_any {B : Nat} (l : List UInt8) (a : Option Addr) (c n : Nat) (hn : n < 18446744073709551616) (w : World) (h : w.ownsRow B 5 1 (.slice a l.length c) l.length (byteVs l)) (hB : B ≤ w.heap.size) (hl : l.length ≤ 1099511627776) :
  Calls Tryz.prog 204 #[.slice a l.length c, .int .u64 n] w (PutR B (l ++ vb n) w) := by
 have HO0 := Lib.hid' h
 have hvl := vb_len10 hn
 clear h
 go_enter Tryz.func204, Tryz.ntmps204
 go_wp2_with fail
 go_loopw [0, 1] (fun v0 v1 wr => ∃ (m : Nat) (p : List UInt8) (a' : Option Addr) (c' : Nat), v0 = .slice a' (l ++ p).length c' ∧ v1 = .int .u64 m ∧ m < 18446744073709551616 ∧ Hid (vb n = p ++ vb m) ∧ Hid (wr.ownsRow B 5 1 (.slice a' (l ++ p).length c') (l ++ p).length (byteVs (l ++ p))) ∧ Hid (Fr (fun k => B ≤ k) w wr)) (fun _ v1 _ => (intOf v1).toNat)
 case atStart => exact ⟨n, [], a, c, by rw [List.append_nil], rfl, hn, Lib.hid' rfl, Zh (by rw [List.append_nil]; exact HO0.out), Zh (Fr.refl _ _)⟩
 case round =>
  obtain ⟨m, p, a', c', rfl, rfl, hm, HV, HO, HF⟩ := hrel
  have hpl : (l ++ p).length ≤ 1099511627786 := by have := congrArg List.length HV.out; simp at this; simp; omega
  have hzr : B ≤ wr.heap.size := Nat.le_trans hB HF.out.size
  obtain ⟨r, hr⟩ : ∃ r, r = l ++ p := ⟨_, rfl⟩
  rw [← hr] at HO hpl ⊢
  have HR := Lib.hid' hr
  clear hr
  by_cases hlt : 128 ≤ m
  ·have e1 := or128_i m
   have HV2 := Zh (vb_big (n := m) (by omega))
   go_wp2_with (at_builtin; refine append_one etBytes rfl (.tmp 9) (.tmp 13) rfl [.int .u8 ((m % 128 + 128 : Nat) : Int)] rfl B r.length (byteVs r) _ rfl HO.out rfl (by simp [Value.oneCell']) (by omega) hzr ?_)
   intro a2 c2 w2 ho2 hf2
   have HO2 := Zh (show w2.ownsRow B 5 1 (.slice a2 (l ++ (p ++ [UInt8.ofNat (m % 128 + 128)])).length c2) (l ++ (p ++ [UInt8.ofNat (m % 128 + 128)])).length (byteVs (l ++ (p ++ [UInt8.ofNat (m % 128 + 128)]))) by
    rw [← List.append_assoc, ← HR.out, byteVs_append, List.length_append]; simp only [byteVs, List.map_cons, List.map_nil, ofNat_hi]; exact ho2)
   have HF2 := Zh (own_mono hf2 HO.out HF.out)
   have HL2 := Zh (show r.length + 1 = (l ++ (p ++ [UInt8.ofNat (m % 128 + 128)])).length by rw [HR.out]; simp; omega)
   clear ho2 hf2 e1
   go_wp2_with fail
   go_roundw
   case rel => exact ⟨m / 128, p ++ [UInt8.ofNat (m % 128 + 128)], a2, c2, by rw [HL2.out], by go_num, by omega, Zh (by rw [HV.out, HV2.out]; simp), HO2, HF2⟩
   case measure => simp [intOf]; omega
  ·have hlt' : m < 128 := by omega
   have HV2 := Zh (vb_small hlt')
   go_wp2_with (at_builtin; refine append_one etBytes rfl (.tmp 15) (.tmp 18) rfl [.int .u8 (m : Int)] rfl B r.length (byteVs r) _ rfl HO.out rfl (by simp [Value.oneCell']) (by omega) hzr ?_)
   intro a2 c2 w2 ho2 hf2
   have HLE := Zh (show l ++ vb n = r ++ [UInt8.ofNat m] by rw [HV.out, HV2.out, HR.out]; simp)
   have HL2 := Zh (show (l ++ vb n).length = r.length + 1 by rw [HLE.out]; simp)
   have HO2 := Zh (show w2.ownsRow B 5 1 (.slice a2 (l ++ vb n).length c2) (l ++ vb n).length (byteVs (l ++ vb n)) by
    rw [HL2.out, HLE.out, byteVs_append]; simp only [byteVs, List.map_cons, List.map_nil, ofNat_lo m hlt']; exact ho2)
   have HF2 := Zh (own_mono hf2 HO.out HF.out)
   clear ho2 hf2
   go_wp2_with fail
   go_ret
   exact ⟨a2, c2, ret_eq (by rw [HL2.out]; rfl), HO2.out, HF2.out⟩

/-- numbers in a slice -/
def uVs (l : List Nat) : List Value := l.map (fun n : Nat => Value.int .u64 (n : Int))
def Us (w : World) (v : Value) (l : List Nat) : Prop := SlV w v l.length (uVs l)
theorem us_at {w : World} {a : Option Addr} {n c : Nat} {l : List Nat} (h : Us w (.slice a n c) l) {k : Nat} (hk : k < l.length) :
  ∃ b off, a = some ⟨b, off, none⟩ ∧ b < w.heap.size ∧ w.cell? ⟨b, off + k, none⟩ = some (.int .u64 (l[k] : Nat)) := by
 have h' : SlV w (.slice a n c) n (l.flatMap (fun x => [Value.int .u64 (x : Nat)])) := by
  obtain ⟨a', c', he, r⟩ := h
  cases he
  refine ⟨a, c, rfl, ?_⟩
  have : l.flatMap (fun x => [Value.int .u64 (x : Nat)]) = uVs l := by
   clear r hk; induction l with
   | nil => rfl
   | cons x l ih => rw [List.flatMap_cons, ih]; rfl
  rw [this]; exact r
 obtain ⟨b, off, e, hb, hc⟩ := SlV.row (f := fun x : Nat => [Value.int .u64 (x : Nat)]) (s := 1) (fun _ => rfl) (by decide) h' hk
 refine ⟨b, off, e, hb, ?_⟩
 have := hc 0 _ rfl
 simpa using this
/-- numbers' bytes, one behind the other -/
def vbs (l : List Nat) : List UInt8 := l.flatMap vb
theorem vbs_len {l : List Nat} (h : ∀ n ∈ l, n < 18446744073709551616) : (vbs l).length ≤ 10 * l.length := by
 unfold vbs
 induction l with
 | nil => simp
 | cons n l ih =>
  have h1 := vb_len10 (h n List.mem_cons_self)
  have h2 := ih (fun m hm => h m (List.mem_cons_of_mem _ hm))
  simp only [List.flatMap_cons, List.length_append, List.length_cons]; omega
set_option maxHeartbeats 1000000 in
theorem vPut_any (b : List UInt8) (a : Option Addr) (c : Nat) (l : List Nat) (la : Option Addr) (lc : Nat) (w : World) (h : Bytes w (.slice a b.length c) b) (hU : Us w (.slice la l.length lc) l) (hl : ∀ n ∈ l, n < 18446744073709551616) (hb : b.length ≤ 1073741824) (hln : l.length ≤ 1048576) :
  Calls Tryz.prog 146 #[.slice a b.length c, .slice la l.length lc] w (OwnR w.heap.size 5 1 (b ++ vbs l).length (byteVs (b ++ vbs l)) w) := by
 have HU := Lib.hid' hU
 have HL := Lib.hid' hl
 have HC := Zh (clone_any (.slice a b.length c) b w h (by omega))
 clear h hU hl
 go_enter Tryz.func146, Tryz.ntmps146
 go_wp2_with fail
 refine HC.out.mono ?_
 rintro e w1 ⟨a1, c1, rfl, ho, hb1⟩
 have HO := Lib.hid' ho
 have HB := Lib.hid' hb1
 clear ho hb1 HC
 go_wp2_with fail
 go_loopw [5, 12] (fun v5 v12 wr => ∃ (k : Nat) (a' : Option Addr) (c' : Nat), v12 = .int .i64 k ∧ k ≤ l.length ∧ v5 = .slice a' (b ++ vbs (l.take k)).length c' ∧ Hid (wr.ownsRow w.heap.size 5 1 (.slice a' (b ++ vbs (l.take k)).length c') (b ++ vbs (l.take k)).length (byteVs (b ++ vbs (l.take k)))) ∧ Hid (Below w.heap.size w wr)) (fun _ v12 _ => l.length - (intOf v12).toNat)
 case atStart => exact ⟨0, a1, c1, rfl, Nat.zero_le _, by simp [vbs], Zh (by simpa [vbs] using HO.out), HB⟩
 case round =>
  obtain ⟨k, a', c', rfl, hk, rfl, HOk, HBk⟩ := hrel
  by_cases hlt : k < l.length
  ·obtain ⟨bb, off, rfl, hbb, hc⟩ := (show Us wr (.slice la l.length lc) l from SlV.below HU.out (Nat.le_refl _) HBk.out) |> fun h => us_at h hlt
   have HN := Zh (show b ++ vbs (l.take (k + 1)) = (b ++ vbs (l.take k)) ++ vb l[k] by
    rw [List.take_succ_eq_append_getElem hlt]; unfold vbs; rw [List.flatMap_append, ← List.append_assoc]; simp only [List.flatMap_cons, List.flatMap_nil, List.append_nil])
   have hx := HL.out l[k] (List.getElem_mem hlt)
   have hvl : (b ++ vbs (l.take k)).length ≤ 1099511627776 := by
    have := vbs_len (l := l.take k) (fun n hn => HL.out n (List.mem_of_mem_take hn))
    simp only [List.length_append, List.length_take] at *; omega
   generalize l[k] = x at *
   obtain ⟨r, hr⟩ : ∃ r, r = b ++ vbs (l.take k) := ⟨_, rfl⟩
   rw [← hr] at HOk HN hvl ⊢
   clear hr
   have hbz := HBk.out.size
   go_wp2_with fail
   refine (vput_any r a' c' x hx wr HOk.out hbz hvl).mono ?_
   rintro e w2 ⟨a2, c2, rfl, ho2, hf2⟩
   obtain ⟨r2, hr2⟩ : ∃ r2, r2 = r ++ vb x := ⟨_, rfl⟩
   have HN2 := Zh (HN.out.trans hr2.symm)
   rw [← hr2] at ho2 ⊢
   clear hr2
   have HO2 := Lib.hid' ho2
   have HB2 := Zh (HBk.out.trans (hf2.below hbz (fun q hq => hq)))
   clear ho2 hf2
   go_wp2_with fail
   go_roundw
   case rel => exact ⟨k + 1, a2, c2, by go_num, by omega, by rw [HN2.out], Zh (by rw [HN2.out]; exact HO2.out), HB2⟩
   case measure => simp [intOf]; omega
  ·obtain rfl : k = l.length := by omega
   have HT := Zh (List.take_length (l := l))
   rw [HT.out] at HOk ⊢
   go_wp2_with fail
   go_ret
   exact ⟨a', c', rfl, HOk.out, HBk.out⟩
end Go.Proofs.YtelneaokoiojkaaGreatDoor

namespace Go.Proofs.YtelneaokoiojkaaGreatDoor
open Go.RowKit

theorem us_one (w : World) (x : Nat) (t : Nat) : Us (w.alloc (.cells #[.int .u64 (x : Int)] t)) (.slice (some ⟨w.heap.size, 0, none⟩) 1 1) [x] :=
 SlV.new w [.int .u64 (x : Int)] 1 t (by decide)
set_option maxHeartbeats 1000000 in
theorem vPutText_any (b t : List UInt8) (a ta : Option Addr) (c tc : Nat) (w : World) (h : Bytes w (.slice a b.length c) b) (hT : Bytes w (.slice ta t.length tc) t) (hb : b.length ≤ 1073741824) (hlt : t.length ≤ 1073741824) :
  Calls Tryz.prog 211 #[.slice a b.length c, .slice ta t.length tc] w (OwnR w.heap.size 5 1 (b ++ headB t).length (byteVs (b ++ headB t)) w) := by
 have HB := Lib.hid' h
 have HT := Lib.hid' hT
 clear h hT
 go_enter Tryz.func211, Tryz.ntmps211
 go_wp2_with fail
 have hg : Below w.heap.size w (w.alloc (.cells #[.int .u64 (t.length : Int)] 229)) := by go_grown
 have HC := Zh (vPut_any b a c [t.length] (some ⟨w.heap.size, 0, none⟩) 1 _ (show Bytes (w.alloc (.cells #[.int .u64 (t.length : Int)] 229)) (.slice a b.length c) b from SlV.below HB.out (Nat.le_refl _) hg) (us_one w t.length _) (by intro n hn; simp at hn; omega) hb (by simp))
 have HT1 := Zh (show Bytes (w.alloc (.cells #[.int .u64 (t.length : Int)] 229)) (.slice ta t.length tc) t from SlV.below HT.out (Nat.le_refl _) hg)
 have HG := Lib.hid' hg
 have hz : (w.alloc (.cells #[.int .u64 (t.length : Int)] 229)).heap.size = w.heap.size + 1 := by simp
 clear hg
 generalize (w.alloc (.cells #[.int .u64 (t.length : Int)] 229)) = w1 at *
 obtain ⟨r, hr⟩ : ∃ r, r = b ++ vbs [t.length] := ⟨_, rfl⟩
 have hrl : r.length ≤ 1073741844 := by
  have := vbs_len (l := [t.length]) (by intro n hn; simp at hn; omega)
  rw [hr]; simp only [List.length_append]; simp at this; omega
 have HR := Zh (show b ++ headB t = r ++ t by rw [hr]; simp [vbs, headB])
 rw [← hr] at HC
 clear hr
 refine HC.out.mono ?_
 rintro e w2 ⟨a2, c2, rfl, ho2, hb2⟩
 have HO2 := Zh (own_base (B' := w.heap.size) ho2 (by omega))
 have HB2 := Zh (HG.out.trans (hb2.mono (by omega)))
 have HT2 := Zh (show Bytes w2 (.slice ta t.length tc) t from SlV.below HT1.out (Nat.le_refl _) hb2)
 have hz2 : w.heap.size ≤ w2.heap.size := by have := hb2.size; omega
 clear ho2 hb2 hz HC HT1
 go_wp2_with (at_builtin; refine append_sl etBytes rfl (.tmp 10) (.tmp 11) rfl w.heap.size r.length (byteVs r) _ rfl HO2.out t.length (byteVs t) _ rfl HT2.out (by simp [byteVs]) (byteVs_one _) (by omega) hz2 ?_)
 intro a3 c3 w3 ho3 hf3
 have HL := Zh (show (b ++ headB t).length = r.length + t.length by rw [HR.out]; simp)
 have HO3 := Zh (show w3.ownsRow w.heap.size 5 1 (.slice a3 (b ++ headB t).length c3) (b ++ headB t).length (byteVs (b ++ headB t)) by rw [HL.out, HR.out, byteVs_append]; exact ho3)
 have HB3 := Zh (hf3.row HO2.out (Nat.le_refl _) hz2 HB2.out)
 clear ho3 hf3
 go_wp2_with fail
 go_ret
 exact ⟨a3, c3, ret_eq (by rw [HL.out]; rfl), HO3.out, HB3.out⟩

theorem getD_at {b : List UInt8} {k : Nat} (hl : k < b.length) : b.getD k 0 = b[k] := by simp [List.getD, hl]
end Go.Proofs.YtelneaokoiojkaaGreatDoor

namespace Go.Proofs.YtelneaokoiojkaaGreatDoor
open Go.RowKit

/-- block b is a reader in the state r -/
def DLow (a : Option Addr) (n b : Nat) : Prop := n ≠ 0 → ∀ x, a = some x → x.block < b   -- what is left lies below the reader
def RAt (w : World) (b : Nat) (r : RD) : Prop := ∃ a c, BoxW b [.slice a r.rest.length c, errV r.bad] 277 w ∧ Bytes w (.slice a r.rest.length c) r.rest ∧ DLow a r.rest.length b
theorem RAt.lt {w : World} {b : Nat} {r : RD} (h : RAt w b r) : b < w.heap.size := by obtain ⟨a, c, h1, _⟩ := h; exact h1.lt
end Go.Proofs.YtelneaokoiojkaaGreatDoor

namespace Go.Proofs.YtelneaokoiojkaaGreatDoor
open Go.RowKit

end Go.Proofs.YtelneaokoiojkaaGreatDoor

namespace Go.Proofs.YtelneaokoiojkaaGreatDoor
open Go.RowKit

def OpenR (r : Nat × List UInt8) (F : Nat → Prop) (w : World) (en : Ending) (w' : World) : Prop :=
 ∃ a c, en = .returned (.tuple #[.slice a r.2.length c, errV r.1]) ∧ w'.ownsRow w.heap.size 5 1 (.slice a r.2.length c) r.2.length (byteVs r.2) ∧ Fr F w w'
end Go.Proofs.YtelneaokoiojkaaGreatDoor

namespace Go.Proofs.YtelneaokoiojkaaGreatDoor
open Go.RowKit

/-- a text's frame behind bytes; an error's number -/
def fputN (t : List UInt8) : Nat := if 65536 < t.length then 3 else 0
def fputB (b t : List UInt8) : List UInt8 := if 65536 < t.length then [] else b ++ frameB t
def FPutR (b t : List UInt8) (w : World) (en : Ending) (w' : World) : Prop :=
 ∃ a c, en = .returned (.tuple #[.slice a (fputB b t).length c, errV (fputN t)]) ∧ w'.ownsRow w.heap.size 5 1 (.slice a (fputB b t).length c) (fputB b t).length (byteVs (fputB b t)) ∧ Below w.heap.size w w'
set_option maxHeartbeats 2000000 in
theorem fput_any (b t : List UInt8) (a ta : Option Addr) (c tc : Nat) (w : World) (h : Bytes w (.slice a b.length c) b) (hT : Bytes w (.slice ta t.length tc) t) (hb : b.length ≤ 1073741824) :
  Calls Tryz.prog 148 #[.slice a b.length c, .slice ta t.length tc] w (FPutR b t w) := by
 have HB := Lib.hid' h
 have HT := Lib.hid' hT
 have htl := bytes_len hT
 clear h hT
 by_cases hl : 65536 < t.length
 ·have H1 := Zh (show fputN t = 3 from if_pos hl)
  have H2 := Zh (show fputB b t = [] from if_pos hl)
  go_enter Tryz.func148, Tryz.ntmps148
  go_wp2
  refine bodyPost_ret (v := .tuple #[.slice none 0 0, .iface 46 (.int .i64 3)]) (by simp [results, Tryz.results148, go_sem]) rfl ?_
  exact ⟨none, 0, by rw [H1.out, H2.out]; rfl, by rw [H2.out]; exact own_nil _ _ _ _, Below.refl _ _⟩
 have H1 := Zh (show fputN t = 0 from if_neg hl)
 have H2 := Zh (show fputB b t = b ++ frameB t from if_neg hl)
 go_enter Tryz.func148, Tryz.ntmps148
 go_wp2_with fail
 refine (crcnew_any w).mono ?_
 rintro e w1 ⟨rfl, hx1, hb1, hz1⟩
 have HX1 := Zh (show BoxW w.heap.size freshR 344 w1 from hx1)
 have HB1 := Lib.hid' hb1
 have HT1 := Zh (show Bytes w1 (.slice ta t.length tc) t from SlV.below HT.out (Nat.le_refl _) hb1)
 clear hx1 hb1
 go_wp2_with fail
 refine (vPutText_any [] t none ta 0 tc w1 (SlV.empty _ _ _ (Nat.zero_le _) (fun _ => rfl)) HT1.out (by simp) (by omega)).mono ?_
 rintro e w2 ⟨a2, c2, rfl, ho2, hb2⟩
 rw [List.nil_append] at ho2 ⊢
 have HX2 := Zh (HX1.out.below (Nat.le_refl _) hb2)
 have HB2 := Zh (HB1.out.trans (hb2.mono (by omega)))
 have HO2 := Zh (show Bytes w2 (.slice a2 (headB t).length c2) (headB t) from SlV.of_own ho2)
 have hz2 : w.heap.size < w2.heap.size := by have := hb2.size; omega
 have hhl : (headB t).length ≤ 65556 := by
  have := vb_len10 (n := t.length) (by omega)
  unfold headB; rw [List.length_append]; omega
 clear ho2 hb2 HT1
 obtain ⟨hd, hhd⟩ : ∃ hd, hd = headB t := ⟨_, rfl⟩
 have HHD := Lib.hid' hhd
 rw [← hhd] at HO2 hhl ⊢
 clear hhd
 go_wp2_with fail
 refine (sealed_any w.heap.size a2 c2 hd w2 HX2.out HO2.out (by omega)).mono ?_
 rintro e w3 ⟨a3, c3, rfl, ho3, hf3⟩
 have HFR := Zh (show hd ++ four (crcOf 0 hd) = frameB t by unfold frameB; rw [HHD.out])
 rw [HFR.out] at ho3 ⊢
 have HB3 := Zh (HB2.out.trans (hf3.below (by omega) (fun k hk => by omega)))
 have HO3 := Zh (show Bytes w3 (.slice a3 (frameB t).length c3) (frameB t) from SlV.of_own ho3)
 have hz3 : w.heap.size < w3.heap.size := by have := hf3.size; omega
 have hfl : (frameB t).length ≤ 70000 := by rw [frameB_len]; have := vb_len10 (n := t.length) (by omega); omega
 clear ho3 hf3 HX1 HX2 HB1
 obtain ⟨fr, hfr⟩ : ∃ fr, fr = frameB t := ⟨_, rfl⟩
 have HFF := Lib.hid' hfr
 rw [← hfr] at HO3 hfl ⊢
 clear hfr HFR
 go_wp2_with fail
 have HBx := Zh (show Bytes w3 (.slice a b.length c) b from SlV.below HB.out (Nat.le_refl _) HB3.out)
 have hg : Below w3.heap.size w3 (w3.alloc (.cells #[.slice a b.length c, .slice a3 fr.length c3] 32)) := by go_grown
 have HCH := Zh (show Cbs (w3.alloc (.cells #[.slice a b.length c, .slice a3 fr.length c3] 32)) (some ⟨w3.heap.size, 0, none⟩) 2 [(b, a, c), (fr, a3, c3)] from
  ⟨SlV.of_own (slv_alloc w3 [.slice a b.length c, .slice a3 fr.length c3] 2 32 (by decide) rfl), fun y hy => by
   simp only [List.mem_cons, List.not_mem_nil, or_false] at hy
   rcases hy with rfl | rfl
   ·exact SlV.below HBx.out (Nat.le_refl _) hg
   ·exact SlV.below HO3.out (Nat.le_refl _) hg⟩)
 have hfb : flatB [(b, a, c), (fr, a3, c3)] = b ++ fr := by simp [flatB]
 have hcc := concatB_any [(b, a, c), (fr, a3, c3)] (some ⟨w3.heap.size, 0, none⟩) 2 _ HCH.out (by rw [hfb, List.length_append]; omega)
 rw [hfb] at hcc
 have HG := Zh (HB3.out.trans (hg.mono (by omega)))
 clear hg hfb
 refine hcc.mono ?_
 rintro e w4 ⟨a4, c4, rfl, ho4, hb4⟩
 have HO4 := Zh (own_base (B' := w.heap.size) ho4 (by simp; omega))
 have HB4 := Zh (HG.out.trans (hb4.mono (by simp; omega)))
 clear ho4 hb4 hcc
 obtain ⟨r, hr⟩ : ∃ r, r = b ++ fr := ⟨_, rfl⟩
 have HR := Zh (show fputB b t = r by rw [H2.out, ← HFF.out, hr])
 rw [← hr] at HO4 ⊢
 clear hr
 go_wp2
 refine bodyPost_ret (v := .tuple #[.slice a4 r.length c4, .nilIface]) (by simp [results, Tryz.results148, go_sem]) rfl ?_
 exact ⟨a4, c4, by rw [H1.out, HR.out]; rfl, by rw [HR.out]; exact HO4.out, HB4.out⟩
end Go.Proofs.YtelneaokoiojkaaGreatDoor

namespace Go.Proofs.YtelneaokoiojkaaGreatDoor
open Go.RowKit

def ac9V (x : Ac) (a : Option Addr) (c : Nat) : Value := .agg #[.int .i64 x.k, .int .i64 x.e, .int .i64 x.a, .slice a x.d.length c]
theorem rin_t (x m : Int) (h0 : 0 ≤ x) (h1 : x ≤ m) (w : World) : Calls Tryz.prog 275 #[.int .i64 x, .int .i64 m] w fun e w' => e = .returned (.bool true) ∧ w' = w := by
 go_enter Tryz.func275, Tryz.ntmps275
 go_wp2
 go_ret
 exact ⟨ret_eq (by simp [h0, h1]), rfl⟩
theorem rin_f (x m : Int) (h : ¬ (0 ≤ x ∧ x ≤ m)) (w : World) : Calls Tryz.prog 275 #[.int .i64 x, .int .i64 m] w fun e w' => e = .returned (.bool false) ∧ w' = w := by
 by_cases h0 : 0 ≤ x
 ·have h1 : ¬ x ≤ m := fun hh => h ⟨h0, hh⟩
  have H := Lib.hid' h1
  clear h
  go_enter Tryz.func275, Tryz.ntmps275
  go_wp2
  go_ret
  exact ⟨ret_eq (by simp; (try omega)), rfl⟩
 ·clear h
  go_enter Tryz.func275, Tryz.ntmps275
  go_wp2
  go_ret
  exact ⟨ret_eq (by simp; (try omega)), rfl⟩
def hiN (k : Int) : Int := if k = 2 ∨ k = 3 then 1048575 else 1048576
theorem rhi_any (k : Int) (w : World) : Calls Tryz.prog 276 #[.int .i64 k] w fun e w' => e = .returned (.int .i64 (hiN k)) ∧ w' = w := by
 by_cases h2 : k = 2
 ·subst h2
  go_enter Tryz.func276, Tryz.ntmps276
  go_wp2
  go_ret
  exact ⟨rfl, rfl⟩
 ·have h2b : (k == 2) = false := by rw [beq_eq_false_iff_ne]; exact h2
  by_cases h3 : k = 3
  ·subst h3
   go_enter Tryz.func276, Tryz.ntmps276
   go_wp2
   go_ret
   exact ⟨rfl, rfl⟩
  ·have h3b : (k == 3) = false := by rw [beq_eq_false_iff_ne]; exact h3
   have H := Zh (show hiN k = 1048576 by unfold hiN; rw [if_neg (by omega)])
   clear h2 h3
   go_enter Tryz.func276, Tryz.ntmps276
   go_wp2
   go_ret
   exact ⟨ret_eq (by rw [H.out]; rfl), rfl⟩
theorem ck_1 {x : Ac} (h : x.k < 1 ∨ 5 < x.k ∨ ¬ (0 ≤ x.e ∧ x.e ≤ 1099511627776) ∨ ¬ (0 ≤ x.a ∧ x.a ≤ hiN x.k)) : x.check = 1 := by
 unfold Ac.check
 by_cases h1 : x.k < 1 ∨ 5 < x.k ∨ x.e < 0 ∨ 1099511627776 < x.e ∨ x.a < 0 ∨ 1048576 < x.a
 ·rw [if_pos h1]
 ·rw [if_neg h1]
  by_cases h2 : (x.k = 2 ∨ x.k = 3) ∧ x.a = 1048576
  ·rw [if_pos h2]
  ·exfalso
   unfold hiN at h
   split at h <;> omega
theorem ck_go {x : Ac} (h1 : ¬ x.k < 1) (h2 : ¬ 5 < x.k) (h3 : 0 ≤ x.e ∧ x.e ≤ 1099511627776) (h4 : 0 ≤ x.a ∧ x.a ≤ hiN x.k) : x.check = if 64 < x.d.length then 3 else if x.k = 1 ∧ x.a ≠ 0 ∨ x.k ≠ 2 ∧ 0 < x.d.length then 2 else 0 := by
 unfold Ac.check
 unfold hiN at h4
 split at h4
 ·rw [if_neg (by omega), if_neg (by omega)]
 ·rw [if_neg (by omega), if_neg (by omega)]
set_option maxHeartbeats 4000000 in
theorem rcheck9_any (x : Ac) (a : Option Addr) (c : Nat) (hl : x.d.length ≤ 9223372036854775807) (w : World) : Calls Tryz.prog 226 #[ac9V x a c] w fun e w' => e = .returned (errV x.check) ∧ Below w.heap.size w w' := by
 obtain ⟨k, e, ad, d⟩ := x
 unfold ac9V
 simp only at hl ⊢
 by_cases h1 : k < 1
 ·have HC := Zh (ck_1 (x := ⟨k, e, ad, d⟩) (.inl h1))
  go_enter Tryz.func226, Tryz.ntmps226
  go_wp2_with fail
  go_quiet (fail)
  go_wp2
  go_ret
  exact ⟨ret_eq (by rw [HC.out]; rfl), below_drewN' (by go_grown) _⟩
 by_cases h2 : 5 < k
 ·have HC := Zh (ck_1 (x := ⟨k, e, ad, d⟩) (.inr (.inl h2)))
  go_enter Tryz.func226, Tryz.ntmps226
  go_wp2_with fail
  go_quiet (fail)
  go_wp2
  go_ret
  exact ⟨ret_eq (by rw [HC.out]; rfl), below_drewN' (by go_grown) _⟩
 by_cases h3 : 0 ≤ e ∧ e ≤ 1099511627776
 rotate_left
 ·have HC := Zh (ck_1 (x := ⟨k, e, ad, d⟩) (.inr (.inr (.inl h3))))
  have HF := Zh (fun w => rin_f e 1099511627776 h3 w)
  clear h3
  go_enter Tryz.func226, Tryz.ntmps226
  go_wp2_with fail
  have c0 : (w.alloc (.cells #[.int .i64 k, .int .i64 e, .int .i64 ad, .slice a d.length c] 136)).cell? ⟨w.heap.size, 0, none⟩ = some (.int .i64 k) := by simp [go_sem]
  have c1 : (w.alloc (.cells #[.int .i64 k, .int .i64 e, .int .i64 ad, .slice a d.length c] 136)).cell? ⟨w.heap.size, 1, none⟩ = some (.int .i64 e) := by simp [go_sem]
  have c2 : (w.alloc (.cells #[.int .i64 k, .int .i64 e, .int .i64 ad, .slice a d.length c] 136)).cell? ⟨w.heap.size, 2, none⟩ = some (.int .i64 ad) := by simp [go_sem]
  have c3 : (w.alloc (.cells #[.int .i64 k, .int .i64 e, .int .i64 ad, .slice a d.length c] 136)).cell? ⟨w.heap.size, 3, none⟩ = some (.slice a d.length c) := by simp [go_sem]
  have HG := Zh (show Below w.heap.size w (w.alloc (.cells #[.int .i64 k, .int .i64 e, .int .i64 ad, .slice a d.length c] 136)) by go_grown)
  generalize w.alloc (.cells #[.int .i64 k, .int .i64 e, .int .i64 ad, .slice a d.length c] 136) = w1 at *
  refine wp_region_held_drew (S := (fun w' => w'.cell? ⟨w.heap.size, 0, none⟩ = some (.int .i64 k) ∧ w'.cell? ⟨w.heap.size, 1, none⟩ = some (.int .i64 e) ∧ w'.cell? ⟨w.heap.size, 2, none⟩ = some (.int .i64 ad) ∧ w'.cell? ⟨w.heap.size, 3, none⟩ = some (.slice a d.length c))) (by kernel_rfl) ⟨by simpa using c0, by simpa using c1, by simpa using c2, by simpa using c3⟩ (fun hH0 => ?_)
  refine tA 0 (.pointer (some ⟨w.heap.size, 0, none⟩)) rfl hH0 ?_ ?_
  ·intro w hSw; go_simp
  simp only [Act.put, gA, gZ, gS, sA, sZ, sS]
  refine tA 1 (.int .i64 k) rfl hH0 ?_ ?_
  ·intro w hSw; go_simp
  simp only [Act.put, gA, gZ, gS, sA, sZ, sS]
  refine tA 2 (.bool false) rfl hH0 ?_ ?_
  ·intro w hSw; go_simp
  simp only [Act.put, gA, gZ, gS, sA, sZ, sS]
  refine tA 3 (.bool false) rfl hH0 ?_ ?_
  ·intro w hSw; go_simp
  simp only [Act.put, gA, gZ, gS, sA, sZ, sS]
  refine tA 4 (.pointer (some ⟨w.heap.size, 0, none⟩)) rfl hH0 ?_ ?_
  ·intro w hSw; go_simp
  simp only [Act.put, gA, gZ, gS, sA, sZ, sS]
  refine tA 5 (.int .i64 k) rfl hH0 ?_ ?_
  ·intro w hSw; go_simp
  simp only [Act.put, gA, gZ, gS, sA, sZ, sS]
  refine tA 6 (.bool false) rfl hH0 ?_ ?_
  ·intro w hSw; go_simp
  simp only [Act.put, gA, gZ, gS, sA, sZ, sS]
  refine tA 7 (.bool false) rfl hH0 ?_ ?_
  ·intro w hSw; go_simp
  simp only [Act.put, gA, gZ, gS, sA, sZ, sS]
  refine tA 8 (.bool false) rfl hH0 ?_ ?_
  ·intro w hSw; go_simp
  simp only [Act.put, gA, gZ, gS, sA, sZ, sS]
  refine tA 9 (.pointer (some ⟨w.heap.size, 1, none⟩)) rfl hH0 ?_ ?_
  ·intro w hSw; go_simp
  simp only [Act.put, gA, gZ, gS, sA, sZ, sS]
  refine tA 10 (.int .i64 e) rfl hH0 ?_ ?_
  ·intro w hSw; go_simp
  simp only [Act.put, gA, gZ, gS, sA, sZ, sS]
  refine rD 11 rfl (fun K hK => ?_)
  go_simp
  refine (HF.out _).mono ?_
  rintro en w5 ⟨rfl, rfl⟩
  refine hK.out _ _ ?_ (fun hH1 => ?_)
  ·exact hH0
  clear hK K
  refine tA 12 (.bool true) rfl hH1 ?_ ?_
  ·intro w hSw; go_simp
  simp only [Act.put, gA, gZ, gS, sA, sZ, sS]
  refine tA 13 (.bool true) rfl hH1 ?_ ?_
  ·intro w hSw; go_simp
  simp only [Act.put, gA, gZ, gS, sA, sZ, sS]
  refine tA 14 (.bool true) rfl hH1 ?_ ?_
  ·intro w hSw; go_simp
  simp only [Act.put, gA, gZ, gS, sA, sZ, sS]
  refine tU 15 rfl hH1 ?_
  simp only [Act.put, gA, gZ, gS, sA, sZ, sS]
  refine tU 16 rfl hH1 ?_
  simp only [Act.put, gA, gZ, gS, sA, sZ, sS]
  refine tU 17 rfl hH1 ?_
  simp only [Act.put, gA, gZ, gS, sA, sZ, sS]
  refine tU 18 rfl hH1 ?_
  simp only [Act.put, gA, gZ, gS, sA, sZ, sS]
  refine tU 19 rfl hH1 ?_
  simp only [Act.put, gA, gZ, gS, sA, sZ, sS]
  refine tU 20 rfl hH1 ?_
  simp only [Act.put, gA, gZ, gS, sA, sZ, sS]
  refine tU 21 rfl hH1 ?_
  simp only [Act.put, gA, gZ, gS, sA, sZ, sS]
  refine tA 22 (.bool true) rfl hH1 ?_ ?_
  ·intro w hSw; go_simp
  simp only [Act.put, gA, gZ, gS, sA, sZ, sS]
  refine tA 23 (.bool true) rfl hH1 ?_ ?_
  ·intro w hSw; go_simp
  simp only [Act.put, gA, gZ, gS, sA, sZ, sS]
  refine wpAnyH_done (by kernel_rfl) ?_ _
  go_wp2
  go_ret
  exact ⟨ret_eq (by rw [HC.out]; rfl), HG.out.trans (Below.drew (Below.refl _ _) |>.mono HG.out.size)⟩
 have HT := Zh (fun w => rin_t e 1099511627776 h3.1 h3.2 w)
 have HH := Zh (fun w => rhi_any k w)
 by_cases h4 : 0 ≤ ad ∧ ad ≤ hiN k
 rotate_left
 ·have HC := Zh (ck_1 (x := ⟨k, e, ad, d⟩) (.inr (.inr (.inr h4))))
  have HA := Zh (fun w => rin_f ad (hiN k) h4 w)
  clear h3 h4
  obtain ⟨hi, hhi⟩ : ∃ hi, hi = hiN k := ⟨_, rfl⟩
  rw [← hhi] at HA HH
  clear hhi
  go_enter Tryz.func226, Tryz.ntmps226
  go_wp2_with fail
  have c0 : (w.alloc (.cells #[.int .i64 k, .int .i64 e, .int .i64 ad, .slice a d.length c] 136)).cell? ⟨w.heap.size, 0, none⟩ = some (.int .i64 k) := by simp [go_sem]
  have c1 : (w.alloc (.cells #[.int .i64 k, .int .i64 e, .int .i64 ad, .slice a d.length c] 136)).cell? ⟨w.heap.size, 1, none⟩ = some (.int .i64 e) := by simp [go_sem]
  have c2 : (w.alloc (.cells #[.int .i64 k, .int .i64 e, .int .i64 ad, .slice a d.length c] 136)).cell? ⟨w.heap.size, 2, none⟩ = some (.int .i64 ad) := by simp [go_sem]
  have c3 : (w.alloc (.cells #[.int .i64 k, .int .i64 e, .int .i64 ad, .slice a d.length c] 136)).cell? ⟨w.heap.size, 3, none⟩ = some (.slice a d.length c) := by simp [go_sem]
  have HG := Zh (show Below w.heap.size w (w.alloc (.cells #[.int .i64 k, .int .i64 e, .int .i64 ad, .slice a d.length c] 136)) by go_grown)
  generalize w.alloc (.cells #[.int .i64 k, .int .i64 e, .int .i64 ad, .slice a d.length c] 136) = w1 at *
  refine wp_region_held_drew (S := (fun w' => w'.cell? ⟨w.heap.size, 0, none⟩ = some (.int .i64 k) ∧ w'.cell? ⟨w.heap.size, 1, none⟩ = some (.int .i64 e) ∧ w'.cell? ⟨w.heap.size, 2, none⟩ = some (.int .i64 ad) ∧ w'.cell? ⟨w.heap.size, 3, none⟩ = some (.slice a d.length c))) (by kernel_rfl) ⟨by simpa using c0, by simpa using c1, by simpa using c2, by simpa using c3⟩ (fun hH0 => ?_)
  refine tA 0 (.pointer (some ⟨w.heap.size, 0, none⟩)) rfl hH0 ?_ ?_
  ·intro w hSw; go_simp
  simp only [Act.put, gA, gZ, gS, sA, sZ, sS]
  refine tA 1 (.int .i64 k) rfl hH0 ?_ ?_
  ·intro w hSw; go_simp
  simp only [Act.put, gA, gZ, gS, sA, sZ, sS]
  refine tA 2 (.bool false) rfl hH0 ?_ ?_
  ·intro w hSw; go_simp
  simp only [Act.put, gA, gZ, gS, sA, sZ, sS]
  refine tA 3 (.bool false) rfl hH0 ?_ ?_
  ·intro w hSw; go_simp
  simp only [Act.put, gA, gZ, gS, sA, sZ, sS]
  refine tA 4 (.pointer (some ⟨w.heap.size, 0, none⟩)) rfl hH0 ?_ ?_
  ·intro w hSw; go_simp
  simp only [Act.put, gA, gZ, gS, sA, sZ, sS]
  refine tA 5 (.int .i64 k) rfl hH0 ?_ ?_
  ·intro w hSw; go_simp
  simp only [Act.put, gA, gZ, gS, sA, sZ, sS]
  refine tA 6 (.bool false) rfl hH0 ?_ ?_
  ·intro w hSw; go_simp
  simp only [Act.put, gA, gZ, gS, sA, sZ, sS]
  refine tA 7 (.bool false) rfl hH0 ?_ ?_
  ·intro w hSw; go_simp
  simp only [Act.put, gA, gZ, gS, sA, sZ, sS]
  refine tA 8 (.bool false) rfl hH0 ?_ ?_
  ·intro w hSw; go_simp
  simp only [Act.put, gA, gZ, gS, sA, sZ, sS]
  refine tA 9 (.pointer (some ⟨w.heap.size, 1, none⟩)) rfl hH0 ?_ ?_
  ·intro w hSw; go_simp
  simp only [Act.put, gA, gZ, gS, sA, sZ, sS]
  refine tA 10 (.int .i64 e) rfl hH0 ?_ ?_
  ·intro w hSw; go_simp
  simp only [Act.put, gA, gZ, gS, sA, sZ, sS]
  refine rD 11 rfl (fun K hK => ?_)
  go_simp
  refine (HT.out _).mono ?_
  rintro en w5 ⟨rfl, rfl⟩
  refine hK.out _ _ ?_ (fun hH1 => ?_)
  ·exact hH0
  clear hK K
  refine tA 12 (.bool false) rfl hH1 ?_ ?_
  ·intro w hSw; go_simp
  simp only [Act.put, gA, gZ, gS, sA, sZ, sS]
  refine tA 13 (.bool false) rfl hH1 ?_ ?_
  ·intro w hSw; go_simp
  simp only [Act.put, gA, gZ, gS, sA, sZ, sS]
  refine tA 14 (.bool false) rfl hH1 ?_ ?_
  ·intro w hSw; go_simp
  simp only [Act.put, gA, gZ, gS, sA, sZ, sS]
  refine tA 15 (.pointer (some ⟨w.heap.size, 2, none⟩)) rfl hH1 ?_ ?_
  ·intro w hSw; go_simp
  simp only [Act.put, gA, gZ, gS, sA, sZ, sS]
  refine tA 16 (.int .i64 ad) rfl hH1 ?_ ?_
  ·intro w hSw; go_simp
  simp only [Act.put, gA, gZ, gS, sA, sZ, sS]
  refine tA 17 (.pointer (some ⟨w.heap.size, 0, none⟩)) rfl hH1 ?_ ?_
  ·intro w hSw; go_simp
  simp only [Act.put, gA, gZ, gS, sA, sZ, sS]
  refine tA 18 (.int .i64 k) rfl hH1 ?_ ?_
  ·intro w hSw; go_simp
  simp only [Act.put, gA, gZ, gS, sA, sZ, sS]
  refine rD 19 rfl (fun K hK => ?_)
  go_simp
  refine (HH.out _).mono ?_
  rintro en w5 ⟨rfl, rfl⟩
  refine hK.out _ _ ?_ (fun hH2 => ?_)
  ·exact hH1
  clear hK K
  refine rD 20 rfl (fun K hK => ?_)
  go_simp
  refine (HA.out _).mono ?_
  rintro en w5 ⟨rfl, rfl⟩
  refine hK.out _ _ ?_ (fun hH3 => ?_)
  ·exact hH2
  clear hK K
  refine tA 21 (.bool true) rfl hH3 ?_ ?_
  ·intro w hSw; go_simp
  simp only [Act.put, gA, gZ, gS, sA, sZ, sS]
  refine tA 22 (.bool true) rfl hH3 ?_ ?_
  ·intro w hSw; go_simp
  simp only [Act.put, gA, gZ, gS, sA, sZ, sS]
  refine tA 23 (.bool true) rfl hH3 ?_ ?_
  ·intro w hSw; go_simp
  simp only [Act.put, gA, gZ, gS, sA, sZ, sS]
  refine wpAnyH_done (by kernel_rfl) ?_ _
  go_wp2
  go_ret
  exact ⟨ret_eq (by rw [HC.out]; rfl), HG.out.trans (Below.drew (Below.refl _ _) |>.mono HG.out.size)⟩
 have HA := Zh (fun w => rin_t ad (hiN k) h4.1 h4.2 w)
 have HC := Zh (ck_go (x := ⟨k, e, ad, d⟩) h1 h2 h3 h4)
 have ha0 : 0 ≤ ad := h4.1
 clear h3 h4
 obtain ⟨hi, hhi⟩ : ∃ hi, hi = hiN k := ⟨_, rfl⟩
 rw [← hhi] at HA HH
 clear hhi
 go_enter Tryz.func226, Tryz.ntmps226
 go_wp2_with fail
 have c0 : (w.alloc (.cells #[.int .i64 k, .int .i64 e, .int .i64 ad, .slice a d.length c] 136)).cell? ⟨w.heap.size, 0, none⟩ = some (.int .i64 k) := by simp [go_sem]
 have c1 : (w.alloc (.cells #[.int .i64 k, .int .i64 e, .int .i64 ad, .slice a d.length c] 136)).cell? ⟨w.heap.size, 1, none⟩ = some (.int .i64 e) := by simp [go_sem]
 have c2 : (w.alloc (.cells #[.int .i64 k, .int .i64 e, .int .i64 ad, .slice a d.length c] 136)).cell? ⟨w.heap.size, 2, none⟩ = some (.int .i64 ad) := by simp [go_sem]
 have c3 : (w.alloc (.cells #[.int .i64 k, .int .i64 e, .int .i64 ad, .slice a d.length c] 136)).cell? ⟨w.heap.size, 3, none⟩ = some (.slice a d.length c) := by simp [go_sem]
 have HG := Zh (show Below w.heap.size w (w.alloc (.cells #[.int .i64 k, .int .i64 e, .int .i64 ad, .slice a d.length c] 136)) by go_grown)
 generalize w.alloc (.cells #[.int .i64 k, .int .i64 e, .int .i64 ad, .slice a d.length c] 136) = w1 at *
 refine wp_region_held_drew (S := (fun w' => w'.cell? ⟨w.heap.size, 0, none⟩ = some (.int .i64 k) ∧ w'.cell? ⟨w.heap.size, 1, none⟩ = some (.int .i64 e) ∧ w'.cell? ⟨w.heap.size, 2, none⟩ = some (.int .i64 ad) ∧ w'.cell? ⟨w.heap.size, 3, none⟩ = some (.slice a d.length c))) (by kernel_rfl) ⟨by simpa using c0, by simpa using c1, by simpa using c2, by simpa using c3⟩ (fun hH0 => ?_)
 refine tA 0 (.pointer (some ⟨w.heap.size, 0, none⟩)) rfl hH0 ?_ ?_
 ·intro w hSw; go_simp
 simp only [Act.put, gA, gZ, gS, sA, sZ, sS]
 refine tA 1 (.int .i64 k) rfl hH0 ?_ ?_
 ·intro w hSw; go_simp
 simp only [Act.put, gA, gZ, gS, sA, sZ, sS]
 refine tA 2 (.bool false) rfl hH0 ?_ ?_
 ·intro w hSw; go_simp
 simp only [Act.put, gA, gZ, gS, sA, sZ, sS]
 refine tA 3 (.bool false) rfl hH0 ?_ ?_
 ·intro w hSw; go_simp
 simp only [Act.put, gA, gZ, gS, sA, sZ, sS]
 refine tA 4 (.pointer (some ⟨w.heap.size, 0, none⟩)) rfl hH0 ?_ ?_
 ·intro w hSw; go_simp
 simp only [Act.put, gA, gZ, gS, sA, sZ, sS]
 refine tA 5 (.int .i64 k) rfl hH0 ?_ ?_
 ·intro w hSw; go_simp
 simp only [Act.put, gA, gZ, gS, sA, sZ, sS]
 refine tA 6 (.bool false) rfl hH0 ?_ ?_
 ·intro w hSw; go_simp
 simp only [Act.put, gA, gZ, gS, sA, sZ, sS]
 refine tA 7 (.bool false) rfl hH0 ?_ ?_
 ·intro w hSw; go_simp
 simp only [Act.put, gA, gZ, gS, sA, sZ, sS]
 refine tA 8 (.bool false) rfl hH0 ?_ ?_
 ·intro w hSw; go_simp
 simp only [Act.put, gA, gZ, gS, sA, sZ, sS]
 refine tA 9 (.pointer (some ⟨w.heap.size, 1, none⟩)) rfl hH0 ?_ ?_
 ·intro w hSw; go_simp
 simp only [Act.put, gA, gZ, gS, sA, sZ, sS]
 refine tA 10 (.int .i64 e) rfl hH0 ?_ ?_
 ·intro w hSw; go_simp
 simp only [Act.put, gA, gZ, gS, sA, sZ, sS]
 refine rD 11 rfl (fun K hK => ?_)
 go_simp
 refine (HT.out _).mono ?_
 rintro en w5 ⟨rfl, rfl⟩
 refine hK.out _ _ ?_ (fun hH1 => ?_)
 ·exact hH0
 clear hK K
 refine tA 12 (.bool false) rfl hH1 ?_ ?_
 ·intro w hSw; go_simp
 simp only [Act.put, gA, gZ, gS, sA, sZ, sS]
 refine tA 13 (.bool false) rfl hH1 ?_ ?_
 ·intro w hSw; go_simp
 simp only [Act.put, gA, gZ, gS, sA, sZ, sS]
 refine tA 14 (.bool false) rfl hH1 ?_ ?_
 ·intro w hSw; go_simp
 simp only [Act.put, gA, gZ, gS, sA, sZ, sS]
 refine tA 15 (.pointer (some ⟨w.heap.size, 2, none⟩)) rfl hH1 ?_ ?_
 ·intro w hSw; go_simp
 simp only [Act.put, gA, gZ, gS, sA, sZ, sS]
 refine tA 16 (.int .i64 ad) rfl hH1 ?_ ?_
 ·intro w hSw; go_simp
 simp only [Act.put, gA, gZ, gS, sA, sZ, sS]
 refine tA 17 (.pointer (some ⟨w.heap.size, 0, none⟩)) rfl hH1 ?_ ?_
 ·intro w hSw; go_simp
 simp only [Act.put, gA, gZ, gS, sA, sZ, sS]
 refine tA 18 (.int .i64 k) rfl hH1 ?_ ?_
 ·intro w hSw; go_simp
 simp only [Act.put, gA, gZ, gS, sA, sZ, sS]
 refine rD 19 rfl (fun K hK => ?_)
 go_simp
 refine (HH.out _).mono ?_
 rintro en w5 ⟨rfl, rfl⟩
 refine hK.out _ _ ?_ (fun hH2 => ?_)
 ·exact hH1
 clear hK K
 refine rD 20 rfl (fun K hK => ?_)
 go_simp
 refine (HA.out _).mono ?_
 rintro en w5 ⟨rfl, rfl⟩
 refine hK.out _ _ ?_ (fun hH3 => ?_)
 ·exact hH2
 clear hK K
 refine tA 21 (.bool false) rfl hH3 ?_ ?_
 ·intro w hSw; go_simp
 simp only [Act.put, gA, gZ, gS, sA, sZ, sS]
 refine tA 22 (.bool false) rfl hH3 ?_ ?_
 ·intro w hSw; go_simp
 simp only [Act.put, gA, gZ, gS, sA, sZ, sS]
 refine tA 23 (.bool false) rfl hH3 ?_ ?_
 ·intro w hSw; go_simp
 simp only [Act.put, gA, gZ, gS, sA, sZ, sS]
 refine wpAnyH_done (by kernel_rfl) ?_ _
 have HGD := Zh (show Below w.heap.size w w1.drew from HG.out.trans (Below.drew (Below.refl _ _) |>.mono HG.out.size))
 have d0 : w1.drew.cell? ⟨w.heap.size, 0, none⟩ = some (.int .i64 k) := c0
 have d2 : w1.drew.cell? ⟨w.heap.size, 2, none⟩ = some (.int .i64 ad) := c2
 have d3 : w1.drew.cell? ⟨w.heap.size, 3, none⟩ = some (.slice a d.length c) := c3
 clear c0 c1 c2 c3 HG HT HA HH
 generalize w1.drew = w2 at *
 by_cases h64 : 64 < d.length
 ·have HF := Zh (HC.out.trans (if_pos h64))
  go_wp2
  go_ret
  exact ⟨ret_eq (by rw [HF.out]; rfl), HGD.out⟩
 have HF := Zh (HC.out.trans (if_neg h64))
 clear HC
 by_cases hk1 : k = 1
 ·have hk1b : (k == 1) = true := by rw [beq_iff_eq]; exact hk1
  have hk2b : (k != 2) = true := by rw [bne_iff_ne]; omega
  by_cases hz : ad = 0
  ·have hz0 : (ad != 0) = false := by rw [bne_eq_false_iff_eq]; exact hz
   by_cases hd : 0 < d.length
   ·have HV := Zh (HF.out.trans (if_pos (.inr ⟨(by show k ≠ 2; omega), hd⟩)))
    clear hk1 hz
    go_wp2
    go_ret
    exact ⟨ret_eq (by rw [HV.out]; rfl), HGD.out⟩
   ·have HV := Zh (HF.out.trans (if_neg (by rintro (h | h); exact h.2 hz; exact hd h.2)))
    clear hk1 hz
    go_wp2
    go_ret
    exact ⟨ret_eq (by rw [HV.out]; rfl), HGD.out⟩
  ·have hz0 : (ad != 0) = true := by rw [bne_iff_ne]; exact hz
   have HV := Zh (HF.out.trans (if_pos (.inl ⟨hk1, hz⟩)))
   clear hk1 hz
   go_wp2
   go_ret
   exact ⟨ret_eq (by rw [HV.out]; rfl), HGD.out⟩
 have hk1b : (k == 1) = false := by rw [beq_eq_false_iff_ne]; exact hk1
 by_cases hk2 : k = 2
 ·have hk2b : (k != 2) = false := by rw [bne_eq_false_iff_eq]; exact hk2
  have HV := Zh (HF.out.trans (if_neg (by rintro (h | h); exact hk1 h.1; exact h.1 hk2)))
  clear hk1 hk2
  go_wp2
  go_ret
  exact ⟨ret_eq (by rw [HV.out]; rfl), HGD.out⟩
 have hk2b : (k != 2) = true := by rw [bne_iff_ne]; exact hk2
 by_cases hd : 0 < d.length
 ·have HV := Zh (HF.out.trans (if_pos (.inr ⟨hk2, hd⟩)))
  clear hk1 hk2
  go_wp2
  go_ret
  exact ⟨ret_eq (by rw [HV.out]; rfl), HGD.out⟩
 ·have HV := Zh (HF.out.trans (if_neg (by rintro (h | h); exact hk1 h.1; exact hd h.2)))
  clear hk1 hk2
  go_wp2
  go_ret
  exact ⟨ret_eq (by rw [HV.out]; rfl), HGD.out⟩
end Go.Proofs.YtelneaokoiojkaaGreatDoor

namespace Go.Proofs.YtelneaokoiojkaaGreatDoor
open Go.RowKit

/-- the bytes that Put answers -/
def Ac.putB (x : Ac) : List UInt8 := if x.check ≠ 0 then [] else x.put
def RPutR (x : Ac) (w : World) (en : Ending) (w' : World) : Prop :=
 ∃ a c, en = .returned (.tuple #[.slice a x.putB.length c, errV x.check]) ∧ w'.ownsRow w.heap.size 5 1 (.slice a x.putB.length c) x.putB.length (byteVs x.putB) ∧ Below w.heap.size w w'
theorem us_two (w : World) (x y : Nat) (t : Nat) : Us (w.alloc (.cells #[.int .u64 (x : Int), .int .u64 (y : Int)] t)) (.slice (some ⟨w.heap.size, 0, none⟩) 2 2) [x, y] :=
 SlV.new w [.int .u64 (x : Int), .int .u64 (y : Int)] 2 t (by decide)
theorem Ac.text_one {e : Nat} {d : List UInt8} : (Ac.mk 1 e 0 d).text = vbs [1, e] := by simp [Ac.text, vbs]
theorem Ac.text_two {e a : Nat} {d : List UInt8} : (Ac.mk 2 e a d).text = vbs [2, e] ++ vbs [a] ++ headB d := by simp [Ac.text, vbs]
theorem Ac.text_any {k e a : Nat} {d : List UInt8} (h1 : 1 < k) (h2 : k ≠ 2) : (Ac.mk k e a d).text = vbs [k, e] ++ vbs [a] := by
 unfold Ac.text
 simp only
 rw [if_pos (show (1 : Int) < (k : Int) by omega), if_neg (show ¬ (k : Int) = 2 by omega)]
 simp [vbs]
set_option maxHeartbeats 4000000 in
theorem rput9_any (x : Ac) (a : Option Addr) (c : Nat) (w : World) (hB : Bytes w (.slice a x.d.length c) x.d) : Calls Tryz.prog 172 #[ac9V x a c] w (RPutR x w) := by
 have hlen := bytes_len hB
 have HCK := Zh (fun w => rcheck9_any x a c hlen w)
 have hOK := @Ac.check_ok x
 have hTL := @Ac.text_len x
 have hPB := @Ac.text_len x
 obtain ⟨ck, hck⟩ : ∃ ck, ck = x.check := ⟨_, rfl⟩
 have HX := Lib.hid' hck
 rw [← hck] at HCK hOK hTL
 clear hck hPB
 have HB := Lib.hid' hB
 clear hB
 by_cases h0 : ck = 0
 rotate_left
 ·clear hOK hTL
  have HP := Zh (show x.putB = [] by unfold Ac.putB; rw [← HX.out, if_pos h0])
  have HE := Zh (errV_pos h0)
  obtain ⟨k, e, ad, d⟩ := x
  unfold ac9V at HCK ⊢
  simp only at HCK HB hlen ⊢
  go_enter Tryz.func172, Tryz.ntmps172
  go_wp2_with fail
  have hz0 : (w.alloc (.cells #[.int .i64 k, .int .i64 e, .int .i64 ad, .slice a d.length c] 136)).heap.size = w.heap.size + 1 := by simp
  have HG0 := Zh (show Below w.heap.size w (w.alloc (.cells #[.int .i64 k, .int .i64 e, .int .i64 ad, .slice a d.length c] 136)) by go_grown)
  generalize w.alloc (.cells #[.int .i64 k, .int .i64 e, .int .i64 ad, .slice a d.length c] 136) = w0 at *
  refine (HCK.out w0).mono ?_
  rintro e1 w1 ⟨rfl, hb1⟩
  have HB1 := Zh (HG0.out.trans (hb1.mono (by omega)))
  clear hb1
  rw [HE.out]
  clear hz0 h0
  go_wp2
  refine bodyPost_ret (v := .tuple #[.slice none 0 0, .iface 46 (.int .i64 ck)]) (by simp [results, Tryz.results172, go_sem]) rfl ?_
  refine ⟨none, 0, ?_, ?_, HB1.out⟩
  ·rw [HP.out, ← HX.out, HE.out]; rfl
  ·rw [HP.out]; exact own_nil _ _ _ _
 subst h0
 obtain ⟨g1, g2, g3, g4, g5, g6, g7, g8, g9⟩ := hOK rfl
 have htl := hTL rfl
 clear hOK hTL
 have HP := Zh (show x.putB = fputB [] x.text by unfold Ac.putB fputB; rw [← HX.out, if_neg (by simp), if_neg (by omega)]; rfl)
 have HN := Zh (show fputN x.text = 0 by unfold fputN; rw [if_neg (by omega)])
 obtain ⟨k, e, ad, d⟩ := x
 simp only at g1 g2 g3 g4 g5 g6 g7 g8 g9
 obtain ⟨en, rfl⟩ : ∃ n : Nat, e = n := ⟨e.toNat, by omega⟩
 unfold ac9V at HCK ⊢
 simp only at HCK HB hlen ⊢
 have G8 := Lib.hid' g8
 have G9 := Lib.hid' g9
 clear g8 g9
 by_cases hk1 : k = 1
 ·have ha0 : ad = 0 := G8.out hk1
  subst hk1; subst ha0
  go_enter Tryz.func172, Tryz.ntmps172
  go_wp2_with fail
  have hz0 : (w.alloc (.cells #[.int .i64 1, .int .i64 (en : Int), .int .i64 0, .slice a d.length c] 136)).heap.size = w.heap.size + 1 := by simp
  have HG0 := Zh (show Below w.heap.size w (w.alloc (.cells #[.int .i64 1, .int .i64 (en : Int), .int .i64 0, .slice a d.length c] 136)) by go_grown)
  have HBX := Zh (BoxW.start w [.int .i64 1, .int .i64 (en : Int), .int .i64 0, .slice a d.length c] 136)
  generalize w.alloc (.cells #[.int .i64 1, .int .i64 (en : Int), .int .i64 0, .slice a d.length c] 136) = w0 at *
  refine (HCK.out w0).mono ?_
  rintro e1 w1 ⟨rfl, hb1⟩
  have HG1 := Zh (HG0.out.trans (hb1.mono (by omega)))
  have HX1 := Zh (HBX.out.below (Nat.le_refl _) hb1)
  have hz1 := hb1.size
  clear hb1 HBX HG0 HCK
  rw [errV_0]
  have hx0 := HX1.out.box.1 0 _ rfl
  have hx1 := HX1.out.box.1 1 _ rfl
  have hx2 := HX1.out.box.1 2 _ rfl
  have hx3 := HX1.out.box.1 3 _ rfl
  go_wp2_with fail
  clear hx0 hx1 hx2 hx3
  have hu2 : Us (w1.alloc (.cells #[.int .u64 1, .int .u64 (en : Int)] 229)) (.slice (some ⟨w1.heap.size, 0, none⟩) 2 2) [1, en] := us_two w1 1 en 229
  have hz2 : (w1.alloc (.cells #[.int .u64 1, .int .u64 (en : Int)] 229)).heap.size = w1.heap.size + 1 := by simp
  have hg2 : Below w1.heap.size w1 (w1.alloc (.cells #[.int .u64 1, .int .u64 (en : Int)] 229)) := by go_grown
  have HC2 := Zh (vPut_any [] none 0 [1, en] (some ⟨w1.heap.size, 0, none⟩) 2 _ (SlV.empty _ _ _ (Nat.zero_le _) (fun _ => rfl)) hu2 (by intro n hn; simp at hn; omega) (by simp) (by simp))
  have HX2 := Zh (HX1.out.below (Nat.le_refl _) hg2)
  have HG2 := Zh (HG1.out.trans (hg2.mono (by omega)))
  clear hg2 hu2 HX1 HG1
  generalize (w1.alloc (.cells #[.int .u64 1, .int .u64 (en : Int)] 229)) = w2 at *
  refine HC2.out.mono ?_
  rintro e2 w3 ⟨a3, c3, rfl, ho3, hb3⟩
  rw [List.nil_append] at ho3 ⊢
  have hl3 : (vbs [1, en]).length ≤ 20 := by have := vbs_len (l := [1, en]) (by intro n hn; simp at hn; omega); simpa using this
  obtain ⟨r3, hr3⟩ : ∃ r, r = vbs [1, en] := ⟨_, rfl⟩
  rw [← hr3] at ho3 hl3 ⊢
  have HR3 := Lib.hid' hr3
  have HX3 := Zh (HX2.out.below (Nat.le_refl _) hb3)
  have HG3 := Zh (HG2.out.trans (hb3.mono (by omega)))
  have HO3 := Zh (show Bytes w3 (.slice a3 r3.length c3) r3 from SlV.of_own ho3)
  have hz3 := hb3.size
  clear hr3 ho3 hb3 HX2 HG2 HC2
  have hx0 := HX3.out.box.1 0 _ rfl
  have hx1 := HX3.out.box.1 1 _ rfl
  have hx2 := HX3.out.box.1 2 _ rfl
  have hx3 := HX3.out.box.1 3 _ rfl
  go_wp2_with fail
  have HT := Zh (show ({ k := 1, e := en, a := 0, d := d } : Ac).text = r3 from by rw [HR3.out]; exact Ac.text_one)
  rw [HT.out] at HP HN
  have HC8 := Zh (fput_any [] r3 none a3 0 c3 w3 (SlV.empty _ _ _ (Nat.zero_le _) (fun _ => rfl)) HO3.out (by simp))
  refine HC8.out.mono ?_
  unfold FPutR
  rintro e8 w9 ⟨a9, c9, rfl, ho9, hb9⟩
  have HG9 := Zh (HG3.out.trans (hb9.mono (by omega)))
  have HO9 := Zh (own_base (B' := w.heap.size) ho9 (by omega))
  clear ho9 hb9 HC8
  obtain ⟨q, hq⟩ : ∃ q, q = fputB [] r3 := ⟨_, rfl⟩
  have HQ := Zh (HP.out.trans hq.symm)
  rw [← hq] at HO9 ⊢
  have HN9 := Zh (HN.out)
  rw [HN.out, errV_0]
  clear hq HP
  go_wp2_with fail
  refine bodyPost_ret (v := .tuple #[.slice a9 q.length c9, .nilIface]) (by simp [results, Tryz.results172, go_sem]) rfl ?_
  refine ⟨a9, c9, ?_, ?_, HG9.out⟩
  ·rw [HQ.out, ← HX.out]; rfl
  ·rw [HQ.out]; exact HO9.out

 obtain ⟨an, rfl⟩ : ∃ n : Nat, ad = n := ⟨ad.toNat, by omega⟩
 by_cases hk2 : k = 2
 ·subst hk2
  go_enter Tryz.func172, Tryz.ntmps172
  go_wp2_with fail
  have hz0 : (w.alloc (.cells #[.int .i64 2, .int .i64 (en : Int), .int .i64 (an : Int), .slice a d.length c] 136)).heap.size = w.heap.size + 1 := by simp
  have HG0 := Zh (show Below w.heap.size w (w.alloc (.cells #[.int .i64 2, .int .i64 (en : Int), .int .i64 (an : Int), .slice a d.length c] 136)) by go_grown)
  have HBX := Zh (BoxW.start w [.int .i64 2, .int .i64 (en : Int), .int .i64 (an : Int), .slice a d.length c] 136)
  generalize w.alloc (.cells #[.int .i64 2, .int .i64 (en : Int), .int .i64 (an : Int), .slice a d.length c] 136) = w0 at *
  refine (HCK.out w0).mono ?_
  rintro e1 w1 ⟨rfl, hb1⟩
  have HG1 := Zh (HG0.out.trans (hb1.mono (by omega)))
  have HX1 := Zh (HBX.out.below (Nat.le_refl _) hb1)
  have hz1 := hb1.size
  clear hb1 HBX HG0 HCK
  rw [errV_0]
  have hx0 := HX1.out.box.1 0 _ rfl
  have hx1 := HX1.out.box.1 1 _ rfl
  have hx2 := HX1.out.box.1 2 _ rfl
  have hx3 := HX1.out.box.1 3 _ rfl
  go_wp2_with fail
  clear hx0 hx1 hx2 hx3
  have hu2 : Us (w1.alloc (.cells #[.int .u64 2, .int .u64 (en : Int)] 229)) (.slice (some ⟨w1.heap.size, 0, none⟩) 2 2) [2, en] := us_two w1 2 en 229
  have hz2 : (w1.alloc (.cells #[.int .u64 2, .int .u64 (en : Int)] 229)).heap.size = w1.heap.size + 1 := by simp
  have hg2 : Below w1.heap.size w1 (w1.alloc (.cells #[.int .u64 2, .int .u64 (en : Int)] 229)) := by go_grown
  have HC2 := Zh (vPut_any [] none 0 [2, en] (some ⟨w1.heap.size, 0, none⟩) 2 _ (SlV.empty _ _ _ (Nat.zero_le _) (fun _ => rfl)) hu2 (by intro n hn; simp at hn; omega) (by simp) (by simp))
  have HX2 := Zh (HX1.out.below (Nat.le_refl _) hg2)
  have HG2 := Zh (HG1.out.trans (hg2.mono (by omega)))
  clear hg2 hu2 HX1 HG1
  generalize (w1.alloc (.cells #[.int .u64 2, .int .u64 (en : Int)] 229)) = w2 at *
  refine HC2.out.mono ?_
  rintro e2 w3 ⟨a3, c3, rfl, ho3, hb3⟩
  rw [List.nil_append] at ho3 ⊢
  have hl3 : (vbs [2, en]).length ≤ 20 := by have := vbs_len (l := [2, en]) (by intro n hn; simp at hn; omega); simpa using this
  obtain ⟨r3, hr3⟩ : ∃ r, r = vbs [2, en] := ⟨_, rfl⟩
  rw [← hr3] at ho3 hl3 ⊢
  have HR3 := Lib.hid' hr3
  have HX3 := Zh (HX2.out.below (Nat.le_refl _) hb3)
  have HG3 := Zh (HG2.out.trans (hb3.mono (by omega)))
  have HO3 := Zh (show Bytes w3 (.slice a3 r3.length c3) r3 from SlV.of_own ho3)
  have hz3 := hb3.size
  clear hr3 ho3 hb3 HX2 HG2 HC2
  have hx0 := HX3.out.box.1 0 _ rfl
  have hx1 := HX3.out.box.1 1 _ rfl
  have hx2 := HX3.out.box.1 2 _ rfl
  have hx3 := HX3.out.box.1 3 _ rfl
  go_wp2_with fail
  clear hx0 hx1 hx2 hx3
  have hu4 := us_one w3 an 229
  have hz4 : (w3.alloc (.cells #[.int .u64 (an : Int)] 229)).heap.size = w3.heap.size + 1 := by simp
  have hg4 : Below w3.heap.size w3 (w3.alloc (.cells #[.int .u64 (an : Int)] 229)) := by go_grown
  have HC4 := Zh (vPut_any r3 a3 c3 [an] (some ⟨w3.heap.size, 0, none⟩) 1 _ (show Bytes (w3.alloc (.cells #[.int .u64 (an : Int)] 229)) (.slice a3 r3.length c3) r3 from SlV.below HO3.out (Nat.le_refl _) hg4) hu4 (by intro n hn; simp at hn; omega) (by omega) (by simp))
  have HX4 := Zh (HX3.out.below (Nat.le_refl _) hg4)
  have HG4 := Zh (HG3.out.trans (hg4.mono (by omega)))
  clear hg4 hu4 HX3 HG3 HO3
  generalize (w3.alloc (.cells #[.int .u64 (an : Int)] 229)) = w4 at *
  have hl5 : (vbs [an]).length ≤ 10 := by have := vbs_len (l := [an]) (by intro n hn; simp at hn; omega); simpa using this
  obtain ⟨r5, hr5⟩ : ∃ r, r = r3 ++ vbs [an] := ⟨_, rfl⟩
  have hl5' : r5.length ≤ 30 := by rw [hr5, List.length_append]; omega
  rw [← hr5] at HC4
  have HR5 := Lib.hid' hr5
  clear hr5 hl5
  refine HC4.out.mono ?_
  rintro e4 w5 ⟨a5, c5, rfl, ho5, hb5⟩
  have HX5 := Zh (HX4.out.below (Nat.le_refl _) hb5)
  have HG5 := Zh (HG4.out.trans (hb5.mono (by omega)))
  have HO5 := Zh (show Bytes w5 (.slice a5 r5.length c5) r5 from SlV.of_own ho5)
  have hz5 := hb5.size
  clear ho5 hb5 HX4 HG4 HC4
  have hx0 := HX5.out.box.1 0 _ rfl
  have hx1 := HX5.out.box.1 1 _ rfl
  have hx2 := HX5.out.box.1 2 _ rfl
  have hx3 := HX5.out.box.1 3 _ rfl
  go_wp2_with fail
  clear hx0 hx1 hx2 hx3
  have HD5 := Zh (show Bytes w5 (.slice a d.length c) d from SlV.below HB.out (Nat.le_refl _) HG5.out)
  have hhl : (headB d).length ≤ 80 := by
   have := vb_len10 (n := d.length) (by omega)
   unfold headB; rw [List.length_append]; omega
  have HC6 := Zh (vPutText_any r5 d a5 a c5 c w5 HO5.out HD5.out (by omega) (by omega))
  obtain ⟨r7, hr7⟩ : ∃ r, r = r5 ++ headB d := ⟨_, rfl⟩
  have hl7 : r7.length ≤ 110 := by rw [hr7, List.length_append]; omega
  rw [← hr7] at HC6
  have HR7 := Lib.hid' hr7
  clear hr7 hhl
  refine HC6.out.mono ?_
  rintro e6 w7 ⟨a7, c7, rfl, ho7, hb7⟩
  have HG7 := Zh (HG5.out.trans (hb7.mono (by omega)))
  have HO7 := Zh (show Bytes w7 (.slice a7 r7.length c7) r7 from SlV.of_own ho7)
  have hz7 := hb7.size
  clear ho7 hb7 HX5 HG5 HC6 HO5 HD5
  go_wp2_with fail
  have HT := Zh (show ({ k := 2, e := en, a := (an : Int), d := d } : Ac).text = r7 from by rw [HR7.out, HR5.out, HR3.out]; exact Ac.text_two)
  rw [HT.out] at HP HN
  have HC8 := Zh (fput_any [] r7 none a7 0 c7 w7 (SlV.empty _ _ _ (Nat.zero_le _) (fun _ => rfl)) HO7.out (by simp))
  refine HC8.out.mono ?_
  unfold FPutR
  rintro e8 w9 ⟨a9, c9, rfl, ho9, hb9⟩
  have HG9 := Zh (HG7.out.trans (hb9.mono (by omega)))
  have HO9 := Zh (own_base (B' := w.heap.size) ho9 (by omega))
  clear ho9 hb9 HC8
  obtain ⟨q, hq⟩ : ∃ q, q = fputB [] r7 := ⟨_, rfl⟩
  have HQ := Zh (HP.out.trans hq.symm)
  rw [← hq] at HO9 ⊢
  have HN9 := Zh (HN.out)
  rw [HN.out, errV_0]
  clear hq HP
  go_wp2_with fail
  refine bodyPost_ret (v := .tuple #[.slice a9 q.length c9, .nilIface]) (by simp [results, Tryz.results172, go_sem]) rfl ?_
  refine ⟨a9, c9, ?_, ?_, HG9.out⟩
  ·rw [HQ.out, ← HX.out]; rfl
  ·rw [HQ.out]; exact HO9.out

 ·obtain ⟨kn, rfl⟩ : ∃ n : Nat, k = n := ⟨k.toNat, by omega⟩
  have b1 : ((kn : Int) == 1) = false := by rw [beq_eq_false_iff_ne]; omega
  have b2 : ((kn : Int) == 2) = false := by rw [beq_eq_false_iff_ne]; omega
  go_enter Tryz.func172, Tryz.ntmps172
  go_wp2_with fail
  have hz0 : (w.alloc (.cells #[.int .i64 (kn : Int), .int .i64 (en : Int), .int .i64 (an : Int), .slice a d.length c] 136)).heap.size = w.heap.size + 1 := by simp
  have HG0 := Zh (show Below w.heap.size w (w.alloc (.cells #[.int .i64 (kn : Int), .int .i64 (en : Int), .int .i64 (an : Int), .slice a d.length c] 136)) by go_grown)
  have HBX := Zh (BoxW.start w [.int .i64 (kn : Int), .int .i64 (en : Int), .int .i64 (an : Int), .slice a d.length c] 136)
  generalize w.alloc (.cells #[.int .i64 (kn : Int), .int .i64 (en : Int), .int .i64 (an : Int), .slice a d.length c] 136) = w0 at *
  refine (HCK.out w0).mono ?_
  rintro e1 w1 ⟨rfl, hb1⟩
  have HG1 := Zh (HG0.out.trans (hb1.mono (by omega)))
  have HX1 := Zh (HBX.out.below (Nat.le_refl _) hb1)
  have hz1 := hb1.size
  clear hb1 HBX HG0 HCK
  rw [errV_0]
  have hx0 := HX1.out.box.1 0 _ rfl
  have hx1 := HX1.out.box.1 1 _ rfl
  have hx2 := HX1.out.box.1 2 _ rfl
  have hx3 := HX1.out.box.1 3 _ rfl
  go_wp2_with fail
  clear hx0 hx1 hx2 hx3
  have hu2 : Us (w1.alloc (.cells #[.int .u64 (kn : Int), .int .u64 (en : Int)] 229)) (.slice (some ⟨w1.heap.size, 0, none⟩) 2 2) [kn, en] := us_two w1 kn en 229
  have hz2 : (w1.alloc (.cells #[.int .u64 (kn : Int), .int .u64 (en : Int)] 229)).heap.size = w1.heap.size + 1 := by simp
  have hg2 : Below w1.heap.size w1 (w1.alloc (.cells #[.int .u64 (kn : Int), .int .u64 (en : Int)] 229)) := by go_grown
  have HC2 := Zh (vPut_any [] none 0 [kn, en] (some ⟨w1.heap.size, 0, none⟩) 2 _ (SlV.empty _ _ _ (Nat.zero_le _) (fun _ => rfl)) hu2 (by intro n hn; simp at hn; omega) (by simp) (by simp))
  have HX2 := Zh (HX1.out.below (Nat.le_refl _) hg2)
  have HG2 := Zh (HG1.out.trans (hg2.mono (by omega)))
  clear hg2 hu2 HX1 HG1
  generalize (w1.alloc (.cells #[.int .u64 (kn : Int), .int .u64 (en : Int)] 229)) = w2 at *
  refine HC2.out.mono ?_
  rintro e2 w3 ⟨a3, c3, rfl, ho3, hb3⟩
  rw [List.nil_append] at ho3 ⊢
  have hl3 : (vbs [kn, en]).length ≤ 20 := by have := vbs_len (l := [kn, en]) (by intro n hn; simp at hn; omega); simpa using this
  obtain ⟨r3, hr3⟩ : ∃ r, r = vbs [kn, en] := ⟨_, rfl⟩
  rw [← hr3] at ho3 hl3 ⊢
  have HR3 := Lib.hid' hr3
  have HX3 := Zh (HX2.out.below (Nat.le_refl _) hb3)
  have HG3 := Zh (HG2.out.trans (hb3.mono (by omega)))
  have HO3 := Zh (show Bytes w3 (.slice a3 r3.length c3) r3 from SlV.of_own ho3)
  have hz3 := hb3.size
  clear hr3 ho3 hb3 HX2 HG2 HC2
  have hx0 := HX3.out.box.1 0 _ rfl
  have hx1 := HX3.out.box.1 1 _ rfl
  have hx2 := HX3.out.box.1 2 _ rfl
  have hx3 := HX3.out.box.1 3 _ rfl
  go_wp2_with fail
  clear hx0 hx1 hx2 hx3
  have hu4 := us_one w3 an 229
  have hz4 : (w3.alloc (.cells #[.int .u64 (an : Int)] 229)).heap.size = w3.heap.size + 1 := by simp
  have hg4 : Below w3.heap.size w3 (w3.alloc (.cells #[.int .u64 (an : Int)] 229)) := by go_grown
  have HC4 := Zh (vPut_any r3 a3 c3 [an] (some ⟨w3.heap.size, 0, none⟩) 1 _ (show Bytes (w3.alloc (.cells #[.int .u64 (an : Int)] 229)) (.slice a3 r3.length c3) r3 from SlV.below HO3.out (Nat.le_refl _) hg4) hu4 (by intro n hn; simp at hn; omega) (by omega) (by simp))
  have HX4 := Zh (HX3.out.below (Nat.le_refl _) hg4)
  have HG4 := Zh (HG3.out.trans (hg4.mono (by omega)))
  clear hg4 hu4 HX3 HG3 HO3
  generalize (w3.alloc (.cells #[.int .u64 (an : Int)] 229)) = w4 at *
  have hl5 : (vbs [an]).length ≤ 10 := by have := vbs_len (l := [an]) (by intro n hn; simp at hn; omega); simpa using this
  obtain ⟨r5, hr5⟩ : ∃ r, r = r3 ++ vbs [an] := ⟨_, rfl⟩
  have hl5' : r5.length ≤ 30 := by rw [hr5, List.length_append]; omega
  rw [← hr5] at HC4
  have HR5 := Lib.hid' hr5
  clear hr5 hl5
  refine HC4.out.mono ?_
  rintro e4 w5 ⟨a5, c5, rfl, ho5, hb5⟩
  have HX5 := Zh (HX4.out.below (Nat.le_refl _) hb5)
  have HG5 := Zh (HG4.out.trans (hb5.mono (by omega)))
  have HO5 := Zh (show Bytes w5 (.slice a5 r5.length c5) r5 from SlV.of_own ho5)
  have hz5 := hb5.size
  clear ho5 hb5 HX4 HG4 HC4
  have hx0 := HX5.out.box.1 0 _ rfl
  have hx1 := HX5.out.box.1 1 _ rfl
  have hx2 := HX5.out.box.1 2 _ rfl
  have hx3 := HX5.out.box.1 3 _ rfl
  go_wp2_with fail
  have HT := Zh (show ({ k := kn, e := en, a := (an : Int), d := d } : Ac).text = r5 from by rw [HR5.out, HR3.out]; exact Ac.text_any (by omega) (by omega))
  rw [HT.out] at HP HN
  have HC8 := Zh (fput_any [] r5 none a5 0 c5 w5 (SlV.empty _ _ _ (Nat.zero_le _) (fun _ => rfl)) HO5.out (by simp))
  refine HC8.out.mono ?_
  unfold FPutR
  rintro e8 w9 ⟨a9, c9, rfl, ho9, hb9⟩
  have HG9 := Zh (HG5.out.trans (hb9.mono (by omega)))
  have HO9 := Zh (own_base (B' := w.heap.size) ho9 (by omega))
  clear ho9 hb9 HC8
  obtain ⟨q, hq⟩ : ∃ q, q = fputB [] r5 := ⟨_, rfl⟩
  have HQ := Zh (HP.out.trans hq.symm)
  rw [← hq] at HO9 ⊢
  have HN9 := Zh (HN.out)
  rw [HN.out, errV_0]
  clear hq HP
  go_wp2_with fail
  refine bodyPost_ret (v := .tuple #[.slice a9 q.length c9, .nilIface]) (by simp [results, Tryz.results172, go_sem]) rfl ?_
  refine ⟨a9, c9, ?_, ?_, HG9.out⟩
  ·rw [HQ.out, ← HX.out]; rfl
  ·rw [HQ.out]; exact HO9.out

end Go.Proofs.YtelneaokoiojkaaGreatDoor

namespace Go.Proofs.YtelneaokoiojkaaGreatDoor
open Go.RowKit

theorem Sep.none {α : Type} (f : α → Asn) {w0 w : World} {F : Nat → Prop} {L : List Asn} (h : Sep w0 F L w) : Sep w0 F (Asn.all (([] : List α).map f) :: L) w := h.addEmp trivial (fun _ h => h)
/-- one of many parts holds -/
theorem Sep.one {α : Type} (f : α → Asn) {w0 w : World} {F : Nat → Prop} {L : List Asn} {Ks : List α} (h : Sep w0 F L w) (i : Nat) (hi : L[i]? = some (Asn.all (Ks.map f))) {x : α} (hx : x ∈ Ks) : (f x).holds w := (Asn.all_holds.1 (h.at i hi)).1 (f x) (List.mem_map_of_mem hx)
end Go.Proofs.YtelneaokoiojkaaGreatDoor
