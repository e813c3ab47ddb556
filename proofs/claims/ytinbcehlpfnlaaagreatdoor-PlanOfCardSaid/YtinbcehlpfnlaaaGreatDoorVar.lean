/- Layer 1 (varint): numbers as bytes, the reader. -/
import Derived.Test.YtinbcehlpfnlaaaGreatDoorSlB
import Derived.Test.YtinbcehlpfnlaaaGreatDoorFmtM
import Derived.Test.YtinbcehlpfnlaaaGreatDoorBits
import Derived.Test.YtinbcehlpfnlaaaGreatDoorBase
import Derived.Laws.EntriesVeiled
namespace Go.Proofs.YtinbcehlpfnlaaaGreatDoor
open Go.RowKit
set_option linter.unusedSimpArgs false
set_option linter.unusedVariables false
set_option maxRecDepth 20000

/-- a row is handed back, longer; what else was written lies in blocks from B on -/
def PutR (B : Nat) (r : List UInt8) (w : World) (en : Ending) (w' : World) : Prop :=
  ∃ a' c', en = .returned (.slice a' r.length c') ∧ w'.ownsRow B 5 1 (.slice a' r.length c') r.length (byteVs r) ∧ Fr (fun k => B ≤ k) w w'
theorem or128_i (m : Nat) : bits .or .u8 ((m : Int) % 256) 128 = ((m % 128 + 128 : Nat) : Int) := by
  have := or128_u8 m
  rwa [Int.natCast_emod] at this
theorem ofNat_lo (m : Nat) (h : m < 128) : byteV (UInt8.ofNat m) = .int .u8 (m : Int) := by
  simp [byteV]; omega
theorem ofNat_hi (m : Nat) : byteV (UInt8.ofNat (m % 128 + 128)) = .int .u8 ((m % 128 + 128 : Nat) : Int) := by
  simp [byteV]; omega
theorem own_mono {B e size n : Nat} {v : Value} {xs : List Value} {w0 w w' : World} (h : Fr (fun k => v.ownBlock = some k) w w') (ho : w.ownsRow B e size v n xs) (h0 : Fr (fun k => B ≤ k) w0 w) : Fr (fun k => B ≤ k) w0 w' :=
  h0.trans h (fun i hi => .inl (own_blk ho hi).1)
set_option maxHeartbeats 1000000 in
theorem vput_any {B : Nat} (l : List UInt8) (a : Option Addr) (c n : Nat) (hn : n < 18446744073709551616) (w : World) (h : w.ownsRow B 5 1 (.slice a l.length c) l.length (byteVs l)) (hB : B ≤ w.heap.size) (hl : l.length ≤ 1099511627776) :
    Calls Tryz.prog 78 #[.slice a l.length c, .int .u64 n] w (PutR B (l ++ vb n) w) := by
  have HO0 := Lib.hid' h
  have hvl := vb_len10 hn
  clear h
  go_enter Tryz.func78, Tryz.ntmps78
  go_wp2_with fail
  go_loopw [0, 1] (fun v0 v1 wr => ∃ (m : Nat) (p : List UInt8) (a' : Option Addr) (c' : Nat), v0 = .slice a' (l ++ p).length c' ∧ v1 = .int .u64 m ∧ m < 18446744073709551616 ∧ Hid (vb n = p ++ vb m) ∧ Hid (wr.ownsRow B 5 1 (.slice a' (l ++ p).length c') (l ++ p).length (byteVs (l ++ p))) ∧ Hid (Fr (fun k => B ≤ k) w wr)) (fun _ v1 _ => (intOf v1).toNat)
  case atStart => exact ⟨n, [], a, c, by rw [List.append_nil], rfl, hn, Lib.hid' rfl, Lib.hid' (by rw [List.append_nil]; exact HO0.out), Lib.hid' (Fr.refl _ _)⟩
  case round =>
    obtain ⟨m, p, a', c', rfl, rfl, hm, HV, HO, HF⟩ := hrel
    have hpl : (l ++ p).length ≤ 1099511627786 := by have := congrArg List.length HV.out; simp at this; simp; omega
    have hzr : B ≤ wr.heap.size := Nat.le_trans hB HF.out.size
    obtain ⟨r, hr⟩ : ∃ r, r = l ++ p := ⟨_, rfl⟩
    rw [← hr] at HO hpl ⊢
    have HR := Lib.hid' hr
    clear hr
    by_cases hlt : 128 ≤ m
    · have e1 := or128_i m
      have HV2 := Lib.hid' (vb_big (n := m) (by omega))
      go_wp2_with (at_builtin; refine append_one etBytes rfl (.tmp 9) (.tmp 13) rfl [.int .u8 ((m % 128 + 128 : Nat) : Int)] rfl B r.length (byteVs r) _ rfl HO.out rfl (by simp [Value.oneCell']) (by omega) hzr ?_)
      intro a2 c2 w2 ho2 hf2
      have HO2 := Lib.hid' (show w2.ownsRow B 5 1 (.slice a2 (l ++ (p ++ [UInt8.ofNat (m % 128 + 128)])).length c2) (l ++ (p ++ [UInt8.ofNat (m % 128 + 128)])).length (byteVs (l ++ (p ++ [UInt8.ofNat (m % 128 + 128)]))) by
        rw [← List.append_assoc, ← HR.out, byteVs_append, List.length_append]; simp only [byteVs, List.map_cons, List.map_nil, ofNat_hi]; exact ho2)
      have HF2 := Lib.hid' (own_mono hf2 HO.out HF.out)
      have HL2 := Lib.hid' (show r.length + 1 = (l ++ (p ++ [UInt8.ofNat (m % 128 + 128)])).length by rw [HR.out]; simp; omega)
      clear ho2 hf2 e1
      go_wp2_with fail
      go_roundw
      case rel => exact ⟨m / 128, p ++ [UInt8.ofNat (m % 128 + 128)], a2, c2, by rw [HL2.out], by go_num, by omega, Lib.hid' (by rw [HV.out, HV2.out]; simp), HO2, HF2⟩
      case measure => simp [intOf]; omega
    · have hlt' : m < 128 := by omega
      have HV2 := Lib.hid' (vb_small hlt')
      go_wp2_with (at_builtin; refine append_one etBytes rfl (.tmp 15) (.tmp 18) rfl [.int .u8 (m : Int)] rfl B r.length (byteVs r) _ rfl HO.out rfl (by simp [Value.oneCell']) (by omega) hzr ?_)
      intro a2 c2 w2 ho2 hf2
      have HLE := Lib.hid' (show l ++ vb n = r ++ [UInt8.ofNat m] by rw [HV.out, HV2.out, HR.out]; simp)
      have HL2 := Lib.hid' (show (l ++ vb n).length = r.length + 1 by rw [HLE.out]; simp)
      have HO2 := Lib.hid' (show w2.ownsRow B 5 1 (.slice a2 (l ++ vb n).length c2) (l ++ vb n).length (byteVs (l ++ vb n)) by
        rw [HL2.out, HLE.out, byteVs_append]; simp only [byteVs, List.map_cons, List.map_nil, ofNat_lo m hlt']; exact ho2)
      have HF2 := Lib.hid' (own_mono hf2 HO.out HF.out)
      clear ho2 hf2
      go_wp2_with fail
      go_ret
      exact ⟨a2, c2, ret_eq (by rw [HL2.out]; rfl), HO2.out, HF2.out⟩

/-- numbers in a slice -/
def uVs (l : List Nat) : List Value := l.map (fun n : Nat => Value.int .u64 (n : Int))
def Us (w : World) (v : Value) (l : List Nat) : Prop := SlV w v l.length (uVs l)
theorem us_at {w : World} {a : Option Addr} {n c : Nat} {l : List Nat} (h : Us w (.slice a n c) l) {k : Nat} (hk : k < l.length) :
    ∃ b off, a = some ⟨b, off, none⟩ ∧ b < w.heap.size ∧ w.cell? ⟨b, off + k, none⟩ = some (.int .u64 (l[k] : Nat)) := by
  have h' : SlV w (.slice a n c) n (l.flatMap (fun x => [Value.int .u64 (x : Nat)])) := by
    obtain ⟨a', c', he, r⟩ := h
    cases he
    refine ⟨a, c, rfl, ?_⟩
    have : l.flatMap (fun x => [Value.int .u64 (x : Nat)]) = uVs l := by
      clear r hk; induction l with
      | nil => rfl
      | cons x l ih => rw [List.flatMap_cons, ih]; rfl
    rw [this]; exact r
  obtain ⟨b, off, e, hb, hc⟩ := SlV.row (f := fun x : Nat => [Value.int .u64 (x : Nat)]) (s := 1) (fun _ => rfl) (by decide) h' hk
  refine ⟨b, off, e, hb, ?_⟩
  have := hc 0 _ rfl
  simpa using this
theorem us_len {w : World} {a : Option Addr} {c : Nat} {l : List Nat} (h : Us w (.slice a l.length c) l) : l.length ≤ 9223372036854775807 := by
  obtain ⟨_, _, he, h1, h2, _⟩ := h; cases he; unfold maxLen at h2; omega
/-- numbers' bytes, one behind the other -/
def vbs (l : List Nat) : List UInt8 := l.flatMap vb
theorem vbs_len {l : List Nat} (h : ∀ n ∈ l, n < 18446744073709551616) : (vbs l).length ≤ 10 * l.length := by
  unfold vbs
  induction l with
  | nil => simp
  | cons n l ih =>
    have h1 := vb_len10 (h n List.mem_cons_self)
    have h2 := ih (fun m hm => h m (List.mem_cons_of_mem _ hm))
    simp only [List.flatMap_cons, List.length_append, List.length_cons]; omega
set_option maxHeartbeats 1000000 in
theorem vPut_any (b : List UInt8) (a : Option Addr) (c : Nat) (l : List Nat) (la : Option Addr) (lc : Nat) (w : World) (h : Bytes w (.slice a b.length c) b) (hU : Us w (.slice la l.length lc) l) (hl : ∀ n ∈ l, n < 18446744073709551616) (hb : b.length ≤ 1073741824) (hln : l.length ≤ 1048576) :
    Calls Tryz.prog 71 #[.slice a b.length c, .slice la l.length lc] w (OwnR w.heap.size 5 1 (b ++ vbs l).length (byteVs (b ++ vbs l)) w) := by
  have HU := Lib.hid' hU
  have HL := Lib.hid' hl
  have HC := Lib.hid' (clone_any (.slice a b.length c) b w h (by omega))
  clear h hU hl
  go_enter Tryz.func71, Tryz.ntmps71
  go_wp2_with fail
  refine HC.out.mono ?_
  rintro e w1 ⟨a1, c1, rfl, ho, hb1⟩
  have HO := Lib.hid' ho
  have HB := Lib.hid' hb1
  clear ho hb1 HC
  go_wp2_with fail
  go_loopw [5, 12] (fun v5 v12 wr => ∃ (k : Nat) (a' : Option Addr) (c' : Nat), v12 = .int .i64 k ∧ k ≤ l.length ∧ v5 = .slice a' (b ++ vbs (l.take k)).length c' ∧ Hid (wr.ownsRow w.heap.size 5 1 (.slice a' (b ++ vbs (l.take k)).length c') (b ++ vbs (l.take k)).length (byteVs (b ++ vbs (l.take k)))) ∧ Hid (Below w.heap.size w wr)) (fun _ v12 _ => l.length - (intOf v12).toNat)
  case atStart => exact ⟨0, a1, c1, rfl, Nat.zero_le _, by simp [vbs], Lib.hid' (by simpa [vbs] using HO.out), HB⟩
  case round =>
    obtain ⟨k, a', c', rfl, hk, rfl, HOk, HBk⟩ := hrel
    by_cases hlt : k < l.length
    · obtain ⟨bb, off, rfl, hbb, hc⟩ := (show Us wr (.slice la l.length lc) l from SlV.below HU.out (Nat.le_refl _) HBk.out) |> fun h => us_at h hlt
      have HN := Lib.hid' (show b ++ vbs (l.take (k + 1)) = (b ++ vbs (l.take k)) ++ vb l[k] by
        rw [List.take_succ_eq_append_getElem hlt]; unfold vbs; rw [List.flatMap_append, ← List.append_assoc]; simp only [List.flatMap_cons, List.flatMap_nil, List.append_nil])
      have hx := HL.out l[k] (List.getElem_mem hlt)
      have hvl : (b ++ vbs (l.take k)).length ≤ 1099511627776 := by
        have := vbs_len (l := l.take k) (fun n hn => HL.out n (List.mem_of_mem_take hn))
        simp only [List.length_append, List.length_take] at *; omega
      generalize l[k] = x at *
      obtain ⟨r, hr⟩ : ∃ r, r = b ++ vbs (l.take k) := ⟨_, rfl⟩
      rw [← hr] at HOk HN hvl ⊢
      clear hr
      have hbz := HBk.out.size
      go_wp2_with fail
      refine (vput_any r a' c' x hx wr HOk.out hbz hvl).mono ?_
      rintro e w2 ⟨a2, c2, rfl, ho2, hf2⟩
      obtain ⟨r2, hr2⟩ : ∃ r2, r2 = r ++ vb x := ⟨_, rfl⟩
      have HN2 := Lib.hid' (HN.out.trans hr2.symm)
      rw [← hr2] at ho2 ⊢
      clear hr2
      have HO2 := Lib.hid' ho2
      have HB2 := Lib.hid' (HBk.out.trans (hf2.below hbz (fun q hq => hq)))
      clear ho2 hf2
      go_wp2_with fail
      go_roundw
      case rel => exact ⟨k + 1, a2, c2, by go_num, by omega, by rw [HN2.out], Lib.hid' (by rw [HN2.out]; exact HO2.out), HB2⟩
      case measure => simp [intOf]; omega
    · obtain rfl : k = l.length := by omega
      have HT := Lib.hid' (List.take_length (l := l))
      rw [HT.out] at HOk ⊢
      go_wp2_with fail
      go_ret
      exact ⟨a', c', rfl, HOk.out, HBk.out⟩
end Go.Proofs.YtinbcehlpfnlaaaGreatDoor

namespace Go.Proofs.YtinbcehlpfnlaaaGreatDoor
open Go.RowKit
set_option linter.unusedSimpArgs false
set_option linter.unusedVariables false
set_option maxRecDepth 20000

theorem us_one (w : World) (x : Nat) (t : Nat) : Us (w.alloc (.cells #[.int .u64 (x : Int)] t)) (.slice (some ⟨w.heap.size, 0, none⟩) 1 1) [x] :=
  SlV.new w [.int .u64 (x : Int)] 1 t (by decide)
set_option maxHeartbeats 1000000 in
theorem vPutText_any (b t : List UInt8) (a ta : Option Addr) (c tc : Nat) (w : World) (h : Bytes w (.slice a b.length c) b) (hT : Bytes w (.slice ta t.length tc) t) (hb : b.length ≤ 1073741824) (hlt : t.length ≤ 1073741824) :
    Calls Tryz.prog 82 #[.slice a b.length c, .slice ta t.length tc] w (OwnR w.heap.size 5 1 (b ++ headB t).length (byteVs (b ++ headB t)) w) := by
  have HB := Lib.hid' h
  have HT := Lib.hid' hT
  clear h hT
  go_enter Tryz.func82, Tryz.ntmps82
  go_wp2_with fail
  have hg : Below w.heap.size w (w.alloc (.cells #[.int .u64 (t.length : Int)] 100)) := by go_grown
  have HC := Lib.hid' (vPut_any b a c [t.length] (some ⟨w.heap.size, 0, none⟩) 1 _ (show Bytes (w.alloc (.cells #[.int .u64 (t.length : Int)] 100)) (.slice a b.length c) b from SlV.below HB.out (Nat.le_refl _) hg) (us_one w t.length _) (by intro n hn; simp at hn; omega) hb (by simp))
  have HT1 := Lib.hid' (show Bytes (w.alloc (.cells #[.int .u64 (t.length : Int)] 100)) (.slice ta t.length tc) t from SlV.below HT.out (Nat.le_refl _) hg)
  have HG := Lib.hid' hg
  have hz : (w.alloc (.cells #[.int .u64 (t.length : Int)] 100)).heap.size = w.heap.size + 1 := by simp
  clear hg
  generalize (w.alloc (.cells #[.int .u64 (t.length : Int)] 100)) = w1 at *
  obtain ⟨r, hr⟩ : ∃ r, r = b ++ vbs [t.length] := ⟨_, rfl⟩
  have hrl : r.length ≤ 1073741844 := by
    have := vbs_len (l := [t.length]) (by intro n hn; simp at hn; omega)
    rw [hr]; simp only [List.length_append]; simp at this; omega
  have HR := Lib.hid' (show b ++ headB t = r ++ t by rw [hr]; simp [vbs, headB])
  rw [← hr] at HC
  clear hr
  refine HC.out.mono ?_
  rintro e w2 ⟨a2, c2, rfl, ho2, hb2⟩
  have HO2 := Lib.hid' (own_base (B' := w.heap.size) ho2 (by omega))
  have HB2 := Lib.hid' (HG.out.trans (hb2.mono (by omega)))
  have HT2 := Lib.hid' (show Bytes w2 (.slice ta t.length tc) t from SlV.below HT1.out (Nat.le_refl _) hb2)
  have hz2 : w.heap.size ≤ w2.heap.size := by have := hb2.size; omega
  clear ho2 hb2 hz HC HT1
  go_wp2_with (at_builtin; refine append_sl etBytes rfl (.tmp 10) (.tmp 11) rfl w.heap.size r.length (byteVs r) _ rfl HO2.out t.length (byteVs t) _ rfl HT2.out (by simp [byteVs]) (byteVs_one _) (by omega) hz2 ?_)
  intro a3 c3 w3 ho3 hf3
  have HL := Lib.hid' (show (b ++ headB t).length = r.length + t.length by rw [HR.out]; simp)
  have HO3 := Lib.hid' (show w3.ownsRow w.heap.size 5 1 (.slice a3 (b ++ headB t).length c3) (b ++ headB t).length (byteVs (b ++ headB t)) by rw [HL.out, HR.out, byteVs_append]; exact ho3)
  have HB3 := Lib.hid' (hf3.row HO2.out (Nat.le_refl _) hz2 HB2.out)
  clear ho3 hf3
  go_wp2_with fail
  go_ret
  exact ⟨a3, c3, ret_eq (by rw [HL.out]; rfl), HO3.out, HB3.out⟩

/- plain: what Take answers -/
theorem vt_all {b : List UInt8} (h : ∀ y ∈ b.take 10, 128 ≤ y.toNat) : vtake b = none := by
  unfold vtake
  have : vend (b.take 10) 0 = none := by
    cases hq : vend (b.take 10) 0 with
    | none => rfl
    | some k =>
      obtain ⟨_, h2, h3, _⟩ := vend_some hq
      simp only [Nat.sub_zero] at h2 h3
      have := h ((b.take 10).getD k 0) (by rw [List.getD, List.getElem?_eq_getElem h2]; exact List.getElem_mem h2)
      omega
  rw [this]
theorem vend_at {b : List UInt8} {k : Nat} (hk : k < 10) (hl : k < b.length) (h : ∀ y ∈ b.take k, 128 ≤ y.toNat) (hx : b[k].toNat < 128) : vend (b.take 10) 0 = some k := by
  have e : b.take 10 = b.take k ++ b[k] :: (b.drop (k + 1)).take (10 - (k + 1)) := by
    rw [show 10 = k + (10 - k) by omega, List.take_add, List.drop_eq_getElem_cons hl]
    congr 1
    rw [show 10 - k = (10 - (k + 1)) + 1 by omega, List.take_succ_cons]
    congr 2; omega
  rw [e, vend_mk _ _ _ _ hx h, List.length_take]
  congr 1; omega
theorem getD_at {b : List UInt8} {k : Nat} (hl : k < b.length) : b.getD k 0 = b[k] := by simp [List.getD, hl]
theorem vt_hit {b : List UInt8} {k : Nat} (hk : k < 10) (hl : k < b.length) (h : ∀ y ∈ b.take k, 128 ≤ y.toNat) (hx : b[k].toNat < 128) (h0 : ¬ (k ≠ 0 ∧ b[k].toNat = 0)) (h9 : ¬ (k = 9 ∧ 1 < b[k].toNat)) : vtake b = some (vv (b.take (k + 1)), k + 1) := by
  unfold vtake
  rw [vend_at hk hl h hx]
  simp only [getD_at hl]
  rw [if_neg (by rintro (h | h); exact h0 h; exact h9 h)]
theorem vt_bad {b : List UInt8} {k : Nat} (hk : k < 10) (hl : k < b.length) (h : ∀ y ∈ b.take k, 128 ≤ y.toNat) (hx : b[k].toNat < 128) (h0 : (k ≠ 0 ∧ b[k].toNat = 0) ∨ (k = 9 ∧ 1 < b[k].toNat)) : vtake b = none := by
  unfold vtake
  rw [vend_at hk hl h hx]
  simp only [getD_at hl]
  rw [if_pos h0]
theorem vt_nine {b : List UInt8} (hl : 9 < b.length) (h : ∀ y ∈ b.take 9, 128 ≤ y.toNat) (hx : 1 < b[9].toNat) : vtake b = none := by
  by_cases h2 : b[9].toNat < 128
  · exact vt_bad (by decide) hl h h2 (.inr ⟨rfl, hx⟩)
  · refine vt_all fun y hy => ?_
    rw [List.take_succ_eq_append_getElem hl] at hy
    rcases List.mem_append.1 hy with hy | hy
    · exact h y hy
    · simp at hy; subst hy; omega
theorem vv_next {b : List UInt8} {k : Nat} (hl : k < b.length) : vv (b.take (k + 1)) = vv (b.take k) + 128 ^ k * (b[k].toNat % 128) := by
  rw [List.take_succ_eq_append_getElem hl, vv_append, List.length_take, Nat.min_eq_left (by omega)]
  simp [vv]
theorem vv_bound {b : List UInt8} {k : Nat} (hl : k ≤ b.length) : vv (b.take k) < 128 ^ k := by
  have := vv_lt (b.take k)
  rwa [List.length_take, Nat.min_eq_left hl] at this
theorem pow128 (k : Nat) : (128 : Nat) ^ k = 2 ^ (7 * k) := by rw [show (128 : Nat) = 2 ^ 7 from rfl, ← Nat.pow_mul]
theorem shl_or {n x k : Nat} (hk : k ≤ 9) (hn : n < 128 ^ k) (hx : k = 9 → x % 128 ≤ 1) : bits .or .u64 (n : Int) (IntKind.u64.wrap ((x : Int) % 128 * 2 ^ (7 * k))) = ((n + 128 ^ k * (x % 128) : Nat) : Int) := by
  have h1 : 128 ^ k * (x % 128) < 18446744073709551616 := by
    rcases Nat.lt_or_ge k 9 with h | h
    · have : 128 ^ k ≤ 128 ^ 8 := Nat.pow_le_pow_right (by decide) (by omega)
      have h2 : x % 128 ≤ 127 := by omega
      have := Nat.mul_le_mul this h2
      omega
    · obtain rfl : k = 9 := by omega
      have := hx rfl
      have := Nat.mul_le_mul (Nat.le_refl (128 ^ 9)) this
      omega
  have hn2 : n < 18446744073709551616 := by
    have : 128 ^ k ≤ 128 ^ 9 := Nat.pow_le_pow_right (by decide) hk
    have h9 : (128 : Nat) ^ 9 = 9223372036854775808 := by decide
    omega
  have e : (x : Int) % 128 * 2 ^ (7 * k) = ((128 ^ k * (x % 128) : Nat) : Int) := by
    rw [pow128]; push_cast; exact Int.mul_comm _ _
  rw [e, wraps_u64 _ (by omega) (by omega), or_u64 hn2 h1]
  rw [pow128] at hn ⊢
  rw [or_add hn]
def TakeR (r : Option (Nat × Nat)) : Value := match r with | none => .tuple #[.int .u64 0, .int .i64 0, errV 2] | some (n, k) => .tuple #[.int .u64 (n : Nat), .int .i64 (k : Nat), .nilIface]
end Go.Proofs.YtinbcehlpfnlaaaGreatDoor

namespace Go.Proofs.YtinbcehlpfnlaaaGreatDoor
open Go.RowKit
set_option linter.unusedSimpArgs false
set_option linter.unusedVariables false
set_option maxRecDepth 20000

/-- block b is a reader in the state r -/
def DLow (a : Option Addr) (n b : Nat) : Prop := n ≠ 0 → ∀ x, a = some x → x.block < b   -- what is left lies below the reader
theorem DLow.sub {a a2 : Option Addr} {n m b : Nat} (h : DLow a n b) (h1 : m ≠ 0 → n ≠ 0 ∧ ∃ bb o o2, a = some ⟨bb, o, none⟩ ∧ a2 = some ⟨bb, o2, none⟩) : DLow a2 m b := by
  intro hm x hx
  obtain ⟨hn, bb, o, o2, rfl, rfl⟩ := h1 hm
  cases hx
  exact h hn ⟨bb, o, none⟩ rfl
theorem errV_no (n : Nat) (x : UInt8) : byteV x ≠ errV n := by unfold byteV errV; split <;> simp
theorem rat_no {a : Option Addr} {n c m : Nat} : ∀ x : UInt8, byteV x ∉ [Value.slice a n c, errV m] := by
  intro x h
  simp only [List.mem_cons, List.not_mem_nil, or_false] at h
  rcases h with h | h
  · simp [byteV] at h
  · exact errV_no m x h
end Go.Proofs.YtinbcehlpfnlaaaGreatDoor

namespace Go.Proofs.YtinbcehlpfnlaaaGreatDoor
open Go.RowKit
set_option linter.unusedSimpArgs false
set_option linter.unusedVariables false
set_option maxRecDepth 20000

theorem frb {b : Nat} {x y z : World} (h : Fr (fun k => k = b) x y) (k : Fr (fun k => k = b) y z) : Fr (fun k => k = b) x z := h.trans k (fun i hi => .inl hi)
def RD.left (r : RD) : Nat := if r.bad = 0 then r.rest.length else 0
end Go.Proofs.YtinbcehlpfnlaaaGreatDoor
