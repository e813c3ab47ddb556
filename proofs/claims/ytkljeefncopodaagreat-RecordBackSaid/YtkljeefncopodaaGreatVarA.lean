/- Layer 1 (varint): put, Put, PutText, PutList, Take. -/
import Derived.Test.YtkljeefncopodaaGreatSlB
import Derived.Test.YtkljeefncopodaaGreatFmtM
import Derived.Test.YtkljeefncopodaaGreatBits
namespace Go.Proofs.YtkljeefncopodaaGreat
open Go.RowKit
set_option linter.unusedSimpArgs false
set_option linter.unusedVariables false
set_option maxRecDepth 20000

/-- a row is handed back, longer; what else was written lies in blocks from B on -/
def PutR (B : Nat) (r : List UInt8) (w : World) (en : Ending) (w' : World) : Prop :=
  ∃ a' c', en = .returned (.slice a' r.length c') ∧ w'.ownsRow B 5 1 (.slice a' r.length c') r.length (byteVs r) ∧ Fr (fun k => B ≤ k) w w'
theorem or128_i (m : Nat) : bits .or .u8 ((m : Int) % 256) 128 = ((m % 128 + 128 : Nat) : Int) := by
  have := or128_u8 m
  rwa [Int.natCast_emod] at this
theorem ofNat_lo (m : Nat) (h : m < 128) : byteV (UInt8.ofNat m) = .int .u8 (m : Int) := by
  simp [byteV]; omega
theorem ofNat_hi (m : Nat) : byteV (UInt8.ofNat (m % 128 + 128)) = .int .u8 ((m % 128 + 128 : Nat) : Int) := by
  simp [byteV]; omega
theorem own_mono {B e size n : Nat} {v : Value} {xs : List Value} {w0 w w' : World} (h : Fr (fun k => v.ownBlock = some k) w w') (ho : w.ownsRow B e size v n xs) (h0 : Fr (fun k => B ≤ k) w0 w) : Fr (fun k => B ≤ k) w0 w' :=
  h0.trans h (fun i hi => .inl (own_blk ho hi).1)
set_option maxHeartbeats 1000000 in
theorem vput_any {B : Nat} (l : List UInt8) (a : Option Addr) (c n : Nat) (hn : n < 18446744073709551616) (w : World) (h : w.ownsRow B 5 1 (.slice a l.length c) l.length (byteVs l)) (hB : B ≤ w.heap.size) (hl : l.length ≤ 1099511627776) :
    Calls Tryz.prog 123 #[.slice a l.length c, .int .u64 n] w (PutR B (l ++ vb n) w) := by
  have HO0 := Lib.hid' h
  have hvl := vb_len10 hn
  clear h
  go_enter Tryz.func123, Tryz.ntmps123
  go_wp2_with fail
  go_loopw [0, 1] (fun v0 v1 wr => ∃ (m : Nat) (p : List UInt8) (a' : Option Addr) (c' : Nat), v0 = .slice a' (l ++ p).length c' ∧ v1 = .int .u64 m ∧ m < 18446744073709551616 ∧ Hid (vb n = p ++ vb m) ∧ Hid (wr.ownsRow B 5 1 (.slice a' (l ++ p).length c') (l ++ p).length (byteVs (l ++ p))) ∧ Hid (Fr (fun k => B ≤ k) w wr)) (fun _ v1 _ => (intOf v1).toNat)
  case atStart => exact ⟨n, [], a, c, by rw [List.append_nil], rfl, hn, Lib.hid' rfl, Lib.hid' (by rw [List.append_nil]; exact HO0.out), Lib.hid' (Fr.refl _ _)⟩
  case round =>
    obtain ⟨m, p, a', c', rfl, rfl, hm, HV, HO, HF⟩ := hrel
    have hpl : (l ++ p).length ≤ 1099511627786 := by have := congrArg List.length HV.out; simp at this; simp; omega
    have hzr : B ≤ wr.heap.size := Nat.le_trans hB HF.out.size
    obtain ⟨r, hr⟩ : ∃ r, r = l ++ p := ⟨_, rfl⟩
    rw [← hr] at HO hpl ⊢
    have HR := Lib.hid' hr
    clear hr
    by_cases hlt : 128 ≤ m
    · have e1 := or128_i m
      have HV2 := Lib.hid' (vb_big (n := m) (by omega))
      go_wp2_with (at_builtin; refine append_one etBytes rfl (.tmp 9) (.tmp 13) rfl [.int .u8 ((m % 128 + 128 : Nat) : Int)] rfl B r.length (byteVs r) _ rfl HO.out rfl (by simp [Value.oneCell']) (by omega) hzr ?_)
      intro a2 c2 w2 ho2 hf2
      have HO2 := Lib.hid' (show w2.ownsRow B 5 1 (.slice a2 (l ++ (p ++ [UInt8.ofNat (m % 128 + 128)])).length c2) (l ++ (p ++ [UInt8.ofNat (m % 128 + 128)])).length (byteVs (l ++ (p ++ [UInt8.ofNat (m % 128 + 128)]))) by
        rw [← List.append_assoc, ← HR.out, byteVs_append, List.length_append]; simp only [byteVs, List.map_cons, List.map_nil, ofNat_hi]; exact ho2)
      have HF2 := Lib.hid' (own_mono hf2 HO.out HF.out)
      have HL2 := Lib.hid' (show r.length + 1 = (l ++ (p ++ [UInt8.ofNat (m % 128 + 128)])).length by rw [HR.out]; simp; omega)
      clear ho2 hf2 e1
      go_wp2_with fail
      go_roundw
      case rel => exact ⟨m / 128, p ++ [UInt8.ofNat (m % 128 + 128)], a2, c2, by rw [HL2.out], by go_num, by omega, Lib.hid' (by rw [HV.out, HV2.out]; simp), HO2, HF2⟩
      case measure => simp [intOf]; omega
    · have hlt' : m < 128 := by omega
      have HV2 := Lib.hid' (vb_small hlt')
      go_wp2_with (at_builtin; refine append_one etBytes rfl (.tmp 15) (.tmp 18) rfl [.int .u8 (m : Int)] rfl B r.length (byteVs r) _ rfl HO.out rfl (by simp [Value.oneCell']) (by omega) hzr ?_)
      intro a2 c2 w2 ho2 hf2
      have HLE := Lib.hid' (show l ++ vb n = r ++ [UInt8.ofNat m] by rw [HV.out, HV2.out, HR.out]; simp)
      have HL2 := Lib.hid' (show (l ++ vb n).length = r.length + 1 by rw [HLE.out]; simp)
      have HO2 := Lib.hid' (show w2.ownsRow B 5 1 (.slice a2 (l ++ vb n).length c2) (l ++ vb n).length (byteVs (l ++ vb n)) by
        rw [HL2.out, HLE.out, byteVs_append]; simp only [byteVs, List.map_cons, List.map_nil, ofNat_lo m hlt']; exact ho2)
      have HF2 := Lib.hid' (own_mono hf2 HO.out HF.out)
      clear ho2 hf2
      go_wp2_with fail
      go_ret
      exact ⟨a2, c2, ret_eq (by rw [HL2.out]; rfl), HO2.out, HF2.out⟩

/-- numbers in a slice -/
def uVs (l : List Nat) : List Value := l.map (fun n : Nat => Value.int .u64 (n : Int))
def Us (w : World) (v : Value) (l : List Nat) : Prop := SlV w v l.length (uVs l)
theorem us_at {w : World} {a : Option Addr} {n c : Nat} {l : List Nat} (h : Us w (.slice a n c) l) {k : Nat} (hk : k < l.length) :
    ∃ b off, a = some ⟨b, off, none⟩ ∧ b < w.heap.size ∧ w.cell? ⟨b, off + k, none⟩ = some (.int .u64 (l[k] : Nat)) := by
  have h' : SlV w (.slice a n c) n (l.flatMap (fun x => [Value.int .u64 (x : Nat)])) := by
    obtain ⟨a', c', he, r⟩ := h
    cases he
    refine ⟨a, c, rfl, ?_⟩
    have : l.flatMap (fun x => [Value.int .u64 (x : Nat)]) = uVs l := by
      clear r hk; induction l with
      | nil => rfl
      | cons x l ih => rw [List.flatMap_cons, ih]; rfl
    rw [this]; exact r
  obtain ⟨b, off, e, hb, hc⟩ := SlV.row (f := fun x : Nat => [Value.int .u64 (x : Nat)]) (s := 1) (fun _ => rfl) (by decide) h' hk
  refine ⟨b, off, e, hb, ?_⟩
  have := hc 0 _ rfl
  simpa using this
theorem us_len {w : World} {a : Option Addr} {c : Nat} {l : List Nat} (h : Us w (.slice a l.length c) l) : l.length ≤ 9223372036854775807 := by
  obtain ⟨_, _, he, h1, h2, _⟩ := h; cases he; unfold maxLen at h2; omega
/-- numbers' bytes, one behind the other -/
def vbs (l : List Nat) : List UInt8 := l.flatMap vb
theorem vbs_len {l : List Nat} (h : ∀ n ∈ l, n < 18446744073709551616) : (vbs l).length ≤ 10 * l.length := by
  unfold vbs
  induction l with
  | nil => simp
  | cons n l ih =>
    have h1 := vb_len10 (h n List.mem_cons_self)
    have h2 := ih (fun m hm => h m (List.mem_cons_of_mem _ hm))
    simp only [List.flatMap_cons, List.length_append, List.length_cons]; omega
set_option maxHeartbeats 1000000 in
theorem vPut_any (b : List UInt8) (a : Option Addr) (c : Nat) (l : List Nat) (la : Option Addr) (lc : Nat) (w : World) (h : Bytes w (.slice a b.length c) b) (hU : Us w (.slice la l.length lc) l) (hl : ∀ n ∈ l, n < 18446744073709551616) (hb : b.length ≤ 1073741824) (hln : l.length ≤ 1048576) :
    Calls Tryz.prog 64 #[.slice a b.length c, .slice la l.length lc] w (OwnR w.heap.size 5 1 (b ++ vbs l).length (byteVs (b ++ vbs l)) w) := by
  have HU := Lib.hid' hU
  have HL := Lib.hid' hl
  have HC := Lib.hid' (clone_any (.slice a b.length c) b w h (by omega))
  clear h hU hl
  go_enter Tryz.func64, Tryz.ntmps64
  go_wp2_with fail
  refine HC.out.mono ?_
  rintro e w1 ⟨a1, c1, rfl, ho, hb1⟩
  have HO := Lib.hid' ho
  have HB := Lib.hid' hb1
  clear ho hb1 HC
  go_wp2_with fail
  go_loopw [5, 12] (fun v5 v12 wr => ∃ (k : Nat) (a' : Option Addr) (c' : Nat), v12 = .int .i64 k ∧ k ≤ l.length ∧ v5 = .slice a' (b ++ vbs (l.take k)).length c' ∧ Hid (wr.ownsRow w.heap.size 5 1 (.slice a' (b ++ vbs (l.take k)).length c') (b ++ vbs (l.take k)).length (byteVs (b ++ vbs (l.take k)))) ∧ Hid (Below w.heap.size w wr)) (fun _ v12 _ => l.length - (intOf v12).toNat)
  case atStart => exact ⟨0, a1, c1, rfl, Nat.zero_le _, by simp [vbs], Lib.hid' (by simpa [vbs] using HO.out), HB⟩
  case round =>
    obtain ⟨k, a', c', rfl, hk, rfl, HOk, HBk⟩ := hrel
    by_cases hlt : k < l.length
    · obtain ⟨bb, off, rfl, hbb, hc⟩ := (show Us wr (.slice la l.length lc) l from SlV.below HU.out (Nat.le_refl _) HBk.out) |> fun h => us_at h hlt
      have HN := Lib.hid' (show b ++ vbs (l.take (k + 1)) = (b ++ vbs (l.take k)) ++ vb l[k] by
        rw [List.take_succ_eq_append_getElem hlt]; unfold vbs; rw [List.flatMap_append, ← List.append_assoc]; simp only [List.flatMap_cons, List.flatMap_nil, List.append_nil])
      have hx := HL.out l[k] (List.getElem_mem hlt)
      have hvl : (b ++ vbs (l.take k)).length ≤ 1099511627776 := by
        have := vbs_len (l := l.take k) (fun n hn => HL.out n (List.mem_of_mem_take hn))
        simp only [List.length_append, List.length_take] at *; omega
      generalize l[k] = x at *
      obtain ⟨r, hr⟩ : ∃ r, r = b ++ vbs (l.take k) := ⟨_, rfl⟩
      rw [← hr] at HOk HN hvl ⊢
      clear hr
      have hbz := HBk.out.size
      go_wp2_with fail
      refine (vput_any r a' c' x hx wr HOk.out hbz hvl).mono ?_
      rintro e w2 ⟨a2, c2, rfl, ho2, hf2⟩
      obtain ⟨r2, hr2⟩ : ∃ r2, r2 = r ++ vb x := ⟨_, rfl⟩
      have HN2 := Lib.hid' (HN.out.trans hr2.symm)
      rw [← hr2] at ho2 ⊢
      clear hr2
      have HO2 := Lib.hid' ho2
      have HB2 := Lib.hid' (HBk.out.trans (hf2.below hbz (fun q hq => hq)))
      clear ho2 hf2
      go_wp2_with fail
      go_roundw
      case rel => exact ⟨k + 1, a2, c2, by go_num, by omega, by rw [HN2.out], Lib.hid' (by rw [HN2.out]; exact HO2.out), HB2⟩
      case measure => simp [intOf]; omega
    · obtain rfl : k = l.length := by omega
      have HT := Lib.hid' (List.take_length (l := l))
      rw [HT.out] at HOk ⊢
      go_wp2_with fail
      go_ret
      exact ⟨a', c', rfl, HOk.out, HBk.out⟩
end Go.Proofs.YtkljeefncopodaaGreat
