/- Proved here: a part of the proof (9 of 12). -/
import Derived.Test.YtkhnbdbcaebdaaaGreatDoorQ8
import Derived.Lib.AppendIntMem
import Derived.Lib.AtoiErrMem
import Derived.BigQuiet
import Derived.Laws.Externs
import Derived.MapKept
import Derived.Lib.IfaceEq
import Derived.LaidEql
namespace Go.Proofs.YtkhnbdbcaebdaaaGreatDoor
open Go.RowKit
set_option linter.unusedSimpArgs false
set_option linter.unusedVariables false
set_option maxRecDepth 20000
namespace DK
/-- strconv's table of powers of ten lies as it was laid -/
def Pow (w : World) : Prop := Go.Lib.TabIs Tryz.prog w "internal/strconv.uint64pow10" .u64 Go.Lib.pow10Tab
theorem Pow.below {w w' : World} (h : Pow w) (hb : Below w.heap.size w w') : Pow w' := Go.Lib.tabBelow_of_tabIs h w' hb
theorem bExtra : Builder.Extra Tryz.prog Tryz.repS_ren where
  sizeBuilder := by kernel_rfl
  liesBuilder := by kernel_rfl
  t5 := Tryz.underlying5
  a5 := Tryz.isAgg5
  z5 := Tryz.sizeOf5
  v5 := Tryz.zeroValue5
  infoByte := by kernel_rfl
  cellsByte := by kernel_rfl
  sizeByte := by kernel_rfl
  neB5 := by decide
theorem itoa_any (n : Nat) (w : World) (h : Pow w) (hn : n ≤ 99999999) : Calls Tryz.prog 64 #[.int .i64 n] w fun e w' => e = .returned (.string ⟨(Go.Lib.decDigits n).toArray⟩) ∧ Below w.heap.size w w' :=
  (Any.strconv_Itoa Tryz.itoS n (by omega) (by omega) w h).mono fun e w' ⟨he, k, os, hw⟩ => ⟨by rw [he, Go.Lib.itoa_nonneg], by rw [hw]; exact Go.Lib.below_grow _ w (Nat.le_refl _) k os⟩
theorem repeat_any (c : Nat) (w : World) (hc : c ≤ 8) : Calls Tryz.prog 65 #[.string ⟨#[48]⟩, .int .i64 c] w fun e w' => e = .returned (.string ⟨(Go.Lib.repeatL [48] c).toArray⟩) ∧ Below w.heap.size w w' :=
  Any.strings_Repeat Tryz.repS bExtra ⟨#[48]⟩ c w (by omega) (by show 1 * c ≤ _; omega)
theorem digits_le {n : Nat} (h : n ≤ 99999999) : (Go.Lib.decDigits n).length ≤ 8 := by
  have h1 := congrArg List.length (pad8_eq h)
  rw [List.length_append, pad8_len] at h1; omega
theorem ba_append (a b : List UInt8) : (⟨a.toArray⟩ : ByteArray) ++ ⟨b.toArray⟩ = ⟨(a ++ b).toArray⟩ := by
  apply ByteArray.ext
  rw [ByteArray.data_append]
  simp
set_option maxHeartbeats 2000000 in
theorem name_any (b : UInt8) (n : Nat) (w : World) (hp : Pow w) (hn : n ≤ 99999999) : Calls Tryz.prog 30 #[.string ⟨#[b]⟩, .int .i64 n] w fun e w' => e = .returned (.string (nameN b n)) ∧ Below w.heap.size w w' := by
  have HI := Lib.hid' (itoa_any n w hp hn)
  have hl := digits_le hn
  have HN := Lib.hid' (show nameN b n = (⟨#[b]⟩ : ByteArray) ++ (⟨(Go.Lib.repeatL [48] (8 - (Go.Lib.decDigits n).length)).toArray⟩ : ByteArray) ++ (⟨(Go.Lib.decDigits n).toArray⟩ : ByteArray) by
    rw [show (⟨#[b]⟩ : ByteArray) = ⟨[b].toArray⟩ from rfl, ba_append, ba_append, List.append_assoc, pad8_eq hn]; rfl)
  have hr : (Go.Lib.repeatL [48] (8 - (Go.Lib.decDigits n).length)).length ≤ 8 := by rw [repeatL_one, List.length_replicate]; omega
  clear hp hn
  obtain ⟨s, hs⟩ : ∃ s, (⟨(Go.Lib.decDigits n).toArray⟩ : ByteArray) = s := ⟨_, rfl⟩
  have hsz : s.size = (Go.Lib.decDigits n).length := by rw [← hs]; simp [ByteArray.size]
  rw [hs] at HN HI
  obtain ⟨k, hk⟩ : ∃ k, (Go.Lib.decDigits n).length = k := ⟨_, rfl⟩
  rw [hk] at HN hl hr hsz
  obtain ⟨z, hz⟩ : ∃ z, (⟨(Go.Lib.repeatL [48] (8 - k)).toArray⟩ : ByteArray) = z := ⟨_, rfl⟩
  have hzs : z.size ≤ 8 := by rw [← hz]; simpa [ByteArray.size] using hr
  rw [hz] at HN
  have HR := Lib.hid' (show ∀ w : World, Calls Tryz.prog 65 #[.string ⟨#[48]⟩, .int .i64 (8 - (k : Int))] w fun e w' => e = .returned (.string z) ∧ Below w.heap.size w w' from fun w => by
    have h1 := repeat_any (8 - k) w (by omega)
    rw [hz] at h1
    rwa [show ((8 - k : Nat) : Int) = 8 - (k : Int) by omega] at h1)
  have e1 : IntKind.i64.wrap (8 - (k : Int)) = 8 - (k : Int) := IntWalk.i64_in _ (by omega)
  have hb1 : (⟨#[b]⟩ : ByteArray).size = 1 := rfl
  have g1 : ¬ 9223372036854775807 < 1 + z.size := by omega
  have g2 : ¬ 9223372036854775807 < ((⟨#[b]⟩ : ByteArray) ++ z).size + s.size := by rw [ByteArray.size_append]; omega
  clear hr hs hk hz
  go_enter Tryz.func30, Tryz.ntmps30
  go_wp2_with (first | (go_at_call 64; refine HI.out.mono ?_; rintro e w1 ⟨rfl, hb⟩) | (go_at_call 65; refine (HR.out _).mono ?_; rintro e w2 ⟨rfl, hb2⟩))
  go_ret
  exact ⟨by rw [HN.out]; rfl, hb.trans (hb2.mono hb.size)⟩
def figsB : Nm := ⟨#[48, 49, 50, 51, 52, 53, 54, 55, 56, 57]⟩
theorem figs_fin : ∀ i : Fin 256, figsB.data.toList.contains (UInt8.ofNat i.val) = (decide ((48 : UInt8) ≤ UInt8.ofNat i.val) && decide (UInt8.ofNat i.val ≤ 57)) := by decide +kernel
theorem figs_is (c : UInt8) : figsB.data.toList.contains c = (decide ((48 : UInt8) ≤ c) && decide (c ≤ 57)) := by
  have h := figs_fin ⟨c.toNat, c.toNat_lt⟩
  simpa using h
theorem atoi_any (s : Nm) (n : Nat) (w : World) (hs : s.size = 8) (h : Go.Lib.atoi s.data.toList = some (n : Int)) : Calls Tryz.prog 96 #[.string s] w fun e w' => e = .returned (.tuple #[.int .i64 n, .nilIface]) ∧ Below w.heap.size w w' :=
  (Any.strconv_Atoi Tryz.atoS s n (by omega) h w).mono fun e w' ⟨he, t, hw⟩ => ⟨he, by rw [hw]; exact Go.Lib.bytesWorld_below w _ t⟩
theorem digit_of (b : UInt8) : (Go.Lib.digitVal b).isSome = (decide ((48 : UInt8) ≤ b) && decide (b ≤ 57)) := by
  unfold Go.Lib.digitVal
  have h1 : ((48 : UInt8) ≤ b) ↔ 48 ≤ b.toNat := by rw [UInt8.le_iff_toNat_le]; rfl
  have h2 : (b ≤ (57 : UInt8)) ↔ b.toNat ≤ 57 := by rw [UInt8.le_iff_toNat_le]; rfl
  by_cases h : 48 ≤ b.toNat ∧ b.toNat ≤ 57
  · rw [if_pos h]; simp [h1.2 h.1, h2.2 h.2]
  · rw [if_neg h]
    by_cases h3 : 48 ≤ b.toNat
    · have : ¬ b ≤ (57 : UInt8) := fun e => h ⟨h3, h2.1 e⟩
      simp [this]
    · have : ¬ (48 : UInt8) ≤ b := fun e => h3 (h1.1 e)
      simp [this]
theorem dec_none : ∀ (l : List UInt8) (acc : Nat), l.all (fun b => figsB.data.toList.contains b) = false → Go.Lib.decFrom acc l = none
  | [], acc, h => by simp at h
  | b :: l, acc, h => by
    simp only [Go.Lib.decFrom]
    cases hb : Go.Lib.digitVal b with
    | none => rfl
    | some d =>
      have h1 : figsB.data.toList.contains b = true := by rw [figs_is, ← digit_of, hb]; rfl
      rw [List.all_cons, h1, Bool.true_and] at h
      exact dec_none l _ h
def numV (o : Option Nat) : Value := match o with
  | none => .tuple #[.int .i64 0, .bool false]
  | some n => .tuple #[.int .i64 (n : Nat), .bool true]
set_option maxHeartbeats 4000000 in
theorem number_any (b : UInt8) (x : Nm) (w : World) (hx : x.size ≤ 9223372036854775807) : Calls Tryz.prog 54 #[.string ⟨#[b]⟩, .string x] w fun e w' => e = .returned (numV (numberN b x)) ∧ Below w.heap.size w w' := by
  obtain ⟨xd⟩ := x
  cases hp : Go.Lib.hasPrefix xd.toList [b] with
  | false =>
    have HF := Lib.hid' (show numberN b ⟨xd⟩ = none by
      unfold numberN
      show (match xd.toList with | [] => none | c :: l => if c = b ∧ l.length = 8 then Go.Lib.decFrom 0 l else none) = none
      cases hq : xd.toList with
      | nil => rfl
      | cons c l =>
        rw [hq] at hp
        unfold Go.Lib.hasPrefix at hp
        simp only [List.isPrefixOf, Bool.and_true, beq_eq_false_iff_ne] at hp
        show (if c = b ∧ l.length = 8 then _ else none) = none
        rw [if_neg (fun h => hp h.1.symm)])
    have HC := Lib.hid' (show ∀ w : World, Calls Tryz.prog 94 #[.string ⟨xd⟩, .string ⟨#[b]⟩] w fun e w' => e = .returned (.tuple #[.string ⟨xd⟩, .bool false]) ∧ w' = w from fun w => by
      have h1 := cutPrefix_any ⟨xd⟩ ⟨#[b]⟩ w
      have h2 : Go.Lib.hasPrefix (⟨xd⟩ : ByteArray).data.toList (⟨#[b]⟩ : ByteArray).data.toList = false := hp
      rw [h2] at h1
      have h3 : (⟨(Go.Lib.trimPrefix (⟨xd⟩ : ByteArray).data.toList (⟨#[b]⟩ : ByteArray).data.toList).toArray⟩ : ByteArray) = ⟨xd⟩ := by unfold Go.Lib.trimPrefix; rw [if_neg (by rw [h2]; decide)]
      rwa [h3] at h1)
    clear hp hx
    go_enter Tryz.func54, Tryz.ntmps54
    go_wp2_with (go_at_call 94; refine (HC.out _).mono ?_; rintro e w1 ⟨rfl, rfl⟩)
    go_ret2
    rw [HF.out]
    exact ⟨rfl, Below.refl _ _⟩
  | true =>
    obtain ⟨l, hl⟩ : ∃ l, xd.toList = b :: l := by
      cases hq : xd.toList with
      | nil => rw [hq] at hp; cases hp
      | cons c l =>
        rw [hq] at hp
        unfold Go.Lib.hasPrefix at hp
        simp only [List.isPrefixOf, Bool.and_true, beq_iff_eq] at hp
        exact ⟨l, by rw [hp]⟩
    have HN := Lib.hid' (show numberN b ⟨xd⟩ = (if l.length = 8 then Go.Lib.decFrom 0 l else none) by
      unfold numberN
      show (match xd.toList with | [] => none | c :: l => if c = b ∧ l.length = 8 then Go.Lib.decFrom 0 l else none) = _
      rw [hl]
      show (if b = b ∧ l.length = 8 then _ else none) = _
      simp)
    obtain ⟨y, hy⟩ : ∃ y : ByteArray, (⟨l.toArray⟩ : ByteArray) = y := ⟨_, rfl⟩
    have hyl : y.data.toList = l := by rw [← hy]
    have hys : y.size = l.length := by rw [← hy]; simp [ByteArray.size]
    have HC := Lib.hid' (show ∀ w : World, Calls Tryz.prog 94 #[.string ⟨xd⟩, .string ⟨#[b]⟩] w fun e w' => e = .returned (.tuple #[.string y, .bool true]) ∧ w' = w from fun w => by
      have h1 := cutPrefix_any ⟨xd⟩ ⟨#[b]⟩ w
      have h2 : Go.Lib.hasPrefix (⟨xd⟩ : ByteArray).data.toList (⟨#[b]⟩ : ByteArray).data.toList = true := hp
      rw [h2] at h1
      have h3 : (⟨(Go.Lib.trimPrefix (⟨xd⟩ : ByteArray).data.toList (⟨#[b]⟩ : ByteArray).data.toList).toArray⟩ : ByteArray) = y := by
        unfold Go.Lib.trimPrefix
        rw [if_pos h2, ← hy]
        show (⟨(xd.toList.drop 1).toArray⟩ : ByteArray) = _
        rw [hl]; rfl
      rwa [h3] at h1)
    have hll : l.length ≤ 9223372036854775807 := by
      have : (⟨xd⟩ : ByteArray).size = xd.toList.length := by simp [ByteArray.size]
      rw [this, hl, List.length_cons] at hx; omega
    by_cases h8 : l.length = 8
    · have g8 : (y.size : Int) = 8 := by omega
      have HT := Lib.hid' (show ∀ w : World, Calls Tryz.prog 95 #[.string y, .string figsB] w fun e w' => e = .returned (.string ⟨(Go.Lib.trimS l figsB.data.toList).toArray⟩) ∧ Below w.heap.size w w' from fun w => by
        have := trim_any y figsB w (by omega) (by decide) (ascii_of_all (by decide))
        rwa [hyl] at this)
      cases ha : l.all (fun b => figsB.data.toList.contains b) with
      | false =>
        have HF := Lib.hid' (show numberN b ⟨xd⟩ = none by rw [HN.out, if_pos h8]; exact dec_none l 0 ha)
        obtain ⟨t, ht⟩ : ∃ t, Go.Lib.trimS l figsB.data.toList = t := ⟨_, rfl⟩
        have g3 : t.isEmpty = false := by
          cases t with
          | nil => rw [(trimS_nil l figsB.data.toList).1 ht] at ha; cases ha
          | cons _ _ => rfl
        rw [ht] at HT
        clear hp hx HN hl hy hyl hys ht ha hll h8
        go_enter Tryz.func54, Tryz.ntmps54
        go_wp2_with (first | (go_at_call 94; refine (HC.out _).mono ?_; rintro e w1 ⟨rfl, rfl⟩) | (go_at_call 95; refine (HT.out _).mono ?_; rintro e w2 ⟨rfl, hb2⟩))
        go_ret2
        rw [HF.out]
        exact ⟨rfl, hb2⟩
      | true =>
        rw [(trimS_nil l figsB.data.toList).2 ha] at HT
        obtain ⟨n, hn1, hn2⟩ := atoi_figs h8 (fun x hx => by
          have h1 := List.all_eq_true.1 ha x hx
          rw [figs_is] at h1
          simpa using h1)
        have HF := Lib.hid' (show numberN b ⟨xd⟩ = some n by rw [HN.out, if_pos h8]; exact hn1)
        have HA := Lib.hid' (fun w => atoi_any y n w (by omega) (by rw [hyl]; exact hn2))
        clear hp hx HN hl hy hyl hys ha hll h8 hn1 hn2
        go_enter Tryz.func54, Tryz.ntmps54
        go_upto_region 5 with (first | (go_at_call 94; refine (HC.out _).mono ?_; rintro e w1 ⟨rfl, rfl⟩) | (go_at_call 95; refine (HT.out _).mono ?_; rintro e w2 ⟨rfl, hb2⟩) | (go_at_call 96; refine (HA.out _).mono ?_; rintro e w3 ⟨rfl, hb3⟩))
        have HB := Lib.hid' (hb2.trans (hb3.mono hb2.size))
        clear hb2 hb3
        go_quiet (fail)
        go_wp2_with fail
        go_ret2
        rw [HF.out]
        exact ⟨rfl, by first | exact HB.out | exact HB.out.trans ⟨rfl, rfl, rfl, Nat.le_refl _, fun _ _ => rfl⟩⟩
    · have HF := Lib.hid' (show numberN b ⟨xd⟩ = none by rw [HN.out, if_neg h8])
      have g8 : ¬ (y.size : Int) = 8 := by omega
      clear hp hx HN hl hy hyl hys hll h8
      go_enter Tryz.func54, Tryz.ntmps54
      go_wp2_with (first | (go_at_call 94; refine (HC.out _).mono ?_; rintro e w1 ⟨rfl, rfl⟩))
      go_ret2
      rw [HF.out]
      exact ⟨rfl, Below.refl _ _⟩
end DK
end Go.Proofs.YtkhnbdbcaebdaaaGreatDoor

namespace Go.Proofs.YtkhnbdbcaebdaaaGreatDoor
open Go.RowKit
set_option linter.unusedSimpArgs false
set_option linter.unusedVariables false
set_option maxRecDepth 20000

theorem run_look_ok {P : Program} {t k e : Nat} {z : Value} (T : MapT P t k e z) {w : World} {b : Nat} {L : List (Int × Value)} (h : MapAt w b L) (a : Int) :
    (Instr.lookup t (.map (some b)) (.int .i64 a) true).run P w = .ok (.tuple #[(lookE L a).getD z, .bool (L.any (·.1 == a))]) w := by
  obtain ⟨es, clock, hb, hs⟩ := h
  have hz := T.zero w
  have hf := fun w => run_findKey T w hs.eq a
  have hck := run_checkKey T
  have hk := T.key
  simp only [Instr.lookup]
  simp [run_underlying T.under, getObj, Sem.run, hb, go_sem, hck, hf, lookE, find_idx]
  cases hj : L.findIdx? (fun x => x.1 == a) with
  | none =>
    have hn : L.any (fun x => x.1 == a) = false := by
      rw [List.any_eq_false]; intro x hx; have := List.findIdx?_eq_none_iff.1 hj x hx; simp [this]
    simp [hz, go_sem, hn]
  | some j =>
    have hlt : j < L.length := (List.findIdx?_eq_some_iff_getElem.1 hj).1
    have hy : L.any (fun x => x.1 == a) = true := List.any_eq_true.2 ⟨L[j], List.getElem_mem hlt, (List.findIdx?_eq_some_iff_getElem.1 hj).2.1⟩
    simp [List.getElem?_eq_getElem hlt, go_sem]
    have hja : L[j].1 = a := by simpa using (List.findIdx?_eq_some_iff_getElem.1 hj).2.1
    exact ⟨L[j].2, by rw [← hja]; exact List.getElem_mem hlt⟩
theorem wp_look_ok {P : Program} {t k e : Nat} {z : Value} {w : World} {ops : Array Oper} {rest : List Oper} {o : Oper} {a : Act} {Q : Exit → Act → World → Prop} (T : MapT P t k e z) (hgd : o.guard = none) (m x : Operand) (ho : o.op = .lookup t m x true) {b : Nat} {L : List (Int × Value)} (hm : a.eval m = .map (some b)) (x0 : Int) (hx : a.eval x = .int .i64 x0) (h : MapAt w b L)
    (hk : wpList P ops Q rest (a.put o.dst (.tuple #[(lookE L x0).getD z, .bool (L.any (·.1 == x0))])) w) : wpList P ops Q (o :: rest) a w := by
  refine wpList_plain hgd fun K hK => ?_
  have hrun := run_look_ok T h x0
  unfold Oper.wp
  simp [execOp, ho, hm, hx, hrun, Result.andThen]
  exact hK _ _ hk

theorem run_equalIn_map_nil' {P : Program} {w : World} (d : Nat) (t k e : TypeId) (p : Option Nat) (h : P.underlying t = some (.map k e)) :
    (Op.equalIn (d + 1) t (.map p) (.map none)).run P w = .ok p.isNone w := by
  cases p <;> simp [Op.equalIn, run_underlying h]
theorem run_eql_map_nil' {P : Program} {w : World} (t k e : TypeId) (p : Option Nat) (h : P.underlying t = some (.map k e)) :
    (binOp .eql t (.map p) (.map none)).run P w = .ok (.bool p.isNone) w := by
  simp only [binOp]
  simp [show Op.equal t (.map p) (.map none) = Op.equalIn (9999 + 1) t (.map p) (.map none) from rfl, run_equalIn_map_nil' 9999 t k e p h]
theorem run_typeAssert_map' {P : Program} {w : World} (t xT k e : TypeId) (v : Value) (h : P.underlying t = some (.map k e)) : (Instr.typeAssert (.iface t v) xT t false).run P w = .ok v w := by
  simp [Instr.typeAssert, run_underlying h, go_sem, Result.andThen]
theorem run_maps_clone' {P : Program} {w : World} {r : Nat} {es : Array MapEntry} {clock : Nat} (t : TypeId) (hb : w.heap[r]? = some (.map es clock)) :
    (Extern.MapsClone.clone #[.iface t (.map (some r))]).run P w = .ok (.iface t (.map (some w.heap.size))) (w.alloc (.map es clock)) := by
  have e : Extern.MapsClone.clone #[.iface t (.map (some r))] = (getObj r >>= fun o => match o with
      | .map entries clock => (newObj (.map entries clock) >>= fun n => pure (.iface t (.map (some n))))
      | _ => stuck "maps.clone: a map expected") := rfl
  rw [e]
  simp [MapKept.run_getObj_map hb, Result.andThen, go_sem]

def CloneR (bm : Nat) (L : List (Int × Value)) (w : World) (en : Ending) (w' : World) : Prop :=
  en = .returned (.map (some w.heap.size)) ∧ Below w.heap.size w w' ∧ w'.heap.size = w.heap.size + 1 ∧ MapAt w' w.heap.size L
set_option maxHeartbeats 1000000 in
theorem mclone_any (bm : Nat) (L : List (Int × Value)) (w : World) (h : MapAt w bm L) : Calls Tryz.prog 41 #[.map (some bm)] w (CloneR bm L w) := by
  obtain ⟨es, clock, hb, hs⟩ := h
  have hq := fun w => run_eql_map_nil' (P := Tryz.prog) (w := w) 89 _ _ (some bm) Tryz.underlying89
  go_enter Tryz.func41, Tryz.ntmps41
  go_wp2
  rw [run_callFunc_extern Tryz.func74 (by kernel_rfl) (by kernel_rfl) (by kernel_rfl) (e := Extern.MapsClone.clone) (by kernel_rfl), run_maps_clone' (w := w) 89 hb]
  simp only [Result.andThen]
  rw [Oper.upon_value]
  go_wp2
  rw [run_typeAssert_map' 89 _ _ _ _ Tryz.underlying89]
  simp only [Result.andThen]
  rw [Oper.upon_value]
  go_wp2
  go_ret
  exact ⟨rfl, by go_grown, by simp, ⟨es, clock, by show (w.heap.push _)[w.heap.size]? = _; simp, hs⟩⟩

/-- one apart -/
def CopyUR (A0 : Nat → Prop) (u : U) (w : World) (en : Ending) (w' : World) : Prop :=
  en = .returned (.pointer (some ⟨w.heap.size + 1, 0, none⟩)) ∧ Below w.heap.size w w' ∧ w'.heap.size = w.heap.size + 2 ∧
    ∀ A : Nat → Prop, (∀ k, A k → A0 k ∨ w.heap.size ≤ k) → A w.heap.size → A (w.heap.size + 1) → UnitAt A w' (w.heap.size + 1) w.heap.size u
theorem EntIs.weak {A A' : Nat → Prop} {w : World} {p : Int × Value} {q : Int × C} (h : EntIs A w p q) (hA : ∀ k, A' k → A k ∨ w.heap.size ≤ k) : EntIs A' w p q := by
  obtain ⟨h1, a, cap, h2, h3, h4⟩ := h
  refine ⟨h1, a, cap, h2, h3, fun x hx => ⟨fun hk => ?_, (h4 x hx).2⟩⟩
  rcases hA _ hk with h5 | h5
  · exact (h4 x hx).1 h5
  · have := (h4 x hx).2; omega
set_option maxHeartbeats 1000000 in
theorem ucopy_any {A : Nat → Prop} {bu bm : Nat} {u : U} (w : World) (h : UnitAt A w bu bm u) : Calls Tryz.prog 16 #[.pointer (some ⟨bu, 0, none⟩)] w (CopyUR A u w) := by
  obtain ⟨c0, c1, c2⟩ := h.cell
  have hlt := h.lt.1
  obtain ⟨L, hm, hL⟩ := h.map
  have H := Lib.hid' h
  have HM := Lib.hid' hm
  have HL := Lib.hid' hL
  clear h hm hL
  go_enter Tryz.func16, Tryz.ntmps16
  go_wp2_with fail
  refine wp_region_held_drew (S := (fun w' => w'.cell? ⟨bu, 0, none⟩ = some (.int .i64 u.e) ∧ w'.cell? ⟨bu, 1, none⟩ = some (.int .i64 u.l) ∧ w'.cell? ⟨bu, 2, none⟩ = some (.map (some bm)))) (by kernel_rfl) ⟨by simpa using c0, by simpa using c1, by simpa using c2⟩ (fun hH0 => ?_)
  refine wpAnyH_take (i := 0) (oi := _) (v := .pointer (some ⟨bu, 0, none⟩)) rfl (by kernel_rfl) (by kernel_rfl) (by kernel_rfl) (fun _ _ _ h => h) (Or.inl ⟨by rfl, ?_⟩) hH0 ?_
  · intro w hSw; go_simp
  simp only [Act.put, List.getElem_toArray, List.getElem_cons_zero, List.getElem_cons_succ, List.setIfInBounds_toArray, List.set_cons_zero, List.set_cons_succ]
  refine wpAnyH_take (i := 1) (oi := _) (v := .pointer (some ⟨bu, 0, none⟩)) rfl (by kernel_rfl) (by kernel_rfl) (by kernel_rfl) (fun _ _ _ h => h) (Or.inl ⟨by rfl, ?_⟩) hH0 ?_
  · intro w hSw; go_simp
  simp only [Act.put, List.getElem_toArray, List.getElem_cons_zero, List.getElem_cons_succ, List.setIfInBounds_toArray, List.set_cons_zero, List.set_cons_succ]
  refine wpAnyH_take (i := 2) (oi := _) (v := .pointer (some ⟨bu, 0, none⟩)) rfl (by kernel_rfl) (by kernel_rfl) (by kernel_rfl) (fun _ _ _ h => h) (Or.inl ⟨by rfl, ?_⟩) hH0 ?_
  · intro w hSw; go_simp
  simp only [Act.put, List.getElem_toArray, List.getElem_cons_zero, List.getElem_cons_succ, List.setIfInBounds_toArray, List.set_cons_zero, List.set_cons_succ]
  refine wpAnyH_take (i := 3) (oi := _) (v := .int .i64 u.e) rfl (by kernel_rfl) (by kernel_rfl) (by kernel_rfl) (fun _ _ _ h => h) (Or.inl ⟨by rfl, ?_⟩) hH0 ?_
  · intro w hSw; go_simp
  simp only [Act.put, List.getElem_toArray, List.getElem_cons_zero, List.getElem_cons_succ, List.setIfInBounds_toArray, List.set_cons_zero, List.set_cons_succ]
  refine wpAnyH_take (i := 4) (oi := _) (v := .pointer (some ⟨bu, 0, none⟩)) rfl (by kernel_rfl) (by kernel_rfl) (by kernel_rfl) (fun _ _ _ h => h) (Or.inl ⟨by rfl, ?_⟩) hH0 ?_
  · intro w hSw; go_simp
  simp only [Act.put, List.getElem_toArray, List.getElem_cons_zero, List.getElem_cons_succ, List.setIfInBounds_toArray, List.set_cons_zero, List.set_cons_succ]
  refine wpAnyH_take (i := 5) (oi := _) (v := .pointer (some ⟨bu, 0, none⟩)) rfl (by kernel_rfl) (by kernel_rfl) (by kernel_rfl) (fun _ _ _ h => h) (Or.inl ⟨by rfl, ?_⟩) hH0 ?_
  · intro w hSw; go_simp
  simp only [Act.put, List.getElem_toArray, List.getElem_cons_zero, List.getElem_cons_succ, List.setIfInBounds_toArray, List.set_cons_zero, List.set_cons_succ]
  refine wpAnyH_take (i := 6) (oi := _) (v := .pointer (some ⟨bu, 1, none⟩)) rfl (by kernel_rfl) (by kernel_rfl) (by kernel_rfl) (fun _ _ _ h => h) (Or.inl ⟨by rfl, ?_⟩) hH0 ?_
  · intro w hSw; go_simp
  simp only [Act.put, List.getElem_toArray, List.getElem_cons_zero, List.getElem_cons_succ, List.setIfInBounds_toArray, List.set_cons_zero, List.set_cons_succ]
  refine wpAnyH_take (i := 7) (oi := _) (v := .int .i64 u.l) rfl (by kernel_rfl) (by kernel_rfl) (by kernel_rfl) (fun _ _ _ h => h) (Or.inl ⟨by rfl, ?_⟩) hH0 ?_
  · intro w hSw; go_simp
  simp only [Act.put, List.getElem_toArray, List.getElem_cons_zero, List.getElem_cons_succ, List.setIfInBounds_toArray, List.set_cons_zero, List.set_cons_succ]
  refine wpAnyH_take (i := 8) (oi := _) (v := .pointer (some ⟨bu, 0, none⟩)) rfl (by kernel_rfl) (by kernel_rfl) (by kernel_rfl) (fun _ _ _ h => h) (Or.inl ⟨by rfl, ?_⟩) hH0 ?_
  · intro w hSw; go_simp
  simp only [Act.put, List.getElem_toArray, List.getElem_cons_zero, List.getElem_cons_succ, List.setIfInBounds_toArray, List.set_cons_zero, List.set_cons_succ]
  refine wpAnyH_take (i := 9) (oi := _) (v := .pointer (some ⟨bu, 0, none⟩)) rfl (by kernel_rfl) (by kernel_rfl) (by kernel_rfl) (fun _ _ _ h => h) (Or.inl ⟨by rfl, ?_⟩) hH0 ?_
  · intro w hSw; go_simp
  simp only [Act.put, List.getElem_toArray, List.getElem_cons_zero, List.getElem_cons_succ, List.setIfInBounds_toArray, List.set_cons_zero, List.set_cons_succ]
  refine wpAnyH_take (i := 10) (oi := _) (v := .pointer (some ⟨bu, 2, none⟩)) rfl (by kernel_rfl) (by kernel_rfl) (by kernel_rfl) (fun _ _ _ h => h) (Or.inl ⟨by rfl, ?_⟩) hH0 ?_
  · intro w hSw; go_simp
  simp only [Act.put, List.getElem_toArray, List.getElem_cons_zero, List.getElem_cons_succ, List.setIfInBounds_toArray, List.set_cons_zero, List.set_cons_succ]
  refine wpAnyH_take (i := 11) (oi := _) (v := .map (some bm)) rfl (by kernel_rfl) (by kernel_rfl) (by kernel_rfl) (fun _ _ _ h => h) (Or.inl ⟨by rfl, ?_⟩) hH0 ?_
  · intro w hSw; go_simp
  simp only [Act.put, List.getElem_toArray, List.getElem_cons_zero, List.getElem_cons_succ, List.setIfInBounds_toArray, List.set_cons_zero, List.set_cons_succ]
  refine wpAnyH_ready (rs := [12]) (by kernel_rfl) (by simp) (AllReadyH.cons (o := _) rfl (fun K hK => ?_) AllReadyH.nil)
  go_simp
  refine (mclone_any bm L w.drew (HM.out.block rfl)).mono ?_
  rintro en w2 ⟨rfl, hb2, hz2', hm2⟩
  have hz2 : w2.heap.size = w.heap.size + 1 := hz2'
  clear hz2'
  have HM2 := Lib.hid' (show MapAt w2 w.heap.size L from hm2)
  have HB2 := Lib.hid' (show Below w.heap.size w w2 from (Below.drew (Below.refl _ _)).trans hb2)
  have z0 := (HB2.out.cell (p := ⟨bu, 0, none⟩) hlt).trans c0
  have z1 := (HB2.out.cell (p := ⟨bu, 1, none⟩) hlt).trans c1
  have z2 := (HB2.out.cell (p := ⟨bu, 2, none⟩) hlt).trans c2
  have hlt2 : bu < w2.heap.size := by omega
  clear hm2 hb2
  refine hK.out _ _ ?_ (fun hH1 => ?_)
  · exact ⟨z0, z1, z2⟩
  clear hK K
  refine wpAnyH_take (i := 13) (oi := _) (v := .agg #[.int .i64 u.e, .int .i64 u.l, .map (some w.heap.size)]) rfl (by kernel_rfl) (by kernel_rfl) (by kernel_rfl) (fun _ _ _ h => h) (Or.inl ⟨by rfl, ?_⟩) hH1 ?_
  · intro w hSw; go_simp
  simp only [Act.put, List.getElem_toArray, List.getElem_cons_zero, List.getElem_cons_succ, List.setIfInBounds_toArray, List.set_cons_zero, List.set_cons_succ]
  refine wpAnyH_ready (rs := [14]) (by kernel_rfl) (by simp) (AllReadyH.cons (o := _) rfl (fun K hK => ?_) AllReadyH.nil)
  go_simp
  refine hK.out _ _ ?_ (fun hH2 => ?_)
  · refine ⟨?_, ?_, ?_⟩ <;> simp [go_sem, z0, z1, z2, hlt2]
  clear hK K
  refine wpAnyH_take (i := 15) (oi := _) (v := .pointer (some ⟨w2.heap.size, 0, none⟩)) rfl (by kernel_rfl) (by kernel_rfl) (by kernel_rfl) (fun _ _ _ h => h) (Or.inl ⟨by rfl, ?_⟩) hH2 ?_
  · intro w hSw; go_simp
  simp only [Act.put, List.getElem_toArray, List.getElem_cons_zero, List.getElem_cons_succ, List.setIfInBounds_toArray, List.set_cons_zero, List.set_cons_succ]
  refine wpAnyH_done (by kernel_rfl) ?_ _
  go_wp2
  go_ret
  rw [hz2]
  refine ⟨rfl, ?_, by simp [hz2], fun A' hA h1 h2 => ?_⟩
  · exact HB2.out.trans ((show Below w2.heap.size w2 _ by go_grown).mono (by omega))
  · have hblk := heap_alloc2_new
    refine ⟨?_, ⟨L, HM2.out.block (Below.heap_alloc _ _ _ (by omega)), ?_⟩, H.out.ok, h2, h1⟩
    · rw [← hz2]; show (w2.heap.push _)[w2.heap.size]? = _; simp
    · refine HL.out.mono fun q r _ _ hqr => (hqr.weak hA).fr (F := fun k => False) (Fr.of_below ?_) (fun _ h => h.elim)
      exact HB2.out.trans ((show Below w2.heap.size w2 _ by go_grown).mono (by omega))

theorem F2.look {A : Nat → Prop} {w : World} {L : List (Int × Value)} {M : List (Int × C)} (h2 : F2 (EntIs A w) L M) (a : Int) :
    ∃ ad cap, (lookE L a).getD zCell = .agg #[.int .i64 (lookC M a).k, .slice ad (lookC M a).d.length cap] ∧ Bytes w (.slice ad (lookC M a).d.length cap) (lookC M a).d ∧ L.any (·.1 == a) = M.any (·.1 == a) := by
  have hany : L.any (·.1 == a) = M.any (·.1 == a) := h2.any (fun p q h => by rw [h.1])
  rcases h2.find (f := fun p => p.1 == a) (g := fun p => p.1 == a) (fun p q h => by rw [h.1]) with ⟨e1, e2⟩ | ⟨p, q, e1, e2, hr⟩
  · refine ⟨none, 0, ?_, ?_, hany⟩
    · simp [lookE, lookC, e1, e2, zCell]
    · simp only [lookC, e2]; exact SlV.empty _ _ _ (Nat.zero_le _) (fun _ => rfl)
  · obtain ⟨_, ad, cap, hv, hb, _⟩ := hr
    refine ⟨ad, cap, ?_, ?_, hany⟩
    · simp [lookE, lookC, e1, e2, hv]
    · simp only [lookC, e2]; exact hb
/-- a key has the same cell in both -/
def keyOk (M1 M2 : List (Int × C)) (a : Int) : Bool := M2.any (·.1 == a) && decide (lookC M1 a = lookC M2 a)
def eqF (M1 M2 : List (Int × C)) : Bool := M1.length == M2.length && M1.all (fun p => M2.any (·.1 == p.1) && decide (p.2 = lookC M2 p.1))
theorem eqF_of {M1 M2 : List (Int × C)} (hn : (M1.map (·.1)).Nodup) (hl : M1.length = M2.length) : eqF M1 M2 = M1.all (fun p => keyOk M1 M2 p.1) := by
  unfold eqF
  rw [hl, beq_self_eq_true, Bool.true_and]
  rw [Bool.eq_iff_iff, List.all_eq_true, List.all_eq_true]
  constructor
  · intro h p hp
    have := h p hp
    unfold keyOk
    rw [lookC_of_mem hn hp]; exact this
  · intro h p hp
    have := h p hp
    unfold keyOk at this
    rw [lookC_of_mem hn hp] at this; exact this
set_option maxHeartbeats 2000000 in
theorem equalF_any {A1 A2 : Nat → Prop} {b1 b2 : Nat} {M1 M2 : List (Int × C)} (w : World) (h1 : CellsAt A1 w b1 M1) (h2 : CellsAt A2 w b2 M2) (hl1 : M1.length ≤ 4194304) (hl2 : M2.length ≤ 4194304) :
    Calls Tryz.prog 39 #[.map (some b1), .map (some b2), .func (.func 40) #[] #[]] w fun en w' => en = .returned (.bool (eqF M1 M2)) ∧ Below w.heap.size w w' := by
  obtain ⟨L1, hm1, hr1⟩ := h1
  obtain ⟨L2, hm2, hr2⟩ := h2
  have e1 := hr1.length
  have e2 := hr2.length
  have hn1 : (M1.map (·.1)).Nodup := by rw [← hr1.keys]; exact hm1.nodup
  have hbd1 := hm1.lt
  have hbd2 := hm2.lt
  have HM1 := Lib.hid' hm1; have HM2 := Lib.hid' hm2; have HR1 := Lib.hid' hr1; have HR2 := Lib.hid' hr2
  clear hm1 hm2 hr1 hr2
  by_cases hlen : M1.length = M2.length
  rotate_left
  · have Hf := Lib.hid' (show eqF M1 M2 = false by simp [eqF, hlen])
    have hd : ((L1.length : Int) != (L2.length : Int)) = true := by rw [bne_iff_ne]; omega
    clear hlen e1 e2 hn1
    go_enter Tryz.func39, Tryz.ntmps39
    go_wp2_with (at_len; first | (refine wp_len mtCells rfl (.tmp 11) rfl rfl HM1.out ?_) | (refine wp_len mtCells rfl (.tmp 13) rfl rfl HM2.out ?_))
    go_ret
    exact ⟨ret_eq (by rw [Hf.out]; rfl), Below.refl _ _⟩
  have Hf := Lib.hid' (eqF_of hn1 hlen)
  have hd : ((L1.length : Int) != (L2.length : Int)) = false := by simp; omega
  have HN1 := Lib.hid' hn1
  clear hlen hn1 e1 e2 hl1 hl2
  go_enter Tryz.func39, Tryz.ntmps39
  go_wp2_with (first | (at_len; first | (refine wp_len mtCells rfl (.tmp 11) rfl rfl HM1.out ?_) | (refine wp_len mtCells rfl (.tmp 13) rfl rfl HM2.out ?_)) | (at_range; refine wp_range mtCells rfl (.tmp 16) rfl rfl HM1.out ?_; intro w1 hi hb1 hz1))
  have Hi := Lib.hid' hi
  have Hb1 := Lib.hid' hb1
  clear hi hb1 hz1 hd
  go_frame
  go_loopw [7] (fun _ wr => ∃ left last, IterAt wr w.heap.size b1 L1 left last ∧ left.Sublist L1 ∧ (∀ q ∈ M1, keyOk M1 M2 q.1 = true ∨ q.1 ∈ left.map (·.1)) ∧ Below w.heap.size w wr) (fun _ wr => iterLeft wr w.heap.size)
  case atStart => exact ⟨L1, none, Hi.out, List.Sublist.refl _, fun q hq => .inr (by rw [HR1.out.keys]; exact List.mem_map_of_mem hq), Hb1.out⟩
  case round =>
    obtain ⟨left, last, hit, hsub, hok, hbw⟩ := hrel
    have Hsub := Lib.hid' hsub
    have Hok := Lib.hid' hok
    have Hbw := Lib.hid' hbw
    have Hcnt := Lib.hid' hit.left_eq
    have hlt := hit.lt
    clear hsub hok hbw
    go_wp2_with (refine wp_next rfl (.tmp 17) rfl rfl hit ?_ ?_)
    · intro hl w' hb hh
      have Hl := Lib.hid' hl
      have Hbb := Lib.hid' hb
      clear hl hb hh hlt hit
      have Hall := Lib.hid' (show M1.all (fun p => keyOk M1 M2 p.1) = true by
        rw [List.all_eq_true]
        intro q hq
        rcases Hok.out q hq with h | h
        · exact h
        · rw [Hl.out] at h; simp at h)
      go_wp2
      go_ret
      exact ⟨ret_eq (by rw [Hf.out, Hall.out]; rfl), Hbw.out.trans (Hbb.out.mono Hbw.out.size)⟩
    · intro w2 x v pre post hl hit2 hf2
      have Hl := Lib.hid' hl
      have hxm : (x, v) ∈ L1 := Hsub.out.mem (by rw [hl]; simp)
      obtain ⟨q, hq, hqe, ad, cap, hqv, hqb, hqA⟩ := HR1.out.mem_left hxm
      simp only at hqe hqv
      subst hqe
      obtain ⟨x, c⟩ := q
      simp only at *
      have hlc := lookC_of_mem HN1.out hq
      simp only at hlc
      have HLC := Lib.hid' hlc
      have HQ := Lib.hid' hq
      have hb2u : Below w.heap.size w w2 := Hbw.out.trans (hf2.below (by omega) (by intro k hk; omega))
      have HB2 := Lib.hid' hb2u
      have HQB := Lib.hid' hqb
      obtain ⟨ad3, cap3, hv3, hb3, ha3⟩ := F2.look HR2.out x
      have HV3 := Lib.hid' hv3
      have HB3 := Lib.hid' hb3
      have HA3 := Lib.hid' ha3
      have HM3 := Lib.hid' (HM2.out.block (HB2.out.block b2 hbd2))
      have Hf2 := Lib.hid' hf2
      clear hl hf2 hit hv3 hb3 ha3 hqb hq hlc hxm hqA
      have hz2 := HB2.out.size
      cases hy : M2.any (·.1 == x) with
      | false =>
        have Hall := Lib.hid' (show M1.all (fun p => keyOk M1 M2 p.1) = false by
          rw [List.all_eq_false]
          exact ⟨_, HQ.out, by simp [keyOk, hy]⟩)
        have HY := Lib.hid' hy
        clear hy
        go_wp2_with (first | (refine wp_entry rfl (.tmp 17) rfl rfl hit2 ?_) | (at_lookup; refine wp_look_ok mtCells rfl (.tmp 24) (.tmp 25) rfl rfl x rfl (HM3.out.block (Below.heap_alloc _ _ _ HM3.out.lt)) ?_; rw [HV3.out, HA3.out, HY.out]))
        go_ret
        exact ⟨ret_eq (by rw [Hf.out, Hall.out]; rfl), by go_grown⟩
      | true =>
        have HY := Lib.hid' hy
        clear hy
        go_wp2_with (first | (refine wp_entry rfl (.tmp 17) rfl rfl hit2 ?_) | (at_lookup; refine wp_look_ok mtCells rfl (.tmp 24) (.tmp 25) rfl rfl x rfl (HM3.out.block (Below.heap_alloc _ _ _ HM3.out.lt)) ?_; rw [HV3.out, HA3.out, HY.out]) | (go_at_call 40; refine (same_any _ _ c (lookC M2 x) _ ⟨ad, cap, rfl, SlV.below HQB.out (Nat.le_refl _) (by go_grown)⟩ ⟨ad3, cap3, rfl, SlV.below HB3.out (Nat.le_refl _) (by go_grown)⟩).mono ?_; rintro en w5 ⟨rfl, hb5⟩; have HB5 := Lib.hid' (below_call (B := w.heap.size) (w := w) (by go_grown) (by go_size) hb5); have HBx := Lib.hid' (below_call (B := w2.heap.size) (w := w2) (by go_grown) (by go_size) hb5); clear hb5; obtain ⟨bb, hbb⟩ : ∃ bb, decide (c = lookC M2 x) = bb := ⟨_, rfl⟩; rw [hbb]; cases bb))
        · have Hall := Lib.hid' (show M1.all (fun p => keyOk M1 M2 p.1) = false by
            rw [List.all_eq_false]
            exact ⟨_, HQ.out, by simp only [keyOk, HY.out, HLC.out, hbb]; decide⟩)
          go_ret
          exact ⟨ret_eq (by rw [Hf.out, Hall.out]; rfl), HB5.out⟩
        · have hkx : keyOk M1 M2 x = true := by simp only [keyOk, HY.out, HLC.out, hbb]; decide
          refine ⟨⟨pre ++ post, some (x, v), hit2.blocks (HBx.out.block b1 (by omega)) (HBx.out.block w.heap.size (by have := hit2.lt; omega)), ?_, ?_, HB5.out⟩, ?_⟩
          · exact List.Sublist.trans (by rw [Hl.out]; simp) Hsub.out
          · intro q hq
            rcases Hok.out q hq with h | h
            · exact .inl h
            · rw [Hl.out] at h
              simp only [List.map_append, List.map_cons, List.mem_append, List.mem_cons] at h
              rcases h with h | h | h
              · exact .inr (by rw [List.map_append, List.mem_append]; exact .inl h)
              · left; rw [h]; exact hkx
              · exact .inr (by rw [List.map_append, List.mem_append]; exact .inr h)
          · have hit5 : IterAt w5 w.heap.size b1 L1 (pre ++ post) (some (x, v)) := hit2.blocks (HBx.out.block b1 (by omega)) (HBx.out.block w.heap.size (by have := hit2.lt; omega))
            rw [Hcnt.out, hit5.left_eq, Hl.out]; simp

theorem sameB_eq (u v : U) : sameB u v = ((u.e == v.e) && ((u.l == v.l) && eqF u.cells v.cells)) := by
  unfold sameB eqF
  rw [Bool.and_assoc]
set_option maxHeartbeats 2000000 in
theorem usame_any {A1 A2 : Nat → Prop} {b1 m1 b2 m2 : Nat} {u v : U} (w : World) (h1 : UnitAt A1 w b1 m1 u) (h2 : UnitAt A2 w b2 m2 v) (hl1 : u.cells.length ≤ 4194304) (hl2 : v.cells.length ≤ 4194304) :
    Calls Tryz.prog 15 #[.pointer (some ⟨b1, 0, none⟩), .pointer (some ⟨b2, 0, none⟩)] w fun en w' => en = .returned (.bool (sameB u v)) ∧ Below w.heap.size w w' := by
  obtain ⟨c0, c1, c2⟩ := h1.cell
  obtain ⟨d0, d1, d2⟩ := h2.cell
  have H1 := Lib.hid' h1.map
  have H2 := Lib.hid' h2.map
  have Hs := Lib.hid' (sameB_eq u v)
  have hlt1 := h1.lt.1
  have hlt2 := h2.lt.1
  clear h1 h2
  cases he : (u.e == v.e)
  · have HE := Lib.hid' he
    go_enter Tryz.func15, Tryz.ntmps15
    go_wp2_with fail
    refine wp_region_held_drew (S := (fun w' => w'.cell? ⟨b1, 0, none⟩ = some (.int .i64 u.e) ∧ w'.cell? ⟨b1, 1, none⟩ = some (.int .i64 u.l) ∧ w'.cell? ⟨b1, 2, none⟩ = some (.map (some m1)) ∧ w'.cell? ⟨b2, 0, none⟩ = some (.int .i64 v.e) ∧ w'.cell? ⟨b2, 1, none⟩ = some (.int .i64 v.l) ∧ w'.cell? ⟨b2, 2, none⟩ = some (.map (some m2)))) (by kernel_rfl) ⟨by simpa using c0, by simpa using c1, by simpa using c2, by simpa using d0, by simpa using d1, by simpa using d2⟩ (fun hH0 => ?_)
    refine wpAnyH_take (i := 0) (oi := _) (v := .pointer (some ⟨b1, 0, none⟩)) rfl (by kernel_rfl) (by kernel_rfl) (by kernel_rfl) (fun _ _ _ h => h) (Or.inl ⟨by rfl, ?_⟩) hH0 ?_
    · intro w hSw; go_simp
    simp only [Act.put, List.getElem_toArray, List.getElem_cons_zero, List.getElem_cons_succ, List.setIfInBounds_toArray, List.set_cons_zero, List.set_cons_succ]
    refine wpAnyH_take (i := 1) (oi := _) (v := .pointer (some ⟨b1, 0, none⟩)) rfl (by kernel_rfl) (by kernel_rfl) (by kernel_rfl) (fun _ _ _ h => h) (Or.inl ⟨by rfl, ?_⟩) hH0 ?_
    · intro w hSw; go_simp
    simp only [Act.put, List.getElem_toArray, List.getElem_cons_zero, List.getElem_cons_succ, List.setIfInBounds_toArray, List.set_cons_zero, List.set_cons_succ]
    refine wpAnyH_take (i := 2) (oi := _) (v := .pointer (some ⟨b1, 0, none⟩)) rfl (by kernel_rfl) (by kernel_rfl) (by kernel_rfl) (fun _ _ _ h => h) (Or.inl ⟨by rfl, ?_⟩) hH0 ?_
    · intro w hSw; go_simp
    simp only [Act.put, List.getElem_toArray, List.getElem_cons_zero, List.getElem_cons_succ, List.setIfInBounds_toArray, List.set_cons_zero, List.set_cons_succ]
    refine wpAnyH_take (i := 3) (oi := _) (v := .int .i64 u.e) rfl (by kernel_rfl) (by kernel_rfl) (by kernel_rfl) (fun _ _ _ h => h) (Or.inl ⟨by rfl, ?_⟩) hH0 ?_
    · intro w hSw; go_simp
    simp only [Act.put, List.getElem_toArray, List.getElem_cons_zero, List.getElem_cons_succ, List.setIfInBounds_toArray, List.set_cons_zero, List.set_cons_succ]
    refine wpAnyH_take (i := 4) (oi := _) (v := .pointer (some ⟨b2, 0, none⟩)) rfl (by kernel_rfl) (by kernel_rfl) (by kernel_rfl) (fun _ _ _ h => h) (Or.inl ⟨by rfl, ?_⟩) hH0 ?_
    · intro w hSw; go_simp
    simp only [Act.put, List.getElem_toArray, List.getElem_cons_zero, List.getElem_cons_succ, List.setIfInBounds_toArray, List.set_cons_zero, List.set_cons_succ]
    refine wpAnyH_take (i := 5) (oi := _) (v := .pointer (some ⟨b2, 0, none⟩)) rfl (by kernel_rfl) (by kernel_rfl) (by kernel_rfl) (fun _ _ _ h => h) (Or.inl ⟨by rfl, ?_⟩) hH0 ?_
    · intro w hSw; go_simp
    simp only [Act.put, List.getElem_toArray, List.getElem_cons_zero, List.getElem_cons_succ, List.setIfInBounds_toArray, List.set_cons_zero, List.set_cons_succ]
    refine wpAnyH_take (i := 6) (oi := _) (v := .pointer (some ⟨b2, 0, none⟩)) rfl (by kernel_rfl) (by kernel_rfl) (by kernel_rfl) (fun _ _ _ h => h) (Or.inl ⟨by rfl, ?_⟩) hH0 ?_
    · intro w hSw; go_simp
    simp only [Act.put, List.getElem_toArray, List.getElem_cons_zero, List.getElem_cons_succ, List.setIfInBounds_toArray, List.set_cons_zero, List.set_cons_succ]
    refine wpAnyH_take (i := 7) (oi := _) (v := .int .i64 v.e) rfl (by kernel_rfl) (by kernel_rfl) (by kernel_rfl) (fun _ _ _ h => h) (Or.inl ⟨by rfl, ?_⟩) hH0 ?_
    · intro w hSw; go_simp
    simp only [Act.put, List.getElem_toArray, List.getElem_cons_zero, List.getElem_cons_succ, List.setIfInBounds_toArray, List.set_cons_zero, List.set_cons_succ]
    refine wpAnyH_take (i := 8) (oi := _) (v := .bool false) rfl (by kernel_rfl) (by kernel_rfl) (by kernel_rfl) (fun _ _ _ h => h) (Or.inl ⟨by rfl, ?_⟩) hH0 ?_
    · intro w hSw; go_simp
    simp only [Act.put, List.getElem_toArray, List.getElem_cons_zero, List.getElem_cons_succ, List.setIfInBounds_toArray, List.set_cons_zero, List.set_cons_succ]
    refine wpAnyH_take (i := 9) (oi := _) (v := .bool false) rfl (by kernel_rfl) (by kernel_rfl) (by kernel_rfl) (fun _ _ _ h => h) (Or.inl ⟨by rfl, ?_⟩) hH0 ?_
    · intro w hSw; go_simp
    simp only [Act.put, List.getElem_toArray, List.getElem_cons_zero, List.getElem_cons_succ, List.setIfInBounds_toArray, List.set_cons_zero, List.set_cons_succ]
    refine wpAnyH_take (i := 10) (oi := _) (v := undef) rfl (by kernel_rfl) (by kernel_rfl) (by kernel_rfl) (fun _ _ _ h => h) (Or.inr ⟨by kernel_rfl, rfl⟩) hH0 ?_
    simp only [Act.put, List.getElem_toArray, List.getElem_cons_zero, List.getElem_cons_succ, List.setIfInBounds_toArray, List.set_cons_zero, List.set_cons_succ]
    refine wpAnyH_take (i := 11) (oi := _) (v := undef) rfl (by kernel_rfl) (by kernel_rfl) (by kernel_rfl) (fun _ _ _ h => h) (Or.inr ⟨by kernel_rfl, rfl⟩) hH0 ?_
    simp only [Act.put, List.getElem_toArray, List.getElem_cons_zero, List.getElem_cons_succ, List.setIfInBounds_toArray, List.set_cons_zero, List.set_cons_succ]
    refine wpAnyH_take (i := 12) (oi := _) (v := undef) rfl (by kernel_rfl) (by kernel_rfl) (by kernel_rfl) (fun _ _ _ h => h) (Or.inr ⟨by kernel_rfl, rfl⟩) hH0 ?_
    simp only [Act.put, List.getElem_toArray, List.getElem_cons_zero, List.getElem_cons_succ, List.setIfInBounds_toArray, List.set_cons_zero, List.set_cons_succ]
    refine wpAnyH_take (i := 13) (oi := _) (v := undef) rfl (by kernel_rfl) (by kernel_rfl) (by kernel_rfl) (fun _ _ _ h => h) (Or.inr ⟨by kernel_rfl, rfl⟩) hH0 ?_
    simp only [Act.put, List.getElem_toArray, List.getElem_cons_zero, List.getElem_cons_succ, List.setIfInBounds_toArray, List.set_cons_zero, List.set_cons_succ]
    refine wpAnyH_take (i := 14) (oi := _) (v := undef) rfl (by kernel_rfl) (by kernel_rfl) (by kernel_rfl) (fun _ _ _ h => h) (Or.inr ⟨by kernel_rfl, rfl⟩) hH0 ?_
    simp only [Act.put, List.getElem_toArray, List.getElem_cons_zero, List.getElem_cons_succ, List.setIfInBounds_toArray, List.set_cons_zero, List.set_cons_succ]
    refine wpAnyH_take (i := 15) (oi := _) (v := undef) rfl (by kernel_rfl) (by kernel_rfl) (by kernel_rfl) (fun _ _ _ h => h) (Or.inr ⟨by kernel_rfl, rfl⟩) hH0 ?_
    simp only [Act.put, List.getElem_toArray, List.getElem_cons_zero, List.getElem_cons_succ, List.setIfInBounds_toArray, List.set_cons_zero, List.set_cons_succ]
    refine wpAnyH_take (i := 16) (oi := _) (v := undef) rfl (by kernel_rfl) (by kernel_rfl) (by kernel_rfl) (fun _ _ _ h => h) (Or.inr ⟨by kernel_rfl, rfl⟩) hH0 ?_
    simp only [Act.put, List.getElem_toArray, List.getElem_cons_zero, List.getElem_cons_succ, List.setIfInBounds_toArray, List.set_cons_zero, List.set_cons_succ]
    refine wpAnyH_take (i := 17) (oi := _) (v := undef) rfl (by kernel_rfl) (by kernel_rfl) (by kernel_rfl) (fun _ _ _ h => h) (Or.inr ⟨by kernel_rfl, rfl⟩) hH0 ?_
    simp only [Act.put, List.getElem_toArray, List.getElem_cons_zero, List.getElem_cons_succ, List.setIfInBounds_toArray, List.set_cons_zero, List.set_cons_succ]
    refine wpAnyH_take (i := 18) (oi := _) (v := undef) rfl (by kernel_rfl) (by kernel_rfl) (by kernel_rfl) (fun _ _ _ h => h) (Or.inr ⟨by kernel_rfl, rfl⟩) hH0 ?_
    simp only [Act.put, List.getElem_toArray, List.getElem_cons_zero, List.getElem_cons_succ, List.setIfInBounds_toArray, List.set_cons_zero, List.set_cons_succ]
    refine wpAnyH_take (i := 19) (oi := _) (v := .bool false) rfl (by kernel_rfl) (by kernel_rfl) (by kernel_rfl) (fun _ _ _ h => h) (Or.inl ⟨by rfl, ?_⟩) hH0 ?_
    · intro w hSw; go_simp
    simp only [Act.put, List.getElem_toArray, List.getElem_cons_zero, List.getElem_cons_succ, List.setIfInBounds_toArray, List.set_cons_zero, List.set_cons_succ]
    refine wpAnyH_take (i := 20) (oi := _) (v := .bool false) rfl (by kernel_rfl) (by kernel_rfl) (by kernel_rfl) (fun _ _ _ h => h) (Or.inl ⟨by rfl, ?_⟩) hH0 ?_
    · intro w hSw; go_simp
    simp only [Act.put, List.getElem_toArray, List.getElem_cons_zero, List.getElem_cons_succ, List.setIfInBounds_toArray, List.set_cons_zero, List.set_cons_succ]
    refine wpAnyH_take (i := 21) (oi := _) (v := undef) rfl (by kernel_rfl) (by kernel_rfl) (by kernel_rfl) (fun _ _ _ h => h) (Or.inr ⟨by kernel_rfl, rfl⟩) hH0 ?_
    simp only [Act.put, List.getElem_toArray, List.getElem_cons_zero, List.getElem_cons_succ, List.setIfInBounds_toArray, List.set_cons_zero, List.set_cons_succ]
    refine wpAnyH_take (i := 22) (oi := _) (v := undef) rfl (by kernel_rfl) (by kernel_rfl) (by kernel_rfl) (fun _ _ _ h => h) (Or.inr ⟨by kernel_rfl, rfl⟩) hH0 ?_
    simp only [Act.put, List.getElem_toArray, List.getElem_cons_zero, List.getElem_cons_succ, List.setIfInBounds_toArray, List.set_cons_zero, List.set_cons_succ]
    refine wpAnyH_take (i := 23) (oi := _) (v := undef) rfl (by kernel_rfl) (by kernel_rfl) (by kernel_rfl) (fun _ _ _ h => h) (Or.inr ⟨by kernel_rfl, rfl⟩) hH0 ?_
    simp only [Act.put, List.getElem_toArray, List.getElem_cons_zero, List.getElem_cons_succ, List.setIfInBounds_toArray, List.set_cons_zero, List.set_cons_succ]
    refine wpAnyH_take (i := 24) (oi := _) (v := undef) rfl (by kernel_rfl) (by kernel_rfl) (by kernel_rfl) (fun _ _ _ h => h) (Or.inr ⟨by kernel_rfl, rfl⟩) hH0 ?_
    simp only [Act.put, List.getElem_toArray, List.getElem_cons_zero, List.getElem_cons_succ, List.setIfInBounds_toArray, List.set_cons_zero, List.set_cons_succ]
    refine wpAnyH_take (i := 25) (oi := _) (v := undef) rfl (by kernel_rfl) (by kernel_rfl) (by kernel_rfl) (fun _ _ _ h => h) (Or.inr ⟨by kernel_rfl, rfl⟩) hH0 ?_
    simp only [Act.put, List.getElem_toArray, List.getElem_cons_zero, List.getElem_cons_succ, List.setIfInBounds_toArray, List.set_cons_zero, List.set_cons_succ]
    refine wpAnyH_take (i := 26) (oi := _) (v := undef) rfl (by kernel_rfl) (by kernel_rfl) (by kernel_rfl) (fun _ _ _ h => h) (Or.inr ⟨by kernel_rfl, rfl⟩) hH0 ?_
    simp only [Act.put, List.getElem_toArray, List.getElem_cons_zero, List.getElem_cons_succ, List.setIfInBounds_toArray, List.set_cons_zero, List.set_cons_succ]
    refine wpAnyH_take (i := 27) (oi := _) (v := undef) rfl (by kernel_rfl) (by kernel_rfl) (by kernel_rfl) (fun _ _ _ h => h) (Or.inr ⟨by kernel_rfl, rfl⟩) hH0 ?_
    simp only [Act.put, List.getElem_toArray, List.getElem_cons_zero, List.getElem_cons_succ, List.setIfInBounds_toArray, List.set_cons_zero, List.set_cons_succ]
    refine wpAnyH_take (i := 28) (oi := _) (v := undef) rfl (by kernel_rfl) (by kernel_rfl) (by kernel_rfl) (fun _ _ _ h => h) (Or.inr ⟨by kernel_rfl, rfl⟩) hH0 ?_
    simp only [Act.put, List.getElem_toArray, List.getElem_cons_zero, List.getElem_cons_succ, List.setIfInBounds_toArray, List.set_cons_zero, List.set_cons_succ]
    refine wpAnyH_take (i := 29) (oi := _) (v := undef) rfl (by kernel_rfl) (by kernel_rfl) (by kernel_rfl) (fun _ _ _ h => h) (Or.inr ⟨by kernel_rfl, rfl⟩) hH0 ?_
    simp only [Act.put, List.getElem_toArray, List.getElem_cons_zero, List.getElem_cons_succ, List.setIfInBounds_toArray, List.set_cons_zero, List.set_cons_succ]
    refine wpAnyH_take (i := 30) (oi := _) (v := .bool false) rfl (by kernel_rfl) (by kernel_rfl) (by kernel_rfl) (fun _ _ _ h => h) (Or.inl ⟨by rfl, ?_⟩) hH0 ?_
    · intro w hSw; go_simp
    simp only [Act.put, List.getElem_toArray, List.getElem_cons_zero, List.getElem_cons_succ, List.setIfInBounds_toArray, List.set_cons_zero, List.set_cons_succ]
    refine wpAnyH_take (i := 31) (oi := _) (v := .bool false) rfl (by kernel_rfl) (by kernel_rfl) (by kernel_rfl) (fun _ _ _ h => h) (Or.inl ⟨by rfl, ?_⟩) hH0 ?_
    · intro w hSw; go_simp
    simp only [Act.put, List.getElem_toArray, List.getElem_cons_zero, List.getElem_cons_succ, List.setIfInBounds_toArray, List.set_cons_zero, List.set_cons_succ]
    refine wpAnyH_done (by kernel_rfl) ?_ _
    go_wp2
    go_ret
    exact ⟨ret_eq (by rw [Hs.out, HE.out]; rfl), by go_grown⟩
  have HE := Lib.hid' he
  cases hl : (u.l == v.l)
  · have HL := Lib.hid' hl
    go_enter Tryz.func15, Tryz.ntmps15
    go_wp2_with fail
    refine wp_region_held_drew (S := (fun w' => w'.cell? ⟨b1, 0, none⟩ = some (.int .i64 u.e) ∧ w'.cell? ⟨b1, 1, none⟩ = some (.int .i64 u.l) ∧ w'.cell? ⟨b1, 2, none⟩ = some (.map (some m1)) ∧ w'.cell? ⟨b2, 0, none⟩ = some (.int .i64 v.e) ∧ w'.cell? ⟨b2, 1, none⟩ = some (.int .i64 v.l) ∧ w'.cell? ⟨b2, 2, none⟩ = some (.map (some m2)))) (by kernel_rfl) ⟨by simpa using c0, by simpa using c1, by simpa using c2, by simpa using d0, by simpa using d1, by simpa using d2⟩ (fun hH0 => ?_)
    refine wpAnyH_take (i := 0) (oi := _) (v := .pointer (some ⟨b1, 0, none⟩)) rfl (by kernel_rfl) (by kernel_rfl) (by kernel_rfl) (fun _ _ _ h => h) (Or.inl ⟨by rfl, ?_⟩) hH0 ?_
    · intro w hSw; go_simp
    simp only [Act.put, List.getElem_toArray, List.getElem_cons_zero, List.getElem_cons_succ, List.setIfInBounds_toArray, List.set_cons_zero, List.set_cons_succ]
    refine wpAnyH_take (i := 1) (oi := _) (v := .pointer (some ⟨b1, 0, none⟩)) rfl (by kernel_rfl) (by kernel_rfl) (by kernel_rfl) (fun _ _ _ h => h) (Or.inl ⟨by rfl, ?_⟩) hH0 ?_
    · intro w hSw; go_simp
    simp only [Act.put, List.getElem_toArray, List.getElem_cons_zero, List.getElem_cons_succ, List.setIfInBounds_toArray, List.set_cons_zero, List.set_cons_succ]
    refine wpAnyH_take (i := 2) (oi := _) (v := .pointer (some ⟨b1, 0, none⟩)) rfl (by kernel_rfl) (by kernel_rfl) (by kernel_rfl) (fun _ _ _ h => h) (Or.inl ⟨by rfl, ?_⟩) hH0 ?_
    · intro w hSw; go_simp
    simp only [Act.put, List.getElem_toArray, List.getElem_cons_zero, List.getElem_cons_succ, List.setIfInBounds_toArray, List.set_cons_zero, List.set_cons_succ]
    refine wpAnyH_take (i := 3) (oi := _) (v := .int .i64 u.e) rfl (by kernel_rfl) (by kernel_rfl) (by kernel_rfl) (fun _ _ _ h => h) (Or.inl ⟨by rfl, ?_⟩) hH0 ?_
    · intro w hSw; go_simp
    simp only [Act.put, List.getElem_toArray, List.getElem_cons_zero, List.getElem_cons_succ, List.setIfInBounds_toArray, List.set_cons_zero, List.set_cons_succ]
    refine wpAnyH_take (i := 4) (oi := _) (v := .pointer (some ⟨b2, 0, none⟩)) rfl (by kernel_rfl) (by kernel_rfl) (by kernel_rfl) (fun _ _ _ h => h) (Or.inl ⟨by rfl, ?_⟩) hH0 ?_
    · intro w hSw; go_simp
    simp only [Act.put, List.getElem_toArray, List.getElem_cons_zero, List.getElem_cons_succ, List.setIfInBounds_toArray, List.set_cons_zero, List.set_cons_succ]
    refine wpAnyH_take (i := 5) (oi := _) (v := .pointer (some ⟨b2, 0, none⟩)) rfl (by kernel_rfl) (by kernel_rfl) (by kernel_rfl) (fun _ _ _ h => h) (Or.inl ⟨by rfl, ?_⟩) hH0 ?_
    · intro w hSw; go_simp
    simp only [Act.put, List.getElem_toArray, List.getElem_cons_zero, List.getElem_cons_succ, List.setIfInBounds_toArray, List.set_cons_zero, List.set_cons_succ]
    refine wpAnyH_take (i := 6) (oi := _) (v := .pointer (some ⟨b2, 0, none⟩)) rfl (by kernel_rfl) (by kernel_rfl) (by kernel_rfl) (fun _ _ _ h => h) (Or.inl ⟨by rfl, ?_⟩) hH0 ?_
    · intro w hSw; go_simp
    simp only [Act.put, List.getElem_toArray, List.getElem_cons_zero, List.getElem_cons_succ, List.setIfInBounds_toArray, List.set_cons_zero, List.set_cons_succ]
    refine wpAnyH_take (i := 7) (oi := _) (v := .int .i64 v.e) rfl (by kernel_rfl) (by kernel_rfl) (by kernel_rfl) (fun _ _ _ h => h) (Or.inl ⟨by rfl, ?_⟩) hH0 ?_
    · intro w hSw; go_simp
    simp only [Act.put, List.getElem_toArray, List.getElem_cons_zero, List.getElem_cons_succ, List.setIfInBounds_toArray, List.set_cons_zero, List.set_cons_succ]
    refine wpAnyH_take (i := 8) (oi := _) (v := .bool true) rfl (by kernel_rfl) (by kernel_rfl) (by kernel_rfl) (fun _ _ _ h => h) (Or.inl ⟨by rfl, ?_⟩) hH0 ?_
    · intro w hSw; go_simp
    simp only [Act.put, List.getElem_toArray, List.getElem_cons_zero, List.getElem_cons_succ, List.setIfInBounds_toArray, List.set_cons_zero, List.set_cons_succ]
    refine wpAnyH_take (i := 9) (oi := _) (v := .bool true) rfl (by kernel_rfl) (by kernel_rfl) (by kernel_rfl) (fun _ _ _ h => h) (Or.inl ⟨by rfl, ?_⟩) hH0 ?_
    · intro w hSw; go_simp
    simp only [Act.put, List.getElem_toArray, List.getElem_cons_zero, List.getElem_cons_succ, List.setIfInBounds_toArray, List.set_cons_zero, List.set_cons_succ]
    refine wpAnyH_take (i := 10) (oi := _) (v := .pointer (some ⟨b1, 0, none⟩)) rfl (by kernel_rfl) (by kernel_rfl) (by kernel_rfl) (fun _ _ _ h => h) (Or.inl ⟨by rfl, ?_⟩) hH0 ?_
    · intro w hSw; go_simp
    simp only [Act.put, List.getElem_toArray, List.getElem_cons_zero, List.getElem_cons_succ, List.setIfInBounds_toArray, List.set_cons_zero, List.set_cons_succ]
    refine wpAnyH_take (i := 11) (oi := _) (v := .pointer (some ⟨b1, 0, none⟩)) rfl (by kernel_rfl) (by kernel_rfl) (by kernel_rfl) (fun _ _ _ h => h) (Or.inl ⟨by rfl, ?_⟩) hH0 ?_
    · intro w hSw; go_simp
    simp only [Act.put, List.getElem_toArray, List.getElem_cons_zero, List.getElem_cons_succ, List.setIfInBounds_toArray, List.set_cons_zero, List.set_cons_succ]
    refine wpAnyH_take (i := 12) (oi := _) (v := .pointer (some ⟨b1, 1, none⟩)) rfl (by kernel_rfl) (by kernel_rfl) (by kernel_rfl) (fun _ _ _ h => h) (Or.inl ⟨by rfl, ?_⟩) hH0 ?_
    · intro w hSw; go_simp
    simp only [Act.put, List.getElem_toArray, List.getElem_cons_zero, List.getElem_cons_succ, List.setIfInBounds_toArray, List.set_cons_zero, List.set_cons_succ]
    refine wpAnyH_take (i := 13) (oi := _) (v := .int .i64 u.l) rfl (by kernel_rfl) (by kernel_rfl) (by kernel_rfl) (fun _ _ _ h => h) (Or.inl ⟨by rfl, ?_⟩) hH0 ?_
    · intro w hSw; go_simp
    simp only [Act.put, List.getElem_toArray, List.getElem_cons_zero, List.getElem_cons_succ, List.setIfInBounds_toArray, List.set_cons_zero, List.set_cons_succ]
    refine wpAnyH_take (i := 14) (oi := _) (v := .pointer (some ⟨b2, 0, none⟩)) rfl (by kernel_rfl) (by kernel_rfl) (by kernel_rfl) (fun _ _ _ h => h) (Or.inl ⟨by rfl, ?_⟩) hH0 ?_
    · intro w hSw; go_simp
    simp only [Act.put, List.getElem_toArray, List.getElem_cons_zero, List.getElem_cons_succ, List.setIfInBounds_toArray, List.set_cons_zero, List.set_cons_succ]
    refine wpAnyH_take (i := 15) (oi := _) (v := .pointer (some ⟨b2, 0, none⟩)) rfl (by kernel_rfl) (by kernel_rfl) (by kernel_rfl) (fun _ _ _ h => h) (Or.inl ⟨by rfl, ?_⟩) hH0 ?_
    · intro w hSw; go_simp
    simp only [Act.put, List.getElem_toArray, List.getElem_cons_zero, List.getElem_cons_succ, List.setIfInBounds_toArray, List.set_cons_zero, List.set_cons_succ]
    refine wpAnyH_take (i := 16) (oi := _) (v := .pointer (some ⟨b2, 1, none⟩)) rfl (by kernel_rfl) (by kernel_rfl) (by kernel_rfl) (fun _ _ _ h => h) (Or.inl ⟨by rfl, ?_⟩) hH0 ?_
    · intro w hSw; go_simp
    simp only [Act.put, List.getElem_toArray, List.getElem_cons_zero, List.getElem_cons_succ, List.setIfInBounds_toArray, List.set_cons_zero, List.set_cons_succ]
    refine wpAnyH_take (i := 17) (oi := _) (v := .int .i64 v.l) rfl (by kernel_rfl) (by kernel_rfl) (by kernel_rfl) (fun _ _ _ h => h) (Or.inl ⟨by rfl, ?_⟩) hH0 ?_
    · intro w hSw; go_simp
    simp only [Act.put, List.getElem_toArray, List.getElem_cons_zero, List.getElem_cons_succ, List.setIfInBounds_toArray, List.set_cons_zero, List.set_cons_succ]
    refine wpAnyH_take (i := 18) (oi := _) (v := .bool false) rfl (by kernel_rfl) (by kernel_rfl) (by kernel_rfl) (fun _ _ _ h => h) (Or.inl ⟨by rfl, ?_⟩) hH0 ?_
    · intro w hSw; go_simp
    simp only [Act.put, List.getElem_toArray, List.getElem_cons_zero, List.getElem_cons_succ, List.setIfInBounds_toArray, List.set_cons_zero, List.set_cons_succ]
    refine wpAnyH_take (i := 19) (oi := _) (v := .bool false) rfl (by kernel_rfl) (by kernel_rfl) (by kernel_rfl) (fun _ _ _ h => h) (Or.inl ⟨by rfl, ?_⟩) hH0 ?_
    · intro w hSw; go_simp
    simp only [Act.put, List.getElem_toArray, List.getElem_cons_zero, List.getElem_cons_succ, List.setIfInBounds_toArray, List.set_cons_zero, List.set_cons_succ]
    refine wpAnyH_take (i := 20) (oi := _) (v := .bool false) rfl (by kernel_rfl) (by kernel_rfl) (by kernel_rfl) (fun _ _ _ h => h) (Or.inl ⟨by rfl, ?_⟩) hH0 ?_
    · intro w hSw; go_simp
    simp only [Act.put, List.getElem_toArray, List.getElem_cons_zero, List.getElem_cons_succ, List.setIfInBounds_toArray, List.set_cons_zero, List.set_cons_succ]
    refine wpAnyH_take (i := 21) (oi := _) (v := undef) rfl (by kernel_rfl) (by kernel_rfl) (by kernel_rfl) (fun _ _ _ h => h) (Or.inr ⟨by kernel_rfl, rfl⟩) hH0 ?_
    simp only [Act.put, List.getElem_toArray, List.getElem_cons_zero, List.getElem_cons_succ, List.setIfInBounds_toArray, List.set_cons_zero, List.set_cons_succ]
    refine wpAnyH_take (i := 22) (oi := _) (v := undef) rfl (by kernel_rfl) (by kernel_rfl) (by kernel_rfl) (fun _ _ _ h => h) (Or.inr ⟨by kernel_rfl, rfl⟩) hH0 ?_
    simp only [Act.put, List.getElem_toArray, List.getElem_cons_zero, List.getElem_cons_succ, List.setIfInBounds_toArray, List.set_cons_zero, List.set_cons_succ]
    refine wpAnyH_take (i := 23) (oi := _) (v := undef) rfl (by kernel_rfl) (by kernel_rfl) (by kernel_rfl) (fun _ _ _ h => h) (Or.inr ⟨by kernel_rfl, rfl⟩) hH0 ?_
    simp only [Act.put, List.getElem_toArray, List.getElem_cons_zero, List.getElem_cons_succ, List.setIfInBounds_toArray, List.set_cons_zero, List.set_cons_succ]
    refine wpAnyH_take (i := 24) (oi := _) (v := undef) rfl (by kernel_rfl) (by kernel_rfl) (by kernel_rfl) (fun _ _ _ h => h) (Or.inr ⟨by kernel_rfl, rfl⟩) hH0 ?_
    simp only [Act.put, List.getElem_toArray, List.getElem_cons_zero, List.getElem_cons_succ, List.setIfInBounds_toArray, List.set_cons_zero, List.set_cons_succ]
    refine wpAnyH_take (i := 25) (oi := _) (v := undef) rfl (by kernel_rfl) (by kernel_rfl) (by kernel_rfl) (fun _ _ _ h => h) (Or.inr ⟨by kernel_rfl, rfl⟩) hH0 ?_
    simp only [Act.put, List.getElem_toArray, List.getElem_cons_zero, List.getElem_cons_succ, List.setIfInBounds_toArray, List.set_cons_zero, List.set_cons_succ]
    refine wpAnyH_take (i := 26) (oi := _) (v := undef) rfl (by kernel_rfl) (by kernel_rfl) (by kernel_rfl) (fun _ _ _ h => h) (Or.inr ⟨by kernel_rfl, rfl⟩) hH0 ?_
    simp only [Act.put, List.getElem_toArray, List.getElem_cons_zero, List.getElem_cons_succ, List.setIfInBounds_toArray, List.set_cons_zero, List.set_cons_succ]
    refine wpAnyH_take (i := 27) (oi := _) (v := undef) rfl (by kernel_rfl) (by kernel_rfl) (by kernel_rfl) (fun _ _ _ h => h) (Or.inr ⟨by kernel_rfl, rfl⟩) hH0 ?_
    simp only [Act.put, List.getElem_toArray, List.getElem_cons_zero, List.getElem_cons_succ, List.setIfInBounds_toArray, List.set_cons_zero, List.set_cons_succ]
    refine wpAnyH_take (i := 28) (oi := _) (v := undef) rfl (by kernel_rfl) (by kernel_rfl) (by kernel_rfl) (fun _ _ _ h => h) (Or.inr ⟨by kernel_rfl, rfl⟩) hH0 ?_
    simp only [Act.put, List.getElem_toArray, List.getElem_cons_zero, List.getElem_cons_succ, List.setIfInBounds_toArray, List.set_cons_zero, List.set_cons_succ]
    refine wpAnyH_take (i := 29) (oi := _) (v := undef) rfl (by kernel_rfl) (by kernel_rfl) (by kernel_rfl) (fun _ _ _ h => h) (Or.inr ⟨by kernel_rfl, rfl⟩) hH0 ?_
    simp only [Act.put, List.getElem_toArray, List.getElem_cons_zero, List.getElem_cons_succ, List.setIfInBounds_toArray, List.set_cons_zero, List.set_cons_succ]
    refine wpAnyH_take (i := 30) (oi := _) (v := .bool false) rfl (by kernel_rfl) (by kernel_rfl) (by kernel_rfl) (fun _ _ _ h => h) (Or.inl ⟨by rfl, ?_⟩) hH0 ?_
    · intro w hSw; go_simp
    simp only [Act.put, List.getElem_toArray, List.getElem_cons_zero, List.getElem_cons_succ, List.setIfInBounds_toArray, List.set_cons_zero, List.set_cons_succ]
    refine wpAnyH_take (i := 31) (oi := _) (v := .bool false) rfl (by kernel_rfl) (by kernel_rfl) (by kernel_rfl) (fun _ _ _ h => h) (Or.inl ⟨by rfl, ?_⟩) hH0 ?_
    · intro w hSw; go_simp
    simp only [Act.put, List.getElem_toArray, List.getElem_cons_zero, List.getElem_cons_succ, List.setIfInBounds_toArray, List.set_cons_zero, List.set_cons_succ]
    refine wpAnyH_done (by kernel_rfl) ?_ _
    go_wp2
    go_ret
    exact ⟨ret_eq (by rw [Hs.out, HE.out, HL.out]; rfl), by go_grown⟩
  have HL := Lib.hid' hl
  go_enter Tryz.func15, Tryz.ntmps15
  go_wp2_with fail
  refine wp_region_held_drew (S := (fun w' => w'.cell? ⟨b1, 0, none⟩ = some (.int .i64 u.e) ∧ w'.cell? ⟨b1, 1, none⟩ = some (.int .i64 u.l) ∧ w'.cell? ⟨b1, 2, none⟩ = some (.map (some m1)) ∧ w'.cell? ⟨b2, 0, none⟩ = some (.int .i64 v.e) ∧ w'.cell? ⟨b2, 1, none⟩ = some (.int .i64 v.l) ∧ w'.cell? ⟨b2, 2, none⟩ = some (.map (some m2)))) (by kernel_rfl) ⟨by simpa using c0, by simpa using c1, by simpa using c2, by simpa using d0, by simpa using d1, by simpa using d2⟩ (fun hH0 => ?_)
  refine wpAnyH_take (i := 0) (oi := _) (v := .pointer (some ⟨b1, 0, none⟩)) rfl (by kernel_rfl) (by kernel_rfl) (by kernel_rfl) (fun _ _ _ h => h) (Or.inl ⟨by rfl, ?_⟩) hH0 ?_
  · intro w hSw; go_simp
  simp only [Act.put, List.getElem_toArray, List.getElem_cons_zero, List.getElem_cons_succ, List.setIfInBounds_toArray, List.set_cons_zero, List.set_cons_succ]
  refine wpAnyH_take (i := 1) (oi := _) (v := .pointer (some ⟨b1, 0, none⟩)) rfl (by kernel_rfl) (by kernel_rfl) (by kernel_rfl) (fun _ _ _ h => h) (Or.inl ⟨by rfl, ?_⟩) hH0 ?_
  · intro w hSw; go_simp
  simp only [Act.put, List.getElem_toArray, List.getElem_cons_zero, List.getElem_cons_succ, List.setIfInBounds_toArray, List.set_cons_zero, List.set_cons_succ]
  refine wpAnyH_take (i := 2) (oi := _) (v := .pointer (some ⟨b1, 0, none⟩)) rfl (by kernel_rfl) (by kernel_rfl) (by kernel_rfl) (fun _ _ _ h => h) (Or.inl ⟨by rfl, ?_⟩) hH0 ?_
  · intro w hSw; go_simp
  simp only [Act.put, List.getElem_toArray, List.getElem_cons_zero, List.getElem_cons_succ, List.setIfInBounds_toArray, List.set_cons_zero, List.set_cons_succ]
  refine wpAnyH_take (i := 3) (oi := _) (v := .int .i64 u.e) rfl (by kernel_rfl) (by kernel_rfl) (by kernel_rfl) (fun _ _ _ h => h) (Or.inl ⟨by rfl, ?_⟩) hH0 ?_
  · intro w hSw; go_simp
  simp only [Act.put, List.getElem_toArray, List.getElem_cons_zero, List.getElem_cons_succ, List.setIfInBounds_toArray, List.set_cons_zero, List.set_cons_succ]
  refine wpAnyH_take (i := 4) (oi := _) (v := .pointer (some ⟨b2, 0, none⟩)) rfl (by kernel_rfl) (by kernel_rfl) (by kernel_rfl) (fun _ _ _ h => h) (Or.inl ⟨by rfl, ?_⟩) hH0 ?_
  · intro w hSw; go_simp
  simp only [Act.put, List.getElem_toArray, List.getElem_cons_zero, List.getElem_cons_succ, List.setIfInBounds_toArray, List.set_cons_zero, List.set_cons_succ]
  refine wpAnyH_take (i := 5) (oi := _) (v := .pointer (some ⟨b2, 0, none⟩)) rfl (by kernel_rfl) (by kernel_rfl) (by kernel_rfl) (fun _ _ _ h => h) (Or.inl ⟨by rfl, ?_⟩) hH0 ?_
  · intro w hSw; go_simp
  simp only [Act.put, List.getElem_toArray, List.getElem_cons_zero, List.getElem_cons_succ, List.setIfInBounds_toArray, List.set_cons_zero, List.set_cons_succ]
  refine wpAnyH_take (i := 6) (oi := _) (v := .pointer (some ⟨b2, 0, none⟩)) rfl (by kernel_rfl) (by kernel_rfl) (by kernel_rfl) (fun _ _ _ h => h) (Or.inl ⟨by rfl, ?_⟩) hH0 ?_
  · intro w hSw; go_simp
  simp only [Act.put, List.getElem_toArray, List.getElem_cons_zero, List.getElem_cons_succ, List.setIfInBounds_toArray, List.set_cons_zero, List.set_cons_succ]
  refine wpAnyH_take (i := 7) (oi := _) (v := .int .i64 v.e) rfl (by kernel_rfl) (by kernel_rfl) (by kernel_rfl) (fun _ _ _ h => h) (Or.inl ⟨by rfl, ?_⟩) hH0 ?_
  · intro w hSw; go_simp
  simp only [Act.put, List.getElem_toArray, List.getElem_cons_zero, List.getElem_cons_succ, List.setIfInBounds_toArray, List.set_cons_zero, List.set_cons_succ]
  refine wpAnyH_take (i := 8) (oi := _) (v := .bool true) rfl (by kernel_rfl) (by kernel_rfl) (by kernel_rfl) (fun _ _ _ h => h) (Or.inl ⟨by rfl, ?_⟩) hH0 ?_
  · intro w hSw; go_simp
  simp only [Act.put, List.getElem_toArray, List.getElem_cons_zero, List.getElem_cons_succ, List.setIfInBounds_toArray, List.set_cons_zero, List.set_cons_succ]
  refine wpAnyH_take (i := 9) (oi := _) (v := .bool true) rfl (by kernel_rfl) (by kernel_rfl) (by kernel_rfl) (fun _ _ _ h => h) (Or.inl ⟨by rfl, ?_⟩) hH0 ?_
  · intro w hSw; go_simp
  simp only [Act.put, List.getElem_toArray, List.getElem_cons_zero, List.getElem_cons_succ, List.setIfInBounds_toArray, List.set_cons_zero, List.set_cons_succ]
  refine wpAnyH_take (i := 10) (oi := _) (v := .pointer (some ⟨b1, 0, none⟩)) rfl (by kernel_rfl) (by kernel_rfl) (by kernel_rfl) (fun _ _ _ h => h) (Or.inl ⟨by rfl, ?_⟩) hH0 ?_
  · intro w hSw; go_simp
  simp only [Act.put, List.getElem_toArray, List.getElem_cons_zero, List.getElem_cons_succ, List.setIfInBounds_toArray, List.set_cons_zero, List.set_cons_succ]
  refine wpAnyH_take (i := 11) (oi := _) (v := .pointer (some ⟨b1, 0, none⟩)) rfl (by kernel_rfl) (by kernel_rfl) (by kernel_rfl) (fun _ _ _ h => h) (Or.inl ⟨by rfl, ?_⟩) hH0 ?_
  · intro w hSw; go_simp
  simp only [Act.put, List.getElem_toArray, List.getElem_cons_zero, List.getElem_cons_succ, List.setIfInBounds_toArray, List.set_cons_zero, List.set_cons_succ]
  refine wpAnyH_take (i := 12) (oi := _) (v := .pointer (some ⟨b1, 1, none⟩)) rfl (by kernel_rfl) (by kernel_rfl) (by kernel_rfl) (fun _ _ _ h => h) (Or.inl ⟨by rfl, ?_⟩) hH0 ?_
  · intro w hSw; go_simp
  simp only [Act.put, List.getElem_toArray, List.getElem_cons_zero, List.getElem_cons_succ, List.setIfInBounds_toArray, List.set_cons_zero, List.set_cons_succ]
  refine wpAnyH_take (i := 13) (oi := _) (v := .int .i64 u.l) rfl (by kernel_rfl) (by kernel_rfl) (by kernel_rfl) (fun _ _ _ h => h) (Or.inl ⟨by rfl, ?_⟩) hH0 ?_
  · intro w hSw; go_simp
  simp only [Act.put, List.getElem_toArray, List.getElem_cons_zero, List.getElem_cons_succ, List.setIfInBounds_toArray, List.set_cons_zero, List.set_cons_succ]
  refine wpAnyH_take (i := 14) (oi := _) (v := .pointer (some ⟨b2, 0, none⟩)) rfl (by kernel_rfl) (by kernel_rfl) (by kernel_rfl) (fun _ _ _ h => h) (Or.inl ⟨by rfl, ?_⟩) hH0 ?_
  · intro w hSw; go_simp
  simp only [Act.put, List.getElem_toArray, List.getElem_cons_zero, List.getElem_cons_succ, List.setIfInBounds_toArray, List.set_cons_zero, List.set_cons_succ]
  refine wpAnyH_take (i := 15) (oi := _) (v := .pointer (some ⟨b2, 0, none⟩)) rfl (by kernel_rfl) (by kernel_rfl) (by kernel_rfl) (fun _ _ _ h => h) (Or.inl ⟨by rfl, ?_⟩) hH0 ?_
  · intro w hSw; go_simp
  simp only [Act.put, List.getElem_toArray, List.getElem_cons_zero, List.getElem_cons_succ, List.setIfInBounds_toArray, List.set_cons_zero, List.set_cons_succ]
  refine wpAnyH_take (i := 16) (oi := _) (v := .pointer (some ⟨b2, 1, none⟩)) rfl (by kernel_rfl) (by kernel_rfl) (by kernel_rfl) (fun _ _ _ h => h) (Or.inl ⟨by rfl, ?_⟩) hH0 ?_
  · intro w hSw; go_simp
  simp only [Act.put, List.getElem_toArray, List.getElem_cons_zero, List.getElem_cons_succ, List.setIfInBounds_toArray, List.set_cons_zero, List.set_cons_succ]
  refine wpAnyH_take (i := 17) (oi := _) (v := .int .i64 v.l) rfl (by kernel_rfl) (by kernel_rfl) (by kernel_rfl) (fun _ _ _ h => h) (Or.inl ⟨by rfl, ?_⟩) hH0 ?_
  · intro w hSw; go_simp
  simp only [Act.put, List.getElem_toArray, List.getElem_cons_zero, List.getElem_cons_succ, List.setIfInBounds_toArray, List.set_cons_zero, List.set_cons_succ]
  refine wpAnyH_take (i := 18) (oi := _) (v := .bool true) rfl (by kernel_rfl) (by kernel_rfl) (by kernel_rfl) (fun _ _ _ h => h) (Or.inl ⟨by rfl, ?_⟩) hH0 ?_
  · intro w hSw; go_simp
  simp only [Act.put, List.getElem_toArray, List.getElem_cons_zero, List.getElem_cons_succ, List.setIfInBounds_toArray, List.set_cons_zero, List.set_cons_succ]
  refine wpAnyH_take (i := 19) (oi := _) (v := .bool true) rfl (by kernel_rfl) (by kernel_rfl) (by kernel_rfl) (fun _ _ _ h => h) (Or.inl ⟨by rfl, ?_⟩) hH0 ?_
  · intro w hSw; go_simp
  simp only [Act.put, List.getElem_toArray, List.getElem_cons_zero, List.getElem_cons_succ, List.setIfInBounds_toArray, List.set_cons_zero, List.set_cons_succ]
  refine wpAnyH_take (i := 20) (oi := _) (v := .bool true) rfl (by kernel_rfl) (by kernel_rfl) (by kernel_rfl) (fun _ _ _ h => h) (Or.inl ⟨by rfl, ?_⟩) hH0 ?_
  · intro w hSw; go_simp
  simp only [Act.put, List.getElem_toArray, List.getElem_cons_zero, List.getElem_cons_succ, List.setIfInBounds_toArray, List.set_cons_zero, List.set_cons_succ]
  refine wpAnyH_take (i := 21) (oi := _) (v := .pointer (some ⟨b1, 0, none⟩)) rfl (by kernel_rfl) (by kernel_rfl) (by kernel_rfl) (fun _ _ _ h => h) (Or.inl ⟨by rfl, ?_⟩) hH0 ?_
  · intro w hSw; go_simp
  simp only [Act.put, List.getElem_toArray, List.getElem_cons_zero, List.getElem_cons_succ, List.setIfInBounds_toArray, List.set_cons_zero, List.set_cons_succ]
  refine wpAnyH_take (i := 22) (oi := _) (v := .pointer (some ⟨b1, 0, none⟩)) rfl (by kernel_rfl) (by kernel_rfl) (by kernel_rfl) (fun _ _ _ h => h) (Or.inl ⟨by rfl, ?_⟩) hH0 ?_
  · intro w hSw; go_simp
  simp only [Act.put, List.getElem_toArray, List.getElem_cons_zero, List.getElem_cons_succ, List.setIfInBounds_toArray, List.set_cons_zero, List.set_cons_succ]
  refine wpAnyH_take (i := 23) (oi := _) (v := .pointer (some ⟨b1, 2, none⟩)) rfl (by kernel_rfl) (by kernel_rfl) (by kernel_rfl) (fun _ _ _ h => h) (Or.inl ⟨by rfl, ?_⟩) hH0 ?_
  · intro w hSw; go_simp
  simp only [Act.put, List.getElem_toArray, List.getElem_cons_zero, List.getElem_cons_succ, List.setIfInBounds_toArray, List.set_cons_zero, List.set_cons_succ]
  refine wpAnyH_take (i := 24) (oi := _) (v := .map (some m1)) rfl (by kernel_rfl) (by kernel_rfl) (by kernel_rfl) (fun _ _ _ h => h) (Or.inl ⟨by rfl, ?_⟩) hH0 ?_
  · intro w hSw; go_simp
  simp only [Act.put, List.getElem_toArray, List.getElem_cons_zero, List.getElem_cons_succ, List.setIfInBounds_toArray, List.set_cons_zero, List.set_cons_succ]
  refine wpAnyH_take (i := 25) (oi := _) (v := .pointer (some ⟨b2, 0, none⟩)) rfl (by kernel_rfl) (by kernel_rfl) (by kernel_rfl) (fun _ _ _ h => h) (Or.inl ⟨by rfl, ?_⟩) hH0 ?_
  · intro w hSw; go_simp
  simp only [Act.put, List.getElem_toArray, List.getElem_cons_zero, List.getElem_cons_succ, List.setIfInBounds_toArray, List.set_cons_zero, List.set_cons_succ]
  refine wpAnyH_take (i := 26) (oi := _) (v := .pointer (some ⟨b2, 0, none⟩)) rfl (by kernel_rfl) (by kernel_rfl) (by kernel_rfl) (fun _ _ _ h => h) (Or.inl ⟨by rfl, ?_⟩) hH0 ?_
  · intro w hSw; go_simp
  simp only [Act.put, List.getElem_toArray, List.getElem_cons_zero, List.getElem_cons_succ, List.setIfInBounds_toArray, List.set_cons_zero, List.set_cons_succ]
  refine wpAnyH_take (i := 27) (oi := _) (v := .pointer (some ⟨b2, 2, none⟩)) rfl (by kernel_rfl) (by kernel_rfl) (by kernel_rfl) (fun _ _ _ h => h) (Or.inl ⟨by rfl, ?_⟩) hH0 ?_
  · intro w hSw; go_simp
  simp only [Act.put, List.getElem_toArray, List.getElem_cons_zero, List.getElem_cons_succ, List.setIfInBounds_toArray, List.set_cons_zero, List.set_cons_succ]
  refine wpAnyH_take (i := 28) (oi := _) (v := .map (some m2)) rfl (by kernel_rfl) (by kernel_rfl) (by kernel_rfl) (fun _ _ _ h => h) (Or.inl ⟨by rfl, ?_⟩) hH0 ?_
  · intro w hSw; go_simp
  simp only [Act.put, List.getElem_toArray, List.getElem_cons_zero, List.getElem_cons_succ, List.setIfInBounds_toArray, List.set_cons_zero, List.set_cons_succ]
  refine wpAnyH_ready (rs := [29]) (by kernel_rfl) (by simp) (AllReadyH.cons (o := _) rfl (fun K hK => ?_) AllReadyH.nil)
  go_simp
  refine (equalF_any (A1 := A1) (A2 := A2) (b1 := m1) (b2 := m2) (M1 := u.cells) (M2 := v.cells) w.drew H1.out H2.out hl1 hl2).mono ?_
  rintro en w2 ⟨rfl, hb2'⟩
  have hb2 : Below w.heap.size w w2 := (Below.drew (Below.refl _ _)).trans hb2'
  clear hb2'
  have z0 := (hb2.cell (p := ⟨b1, 0, none⟩) hlt1).trans c0
  have z1 := (hb2.cell (p := ⟨b1, 1, none⟩) hlt1).trans c1
  have z2 := (hb2.cell (p := ⟨b1, 2, none⟩) hlt1).trans c2
  have z3 := (hb2.cell (p := ⟨b2, 0, none⟩) hlt2).trans d0
  have z4 := (hb2.cell (p := ⟨b2, 1, none⟩) hlt2).trans d1
  have z5 := (hb2.cell (p := ⟨b2, 2, none⟩) hlt2).trans d2
  refine hK.out _ _ ?_ (fun hH1 => ?_)
  · exact ⟨z0, z1, z2, z3, z4, z5⟩
  clear hK K
  refine wpAnyH_take (i := 30) (oi := _) (v := .bool (eqF u.cells v.cells)) rfl (by kernel_rfl) (by kernel_rfl) (by kernel_rfl) (fun _ _ _ h => h) (Or.inl ⟨by rfl, ?_⟩) hH1 ?_
  · intro w hSw; go_simp
  simp only [Act.put, List.getElem_toArray, List.getElem_cons_zero, List.getElem_cons_succ, List.setIfInBounds_toArray, List.set_cons_zero, List.set_cons_succ]
  refine wpAnyH_take (i := 31) (oi := _) (v := .bool (eqF u.cells v.cells)) rfl (by kernel_rfl) (by kernel_rfl) (by kernel_rfl) (fun _ _ _ h => h) (Or.inl ⟨by rfl, ?_⟩) hH1 ?_
  · intro w hSw; go_simp
  simp only [Act.put, List.getElem_toArray, List.getElem_cons_zero, List.getElem_cons_succ, List.setIfInBounds_toArray, List.set_cons_zero, List.set_cons_succ]
  refine wpAnyH_done (by kernel_rfl) ?_ _
  go_wp2
  go_ret
  exact ⟨ret_eq (by rw [Hs.out, HE.out, HL.out]; rfl), by go_grown⟩
end Go.Proofs.YtkhnbdbcaebdaaaGreatDoor

namespace Go.Proofs.YtkhnbdbcaebdaaaGreatDoor
open Go.RowKit
set_option linter.unusedSimpArgs false
set_option linter.unusedVariables false
set_option maxRecDepth 20000
abbrev PoolL := List (Value × List UInt8)
/-- an entry of a map of cells, its bytes in the pool -/
def CRel (vs : PoolL) (x : Int × Value) (y : Int × C) : Prop := x.1 = y.1 ∧ ∃ a c, x.2 = .agg #[.int .i64 y.2.k, .slice a y.2.d.length c] ∧ (Value.slice a y.2.d.length c, y.2.d) ∈ vs
def Asn.unit (bu bm : Nat) (u : U) (vs : PoolL) : Asn where
  holds := fun w => w.heap[bu]? = some (.cells #[.int .i64 u.e, .int .i64 u.l, .map (some bm)] 91 (0, 0)) ∧ (∃ L, MapAt w bm L ∧ F2 (CRel vs) L u.cells) ∧ u.ok
  foot := fun k => k = bu ∨ k = bm
  lt := fun w h b hb => by
    obtain ⟨h1, ⟨L, h2, _⟩, _⟩ := h
    rcases hb with rfl | rfl
    · exact (Array.getElem?_eq_some_iff.1 h1).1
    · exact h2.lt
  keep := fun w w' h k => ⟨(k bu (.inl rfl)).trans h.1, by
    obtain ⟨L, h2, h3⟩ := h.2.1
    exact ⟨L, h2.block (k bm (.inr rfl)), h3⟩, h.2.2⟩
theorem Asn.unit_more {w : World} {bu bm : Nat} {u : U} {vs us : PoolL} (h : (Asn.unit bu bm u vs).holds w) (hs : ∀ x ∈ vs, x ∈ us) : (Asn.unit bu bm u us).holds w := by
  obtain ⟨h1, ⟨L, h2, h3⟩, h4⟩ := h
  exact ⟨h1, ⟨L, h2, h3.mono (fun _ _ _ _ ⟨q1, a, c, q2, q3⟩ => ⟨q1, a, c, q2, hs _ q3⟩)⟩, h4⟩
/-- what a call with the unit may not have told of its bytes -/
def Off (w : World) (Z : Nat → Prop) : Nat → Prop := fun k => k < w.heap.size ∧ ¬ Z k
theorem Asn.unitAt {w : World} {bu bm : Nat} {u : U} {vs : PoolL} {Z : Nat → Prop} (h : (Asn.unit bu bm u vs).holds w) (hp : (Asn.pool Z vs).holds w) (h1 : ¬ Z bu) (h2 : ¬ Z bm) : UnitAt (Off w Z) w bu bm u := by
  have hl1 := (Asn.unit bu bm u vs).lt w h bu (.inl rfl)
  have hl2 := (Asn.unit bu bm u vs).lt w h bm (.inr rfl)
  obtain ⟨q1, ⟨L, q2, q3⟩, q4⟩ := h
  refine ⟨q1, ⟨L, q2, q3.mono (fun x y _ _ ⟨r1, a, c, r2, r3⟩ => ⟨r1, a, c, r2, (hp.1 _ r3).1, fun p hpa => ?_⟩)⟩, q4, ⟨hl1, h1⟩, ⟨hl2, h2⟩⟩
  have hz : Z p.block := (hp.1 _ r3).2 p _ _ (by rw [hpa])
  exact ⟨fun hk => hk.2 hz, hp.2 _ hz⟩
theorem Sep.unitAt {w0 w : World} {F Z : Nat → Prop} {bu bm : Nat} {u : U} {vs : PoolL} {L : List Asn} (h : Sep w0 F (Asn.unit bu bm u vs :: Asn.pool Z vs :: L) w) : UnitAt (Off w Z) w bu bm u :=
  Asn.unitAt (h.at 0 rfl) (h.at 1 rfl) (h.off 0 1 rfl rfl (by decide) bu (.inl rfl)) (h.off 0 1 rfl rfl (by decide) bm (.inr rfl))
/-- the bytes of a unit's cells -/
theorem unit_pool {A : Nat → Prop} {w : World} {bu bm : Nat} {u : U} (h : UnitAt A w bu bm u) : ∃ us : PoolL, (Asn.unit bu bm u us).holds w ∧ ∀ x ∈ us, Bytes w x.1 x.2 ∧ SlIn (fun k => ¬ A k ∧ k < w.heap.size) x.1 := by
  obtain ⟨L, h1, h2⟩ := h.map
  have key : ∀ (L : List (Int × Value)) (M : List (Int × C)), F2 (EntIs A w) L M → ∃ us : PoolL, F2 (CRel us) L M ∧ ∀ x ∈ us, Bytes w x.1 x.2 ∧ SlIn (fun k => ¬ A k ∧ k < w.heap.size) x.1 := by
    intro L M h
    induction h with
    | nil => exact ⟨[], .nil, by simp⟩
    | cons hab _ ih =>
      obtain ⟨us, q1, q2⟩ := ih
      obtain ⟨r1, a, c, r2, r3, r4⟩ := hab
      refine ⟨(Value.slice a _ c, _) :: us, .cons ⟨r1, a, c, r2, List.mem_cons_self⟩ (q1.mono (fun _ _ _ _ ⟨s1, a, c, s2, s3⟩ => ⟨s1, a, c, s2, List.mem_cons_of_mem _ s3⟩)), fun x hx => ?_⟩
      rcases List.mem_cons.1 hx with rfl | hx
      · refine ⟨r3, fun p n cc hv => ?_⟩
        simp only [Value.slice.injEq] at hv
        exact r4 p hv.1
      · exact q2 x hx
  obtain ⟨us, q1, q2⟩ := key L u.cells h2
  exact ⟨us, ⟨h.blk, ⟨L, h1, q1⟩, h.ok⟩, q2⟩
/-- behind a call with the unit that told its world anew -/
theorem Sep.unitCall {w0 w w' : World} {F Z : Nat → Prop} {bu bm : Nat} {u u' : U} {vs : PoolL} {L : List Asn} (h : Sep w0 F (Asn.unit bu bm u vs :: Asn.pool Z vs :: L) w) (hU : UnitAt (Off w Z) w' bu bm u') (hf : Fr (fun k => k = bu ∨ k = bm) w w') :
    ∃ Z' vs', (∀ x ∈ vs, x ∈ vs') ∧ Sep w0 F (Asn.unit bu bm u' vs' :: Asn.pool Z' vs' :: L) w' := by
  obtain ⟨us, q1, q2⟩ := unit_pool hU
  have hbu := h.lt' 0 rfl (b := bu) (.inl rfl)
  have hbm := h.lt' 0 rfl (b := bm) (.inr rfl)
  have hzu : ¬ Z bu := h.off 0 1 rfl rfl (by decide) bu (.inl rfl)
  have hzm : ¬ Z bm := h.off 0 1 rfl rfl (by decide) bm (.inr rfl)
  have hp := h.at 1 rfl
  have hp' : (Asn.pool Z vs).holds w' := (Asn.pool Z vs).keep w w' hp (fun b hb => hf.block b (hp.2 b hb) (by rintro (rfl | rfl); exact hzu hb; exact hzm hb))
  refine ⟨fun k => Z k ∨ (w.heap.size ≤ k ∧ k < w'.heap.size), vs ++ us, fun x hx => List.mem_append_left _ hx, ?_⟩
  have h1 : Sep w0 F ((Asn.unit bu bm u vs).sep (Asn.pool Z vs) :: L) w := h.join
  have h2 : Sep w0 F ((Asn.unit bu bm u' (vs ++ us)).sep (Asn.pool (fun k => Z k ∨ (w.heap.size ≤ k ∧ k < w'.heap.size)) (vs ++ us)) :: L) w' := by
    refine h1.fr1 (hf.mono (fun i hi => .inl hi)) ⟨Asn.unit_more q1 (fun x hx => List.mem_append_right _ hx), ⟨fun x hx => ?_, fun b hb => ?_⟩, fun b hb hc => ?_⟩ (fun b hb => ?_)
    · rcases List.mem_append.1 hx with hx | hx
      · exact ⟨(hp'.1 x hx).1, fun p n c hv => .inl ((hp'.1 x hx).2 p n c hv)⟩
      · refine ⟨(q2 x hx).1, fun p n c hv => ?_⟩
        obtain ⟨r1, r2⟩ := (q2 x hx).2 p n c hv
        by_cases hz : Z p.block
        · exact .inl hz
        · exact .inr ⟨Nat.le_of_not_lt (fun hlt => r1 ⟨hlt, hz⟩), r2⟩
    · rcases hb with hb | hb
      · exact hp'.2 b hb
      · exact hb.2
    · rcases hb with rfl | rfl
      · rcases hc with hc | hc
        · exact hzu hc
        · omega
      · rcases hc with hc | hc
        · exact hzm hc
        · omega
    · rcases hb with hb | hb | hb
      · exact .inr (.inl hb)
      · exact .inr (.inr hb)
      · exact .inl hb.1
  exact h2.part
/-- a new unit, its bytes in the pool, or new -/
theorem Sep.unitNew {w0 w w' : World} {F Z : Nat → Prop} {bu bm : Nat} {u : U} {vs : PoolL} {L : List Asn} (h : Sep w0 F (Asn.pool Z vs :: L) w) (hb : Below w.heap.size w w') (h1 : w.heap.size ≤ bu) (h2 : w.heap.size ≤ bm) (hU : UnitAt (fun k => Off w Z k ∨ k = bu ∨ k = bm) w' bu bm u) :
    ∃ Z' vs', (∀ x ∈ vs, x ∈ vs') ∧ Sep w0 F (Asn.unit bu bm u vs' :: Asn.pool Z' vs' :: L) w' := by
  obtain ⟨us, q1, q2⟩ := unit_pool hU
  have hl1 := (Asn.unit bu bm u us).lt w' q1 bu (.inl rfl)
  have hl2 := (Asn.unit bu bm u us).lt w' q1 bm (.inr rfl)
  have hp := h.at 0 rfl
  have hp' : (Asn.pool Z vs).holds w' := (Asn.pool Z vs).keep w w' hp (fun b hb' => hb.block b (hp.2 b hb'))
  refine ⟨fun k => Z k ∨ ((w.heap.size ≤ k ∧ k < w'.heap.size) ∧ k ≠ bu ∧ k ≠ bm), vs ++ us, fun x hx => List.mem_append_left _ hx, ?_⟩
  have h3 : Sep w0 F ((Asn.unit bu bm u (vs ++ us)).sep (Asn.pool (fun k => Z k ∨ ((w.heap.size ≤ k ∧ k < w'.heap.size) ∧ k ≠ bu ∧ k ≠ bm)) (vs ++ us)) :: L) w' := by
    refine h.fr1 (Fr.of_below hb) ⟨Asn.unit_more q1 (fun x hx => List.mem_append_right _ hx), ⟨fun x hx => ?_, fun b hb => ?_⟩, fun b hb hc => ?_⟩ (fun b hb => ?_)
    · rcases List.mem_append.1 hx with hx | hx
      · exact ⟨(hp'.1 x hx).1, fun p n c hv => .inl ((hp'.1 x hx).2 p n c hv)⟩
      · refine ⟨(q2 x hx).1, fun p n c hv => ?_⟩
        obtain ⟨r1, r2⟩ := (q2 x hx).2 p n c hv
        by_cases hz : Z p.block
        · exact .inl hz
        · exact .inr ⟨⟨Nat.le_of_not_lt (fun hlt => r1 (.inl ⟨hlt, hz⟩)), r2⟩, fun e => r1 (.inr (.inl e)), fun e => r1 (.inr (.inr e))⟩
    · rcases hb with hb | hb
      · exact hp'.2 b hb
      · exact hb.1.2
    · rcases hb with rfl | rfl
      · rcases hc with hc | hc
        · have := hp.2 b hc; omega
        · exact hc.2.1 rfl
      · rcases hc with hc | hc
        · have := hp.2 b hc; omega
        · exact hc.2.2 rfl
    · rcases hb with (rfl | rfl) | hb | hb
      · exact .inl h1
      · exact .inl h2
      · exact .inr hb
      · exact .inl hb.1.1
  exact h3.part
end Go.Proofs.YtkhnbdbcaebdaaaGreatDoor

namespace Go.Proofs.YtkhnbdbcaebdaaaGreatDoor
open Go.RowKit
set_option linter.unusedSimpArgs false
set_option linter.unusedVariables false
set_option maxRecDepth 20000
/-- some parts, by their numbers, in this order -/
theorem Sep.pick {w0 w : World} {F : Nat → Prop} {L L' : List Asn} (h : Sep w0 F L w) (is : List Nat) (hn : is.Nodup) (hL : is.map (fun i => L[i]?) = L'.map some) : Sep w0 F L' w := by
  have key : ∀ A ∈ L', ∃ i : Nat, L[i]? = some A := fun A hA => by
    have h1 : some A ∈ L'.map some := List.mem_map_of_mem hA
    rw [← hL] at h1
    obtain ⟨i, _, hi⟩ := List.mem_map.1 h1
    exact ⟨i, hi⟩
  refine ⟨h.fr, fun A hA => ?_, ?_, fun A hA b hb => ?_⟩
  · obtain ⟨i, hi⟩ := key A hA
    exact h.at i hi
  · have h2 : (L'.map some).Pairwise (fun x y : Option Asn => ∀ A B, x = some A → y = some B → ∀ b, A.foot b → ¬ B.foot b) := by
      rw [← hL, List.pairwise_map]
      rw [List.nodup_iff_pairwise_ne] at hn
      exact hn.imp (fun {i j} hij A B hi hj => h.off i j hi hj hij)
    rw [List.pairwise_map] at h2
    exact h2.imp (fun {A B} hAB => hAB A B rfl rfl)
  · obtain ⟨i, hi⟩ := key A hA
    exact h.new A (List.mem_of_getElem? hi) b hb
namespace SH
open DK
@[go_sem] theorem eql_err (w : World) (a b : Int) : (binOp .eql 26 (.iface 54 (.int .i64 a)) (.iface 54 (.int .i64 b))).run Tryz.prog w = .ok (.bool (a == b)) w := Go.Lib.run_eql_iface_int w a b undErr (by kernel_rfl) Tryz.underlying54
@[go_sem] theorem eql_nilerr (w : World) (u : TypeId) (x : Value) : (binOp .eql 26 .nilIface (.iface u x)).run Tryz.prog w = .ok (.bool false) w := run_eql_iface_nil_left w u x undErr
/-- a shelf's box, its store's, its unit's -/
def shelfI (q N : Nat) (S : Sf) (vs : PoolL) (K : List Asn) : Prop := ∃ p bu bm, K = [.box q [ptrV p, ptrV bu, .int .i64 (S.n : Nat), .bool S.br] 71, .box p [ptrV N] 103, .unit bu bm S.u vs]
abbrev _root_.Go.Proofs.YtkhnbdbcaebdaaaGreatDoor.Asn.shelf (q N : Nat) (S : Sf) (vs : PoolL) (G : Nat → Prop) : Asn := Asn.ex (shelfI q N S vs) G
/-- a shelf with its disk and its pool; L: what lies beside -/
def ShAt (q N : Nat) (S : Sf) (D : Dk) (vs : PoolL) (L : List Asn) (F : Nat → Prop) (w0 w : World) : Prop := ∃ G1 G2 Z, Sep w0 F (Asn.disk N D G1 :: Asn.shelf q N S vs G2 :: Asn.pool Z vs :: L) w
/-- what a method leaves -/
def ShR (q N : Nat) (S : Sf) (D : Dk) (vs : PoolL) (F : Nat → Prop) (w0 w : World) : Prop := ∃ us, (∀ x ∈ vs, x ∈ us) ∧ ShAt q N S D us [] F w0 w
theorem ShAt.below {q N : Nat} {S : Sf} {D : Dk} {vs : PoolL} {L : List Asn} {F : Nat → Prop} {w0 w w' : World} (h : ShAt q N S D vs L F w0 w) (hb : Below w.heap.size w w') : ShAt q N S D vs L F w0 w' := by
  obtain ⟨G1, G2, Z, H⟩ := h
  exact ⟨G1, G2, Z, H.below hb⟩
theorem ShR.trans {q N : Nat} {S2 : Sf} {D2 : Dk} {vs us : PoolL} {F : Nat → Prop} {w0 w' : World} (hs : ∀ x ∈ vs, x ∈ us) (h2 : ShR q N S2 D2 us F w0 w') : ShR q N S2 D2 vs F w0 w' := by
  obtain ⟨ts, q1, q2⟩ := h2
  exact ⟨ts, fun x hx => q1 x (hs x hx), q2⟩
/-- a call with the shelf by itself -/
theorem ShAt.enter {q N : Nat} {S : Sf} {D : Dk} {vs : PoolL} {L : List Asn} {F : Nat → Prop} {w0 w : World} (h : ShAt q N S D vs L F w0 w) :
    ∃ F', ShAt q N S D vs [] F' w w ∧ ∀ (S' : Sf) (D' : Dk) (us : PoolL) (M : List Asn) (w' : World), ShAt q N S' D' us M F' w w' → ShAt q N S' D' us (M ++ L) F w0 w' := by
  obtain ⟨G1, G2, Z, H⟩ := h
  have H1 : Sep w0 F ([Asn.disk N D G1, Asn.shelf q N S vs G2, Asn.pool Z vs] ++ L) w := H
  have H2 := (Sep.start1 _ (H1.merge.at 0 rfl)).split
  refine ⟨_, ⟨G1, G2, Z, H2⟩, fun S' D' us M w' k => ?_⟩
  obtain ⟨G1', G2', Z', k'⟩ := k
  exact ⟨G1', G2', Z', H1.callN k'⟩
/-- the parts of a shelf, opened to be read -/
structure ShIn (q p bu bm N : Nat) (S : Sf) (w : World) : Prop where
  c0 : w.cell? ⟨q, 0, none⟩ = some (ptrV p)
  c1 : w.cell? ⟨q, 1, none⟩ = some (ptrV bu)
  c2 : w.cell? ⟨q, 2, none⟩ = some (.int .i64 (S.n : Nat))
  c3 : w.cell? ⟨q, 3, none⟩ = some (.bool S.br)
  d0 : w.cell? ⟨p, 0, none⟩ = some (ptrV N)
  lq : q < w.heap.size
  lp : p < w.heap.size
theorem ShIn.below {q p bu bm N : Nat} {S : Sf} {w w' : World} (h : ShIn q p bu bm N S w) (hb : Below w.heap.size w w') : ShIn q p bu bm N S w' :=
  ⟨(hb.cell (p := ⟨q, 0, none⟩) h.lq).trans h.c0, (hb.cell (p := ⟨q, 1, none⟩) h.lq).trans h.c1, (hb.cell (p := ⟨q, 2, none⟩) h.lq).trans h.c2, (hb.cell (p := ⟨q, 3, none⟩) h.lq).trans h.c3, (hb.cell (p := ⟨p, 0, none⟩) h.lp).trans h.d0, Nat.lt_of_lt_of_le h.lq hb.size, Nat.lt_of_lt_of_le h.lp hb.size⟩
/-- the parts, in the order in which they are worked with -/
abbrev shL (q p bu bm N : Nat) (S : Sf) (D : Dk) (vs : PoolL) (Z G1 : Nat → Prop) (L : List Asn) : List Asn := .unit bu bm S.u vs :: .pool Z vs :: .box q [ptrV p, ptrV bu, .int .i64 (S.n : Nat), .bool S.br] 71 :: .box p [ptrV N] 103 :: Asn.disk N D G1 :: L
theorem sh_in {q p bu bm N : Nat} {S : Sf} {D : Dk} {vs : PoolL} {L : List Asn} {F Z G1 : Nat → Prop} {w0 w : World} (h : Sep w0 F (shL q p bu bm N S D vs Z G1 L) w) : ShIn q p bu bm N S w :=
  ⟨h.cell 2 rfl 0 rfl, h.cell 2 rfl 1 rfl, h.cell 2 rfl 2 rfl, h.cell 2 rfl 3 rfl, h.cell 3 rfl 0 rfl, h.lt 2 rfl, h.lt 3 rfl⟩
theorem sh_open {q N : Nat} {S : Sf} {D : Dk} {vs : PoolL} {L : List Asn} {F : Nat → Prop} {w0 w : World} (h : ShAt q N S D vs L F w0 w) :
    ∃ p bu bm G1 Z, Sep w0 F (shL q p bu bm N S D vs Z G1 L) w := by
  obtain ⟨G1, G2, Z, H⟩ := h
  obtain ⟨K, ⟨p, bu, bm, rfl⟩, H1⟩ := (H.swap1).unpack
  have H2 : Sep w0 F (.box q [ptrV p, ptrV bu, .int .i64 (S.n : Nat), .bool S.br] 71 :: .box p [ptrV N] 103 :: .unit bu bm S.u vs :: Asn.disk N D G1 :: .pool Z vs :: L) w := H1
  exact ⟨p, bu, bm, G1, Z, ((((H2.focus 3 rfl).focus 2 rfl).focus 2 rfl).focus 4 rfl).focus 4 rfl⟩
theorem sh_close {q p bu bm N : Nat} {S : Sf} {D : Dk} {vs : PoolL} {L : List Asn} {F Z G1 : Nat → Prop} {w0 w : World} (h : Sep w0 F (shL q p bu bm N S D vs Z G1 L) w) : ShAt q N S D vs L F w0 w := by
  have h1 : Sep w0 F ([.box q [ptrV p, ptrV bu, .int .i64 (S.n : Nat), .bool S.br] 71, .box p [ptrV N] 103, .unit bu bm S.u vs] ++ (.pool Z vs :: Asn.disk N D G1 :: L)) w := ((((h.focus 4 rfl).focus 2 rfl).focus 2 rfl).focus 4 rfl).focus 4 rfl
  obtain ⟨G2, h2⟩ := Sep.pack (I := shelfI q N S vs) _ h1 ⟨p, bu, bm, rfl⟩
  exact ⟨G1, G2, Z, h2.focus 2 rfl⟩
theorem sh_disk {q p bu bm N : Nat} {S : Sf} {D : Dk} {vs : PoolL} {L : List Asn} {F Z G1 : Nat → Prop} {w0 w : World} (h : Sep w0 F (shL q p bu bm N S D vs Z G1 L) w) : (Asn.disk N D G1).holds w ∧ StoAt p N G1 w :=
  ⟨h.at 4 rfl, h.cell 3 rfl 0 rfl, h.lt 3 rfl, fun hg => h.off 3 4 rfl rfl (by decide) p rfl hg⟩
/-- the disk has turned -/
theorem sh_turn {q p bu bm N : Nat} {S : Sf} {D D' : Dk} {vs : PoolL} {L : List Asn} {F Z G1 : Nat → Prop} {w0 w w' : World} (h : Sep w0 F (shL q p bu bm N S D vs Z G1 L) w) (k : ∃ G2, Sep w G1 [Asn.disk N D' G2] w') : ∃ G2, Sep w0 F (shL q p bu bm N S D' vs Z G2 L) w' := by
  obtain ⟨G2, k⟩ := k
  have h1 := (h.focus 4 rfl).call k
  exact ⟨G2, ((((h1.focus 4 rfl).focus 4 rfl).focus 4 rfl).focus 4 rfl)⟩

theorem swork_any (q : Nat) (b : Bool) (w : World) (h : w.cell? ⟨q, 3, none⟩ = some (.bool b)) (hq : q < w.heap.size) : Calls Tryz.prog 27 #[ptrV q] w fun e w' => e = .returned (errV (if b = true then 14 else 0)) ∧ w = w' := by
  cases b with
  | true =>
    go_enter Tryz.func27, Tryz.ntmps27
    go_wp2
    go_ret
    exact ⟨rfl, rfl⟩
  | false =>
    go_enter Tryz.func27, Tryz.ntmps27
    go_wp2
    go_ret
    exact ⟨rfl, rfl⟩
theorem sdisk_any7 (p N : Nat) (w : World) (h : w.cell? ⟨p, 0, none⟩ = some (ptrV N)) (hp : p < w.heap.size) : Calls Tryz.prog 87 #[ptrV p] w fun e w' => e = .returned (ptrV N) ∧ w = w' := by
  go_enter Tryz.func87, Tryz.ntmps87
  go_wp2
  go_ret
  exact ⟨rfl, rfl⟩
theorem snext_any {q p bu bm N : Nat} {S : Sf} (w : World) (h : ShIn q p bu bm N S w) : Calls Tryz.prog 10 #[ptrV q] w fun e w' => e = .returned (.int .i64 (S.n : Nat)) ∧ w = w' := by
  obtain ⟨c0, c1, c2, c3, d0, lq, lp⟩ := h
  clear c1 c0 c3 d0
  go_enter Tryz.func10, Tryz.ntmps10
  go_wp2
  go_ret
  exact ⟨rfl, rfl⟩
theorem slooks_any {q p bu bm N : Nat} {S : Sf} {D : Dk} {G1 : Nat → Prop} (w : World) (h : ShIn q p bu bm N S w) (hD : (Asn.disk N D G1).holds w) : Calls Tryz.prog 48 #[ptrV q] w fun e w' => e = .returned (errV (looksS S D)) ∧ w = w' := by
  obtain ⟨c0, c1, c2, c3, d0, lq, lp⟩ := h
  have HD := Lib.hid' (sdisk_any7 p N w d0 lp)
  have HDn := Lib.hid' (Down_any w hD)
  have HW := Lib.hid' (swork_any q S.br w c3 lq)
  clear c1 c2 c3 d0 hD
  cases hb : S.br with
  | true =>
    have HF := Lib.hid' (show looksS S D = 14 by unfold looksS; rw [if_pos (.inl hb)])
    rw [hb] at HW
    go_enter Tryz.func48, Tryz.ntmps48
    go_wp2_with (go_at_call 27; refine HW.out.mono ?_; rintro e w1 ⟨rfl, rfl⟩)
    go_ret
    rw [HF.out]
    exact ⟨rfl, rfl⟩
  | false =>
    rw [hb] at HW
    cases hd : D.down with
    | true =>
      have HF := Lib.hid' (show looksS S D = 14 by unfold looksS; rw [if_pos (.inr hd)])
      rw [hd] at HDn
      go_enter Tryz.func48, Tryz.ntmps48
      go_wp2_with (first | (go_at_call 27; refine HW.out.mono ?_; rintro e w1 ⟨rfl, rfl⟩) | (go_at_call 87; refine HD.out.mono ?_; rintro e w1 ⟨rfl, rfl⟩) | (go_at_call 22; refine HDn.out.mono ?_; rintro e w1 ⟨rfl, rfl⟩))
      go_ret
      rw [HF.out]
      exact ⟨rfl, rfl⟩
    | false =>
      have HF := Lib.hid' (show looksS S D = 0 by unfold looksS; rw [if_neg (by rw [hb, hd]; simp)])
      rw [hd] at HDn
      go_enter Tryz.func48, Tryz.ntmps48
      go_wp2_with (first | (go_at_call 27; refine HW.out.mono ?_; rintro e w1 ⟨rfl, rfl⟩) | (go_at_call 87; refine HD.out.mono ?_; rintro e w1 ⟨rfl, rfl⟩) | (go_at_call 22; refine HDn.out.mono ?_; rintro e w1 ⟨rfl, rfl⟩))
      go_ret
      rw [HF.out]
      exact ⟨rfl, rfl⟩
/-- a unit apart: the copy's bytes are the pool's -/
def UnitOut (q N : Nat) (S : Sf) (D : Dk) (vs : PoolL) (F : Nat → Prop) (w : World) (e : Ending) (w' : World) : Prop :=
  ∃ bu bm us, e = .returned (ptrV bu) ∧ (∀ x ∈ vs, x ∈ us) ∧ ShAt q N S D us [.unit bu bm S.u us] F w w'
theorem sunit_any {q N : Nat} {S : Sf} {D : Dk} {vs : PoolL} {F : Nat → Prop} (w : World) (h : ShAt q N S D vs [] F w w) : Calls Tryz.prog 9 #[ptrV q] w (UnitOut q N S D vs F w) := by
  obtain ⟨p, bu, bm, G1, Z, H⟩ := sh_open h
  have c1 := (sh_in H).c1
  have lq := (sh_in H).lq
  have HC := Lib.hid' (ucopy_any w (Sep.unitAt H))
  have HH := Lib.hid' H
  clear h H
  go_enter Tryz.func9, Tryz.ntmps9
  go_wp2_with (go_at_call 16; refine HC.out.mono ?_; rintro e w1 ⟨rfl, hb, hz, hu⟩)
  go_ret
  have hU := hu (fun k => Off w Z k ∨ k = w.heap.size + 1 ∨ k = w.heap.size) (fun k hk => by rcases hk with hk | hk | hk; exact .inl hk; exact .inr (by omega); exact .inr (by omega)) (.inr (.inr rfl)) (.inr (.inl rfl))
  obtain ⟨Z', us, q1, H1⟩ := Sep.unitNew (HH.out.focus 1 rfl) hb (by omega) (by omega) hU
  have H2 := (H1.focus 2 rfl).turn (B := .unit bu bm S.u us) (Asn.unit_more (H1.at 2 rfl) q1) (fun _ h => h)
  have H3 : Sep w F (shL q p bu bm N S D us Z' G1 [.unit (w.heap.size + 1) w.heap.size S.u us]) w1 := (((((H2.focus 1 rfl).focus 5 rfl).focus 5 rfl).focus 5 rfl).focus 5 rfl).focus 5 rfl
  exact ⟨w.heap.size + 1, w.heap.size, us, rfl, q1, sh_close H3⟩
theorem fall_any {q p bu bm N : Nat} {S : Sf} {D : Dk} {vs : PoolL} {L : List Asn} {F Z G1 : Nat → Prop} {w0 : World} (e : Nat) (w : World) (h : Sep w0 F (shL q p bu bm N S D vs Z G1 L) w) :
    Calls Tryz.prog 31 #[ptrV q, errV e] w fun en w' => en = .returned (errV e) ∧ Sep w0 F (shL q p bu bm N (fallS S e) D vs Z G1 L) w' := by
  have c3 := (sh_in h).c3
  have lq := (sh_in h).lq
  have f3 := h.free 2 rfl 3
  have HH := Lib.hid' h
  clear h
  by_cases h0 : e = 0
  · subst h0
    have HF := Lib.hid' (show fallS S 0 = S from rfl)
    rw [errV_0]
    go_enter Tryz.func31, Tryz.ntmps31
    go_wp2
    go_ret
    rw [HF.out]
    exact ⟨rfl, HH.out⟩
  · by_cases h14 : e = 14
    · subst h14
      have HF := Lib.hid' (show fallS S 14 = { S with br := true } from rfl)
      rw [errV_pos (by decide)]
      go_enter Tryz.func31, Tryz.ntmps31
      go_wp2
      go_ret
      rw [HF.out]
      refine ⟨rfl, ?_⟩
      have h1 := HH.out.set 2 rfl 3 (.bool true)
      exact (h1.focus 2 rfl).focus 2 rfl
    · have HF := Lib.hid' (show fallS S e = S by unfold fallS; rw [if_neg h14])
      have g14 : ¬ (e : Int) = 14 := by omega
      rw [errV_pos h0]
      go_enter Tryz.func31, Tryz.ntmps31
      go_wp2
      go_ret
      rw [HF.out]
      exact ⟨rfl, HH.out⟩
end SH
end Go.Proofs.YtkhnbdbcaebdaaaGreatDoor
