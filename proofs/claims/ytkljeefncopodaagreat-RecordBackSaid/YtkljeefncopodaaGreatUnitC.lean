/- Layer 8 (unit): Write, Fill, Read, Trim, Cut. -/
import Derived.Test.YtkljeefncopodaaGreatUnitB
namespace Go.Proofs.YtkljeefncopodaaGreat
open Go.RowKit
set_option linter.unusedSimpArgs false
set_option linter.unusedVariables false
set_option maxRecDepth 20000

theorem F2.put {A : Nat → Prop} {w : World} {L : List (Int × Value)} {M : List (Int × C)} (h : F2 (EntIs A w) L M) {a : Int} {v : Value} {c : C} (hv : EntIs A w (a, v) (a, c)) : F2 (EntIs A w) (putE L a v) (putC M a c) := by
  have hany := h.any (f := fun p => p.1 == a) (g := fun p => p.1 == a) (fun p q h => by rw [h.1])
  unfold putE putC
  rw [hany]
  split
  · refine h.map fun p q hpq => ?_
    rw [hpq.1]
    split
    · exact hv
    · exact hpq
  · exact h.append (.one hv)

theorem Bytes.in_own {w : World} {B e n : Nat} {a : Option Addr} {cap : Nat} {d : List UInt8} (h : w.ownsRow B e 1 (.slice a n cap) n (byteVs d)) : ∀ x, a = some x → B ≤ x.block ∧ x.block < w.heap.size := fun x hx => own_in h x n cap (by rw [hx])

theorem UnitAt.put {A : Nat → Prop} {w w2 w3 : World} {bu bm : Nat} {u : U} (h : UnitAt A w bu bm u) (hA : ∀ k, A k → k < w.heap.size) {L : List (Int × Value)} {a : Int} {c : C} {ad : Option Addr} {cap : Nat}
    (hm : MapAt w2 bm L) (hL : F2 (EntIs A w2) L u.cells) (hb : Below w.heap.size w w2) (hv : Bytes w2 (.slice ad c.d.length cap) c.d) (hin : ∀ x, ad = some x → w.heap.size ≤ x.block ∧ x.block < w2.heap.size)
    (hm3 : MapAt w3 bm (putE L a (.agg #[.int .i64 c.k, .slice ad c.d.length cap]))) (hf3 : Fr (· = bm) w2 w3) (hok : U.ok { u with cells := putC u.cells a c }) : UnitAt A w3 bu bm { u with cells := putC u.cells a c } := by
  have h2 := h.below (Nat.le_refl _) hb
  have hne := h.ne
  refine ⟨(hf3.block _ h2.lt.1 hne).trans h2.blk, ⟨_, hm3, ?_⟩, hok, h.abu, h.abm⟩
  refine F2.put (hL.mono fun p q _ _ hpq => hpq.fr hf3 (fun k hk => by rw [hk]; exact h.abm)) ⟨rfl, ad, cap, rfl, ?_, ?_⟩
  · refine SlV.fr hv hf3 ?_
    intro x n c' hx
    simp only [Value.slice.injEq] at hx
    have h5 := (hin x hx.1).1
    have h6 := h.lt.2
    show ¬ x.block = bm; omega
  · intro x hx
    have h5 := hin x hx
    exact ⟨fun hk => by have := hA _ hk; omega, Nat.lt_of_lt_of_le h5.2 hf3.size⟩

theorem empty_any (w : World) (l : List UInt8) (h : l = []) (a : Option Addr) (c : Nat) (hc : c ≤ maxLen) (h0 : a = none → c = 0) : Bytes w (.slice a l.length c) l := by subst h; exact SlV.empty w a c hc h0

set_option maxHeartbeats 1000000 in
theorem write_any {A : Nat → Prop} {bu bm : Nat} {u : U} (e a : Int) (v : Value) (d : List UInt8) (w : World) (h : UnitAt A w bu bm u) (hA : ∀ k, A k → k < w.heap.size) (hd : Bytes w v d) :
    Calls Tryz.prog 77 #[.pointer (some ⟨bu, 0, none⟩), .int .i64 e, .int .i64 a, v] w (UnitR (errV (u.write e a d).1) A bu bm (u.write e a d).2 w) := by
  have H := Lib.hid' h
  have HD := Lib.hid' hd
  obtain ⟨ad, cp, rfl, _⟩ := hd
  obtain ⟨_, _, c2⟩ := h.cell
  have hok := Lib.hid' (U.ok_write h.ok e a d)
  have hlt := h.lt.1
  have hltm := h.lt.2
  have HNE := Lib.hid' h.ne
  have HA := Lib.hid' hA
  clear h hA
  cases hin : inR a 1048575 with
  | false =>
    have Hf := Lib.hid' (show u.write e a d = (1, u) by simp [U.write, hin])
    go_enter Tryz.func77, Tryz.ntmps77
    go_wp2_with (go_at_call 67; refine (in_any _ _ _).mono ?_; rintro en w' ⟨rfl, rfl⟩; rw [hin])
    go_ret
    rw [Hf.out]
    exact UnitR.same H.out rfl (Below.refl _ _)
  | true =>
  by_cases hlen : 64 < d.length
  · have Hf := Lib.hid' (show u.write e a d = (3, u) by simp [U.write, hin, hlen])
    go_enter Tryz.func77, Tryz.ntmps77
    go_wp2_with (go_at_call 67; refine (in_any _ _ _).mono ?_; rintro en w' ⟨rfl, rfl⟩; rw [hin])
    go_ret
    rw [Hf.out]
    exact UnitR.same H.out rfl (Below.refl _ _)
  by_cases hc : u.cur e = 0
  rotate_left
  · have Hf := Lib.hid' (show u.write e a d = (u.cur e, u) by simp [U.write, hin, hlen, hc])
    have HC := Lib.hid' hc
    clear hc
    go_enter Tryz.func77, Tryz.ntmps77
    go_wp2_with (go_at_call 67; refine (in_any _ _ _).mono ?_; rintro en w' ⟨rfl, rfl⟩; rw [hin])
    refine (cur_any _ _ H.out).mono ?_
    rintro en w1 ⟨rfl, rfl⟩
    rw [errV_pos HC.out]
    go_wp2
    go_ret
    rw [Hf.out, errV_pos HC.out]
    exact UnitR.same H.out rfl (Below.refl _ _)
  have HC := Lib.hid' hc
  have Hlen := Lib.hid' hlen
  have hlen' : ¬ (64 : Int) < d.length := by omega
  have hd1 : d.length ≤ 1099511627776 := by omega
  by_cases h3 : (u.at a).k = 3
  · have Hf := Lib.hid' (show u.write e a d = (9, u) by simp [U.write, hin, hlen, hc, h3])
    have h3' : ((u.at a).k == 3) = true := by simpa using h3
    clear hc h3
    go_enter Tryz.func77, Tryz.ntmps77
    go_wp2_with (go_at_call 67; refine (in_any _ _ _).mono ?_; rintro en w' ⟨rfl, rfl⟩; rw [hin])
    refine (cur_any _ _ H.out).mono ?_
    rintro en w1 ⟨rfl, rfl⟩
    rw [HC.out, errV_0]
    go_wp2_with fail
    refine (at_any _ _ H.out).mono ?_
    rintro en w1 ⟨a1, cp1, rfl, hb1, hbw⟩
    have HB1 := Lib.hid' hb1
    clear hb1
    go_wp2
    go_ret
    rw [Hf.out]
    exact UnitR.same H.out rfl hbw
  have h3' : ((u.at a).k == 3) = false := by simpa using h3
  by_cases h0 : (u.at a).k = 0
  rotate_left
  · have Hf := Lib.hid' (show u.write e a d = (8, u) by simp [U.write, hin, hlen, hc, h3, h0])
    have h0' : ((u.at a).k == 0) = false := by simpa using h0
    clear hc h3 h0
    go_enter Tryz.func77, Tryz.ntmps77
    go_wp2_with (go_at_call 67; refine (in_any _ _ _).mono ?_; rintro en w' ⟨rfl, rfl⟩; rw [hin])
    refine (cur_any _ _ H.out).mono ?_
    rintro en w1 ⟨rfl, rfl⟩
    rw [HC.out, errV_0]
    go_wp2_with fail
    refine (at_any _ _ H.out).mono ?_
    rintro en w1 ⟨a1, cp1, rfl, hb1, hbw⟩
    have HB1 := Lib.hid' hb1
    clear hb1
    go_wp2
    go_ret
    rw [Hf.out]
    exact UnitR.same H.out rfl hbw
  have Hf := Lib.hid' (show u.write e a d = (0, { u with cells := putC u.cells a ⟨1, d⟩ }) by simp [U.write, hin, hlen, hc, h0])
  have h0' : ((u.at a).k == 0) = true := by simpa using h0
  clear hc h3 h0
  go_enter Tryz.func77, Tryz.ntmps77
  go_wp2_with (go_at_call 67; refine (in_any _ _ _).mono ?_; rintro en w' ⟨rfl, rfl⟩; rw [hin])
  refine (cur_any _ _ H.out).mono ?_
  rintro en w1 ⟨rfl, rfl⟩
  rw [HC.out, errV_0]
  go_wp2_with fail
  refine (at_any _ _ H.out).mono ?_
  rintro en w1 ⟨a1, cp1, rfl, hb1, hbw⟩
  have HW1 := Lib.hid' (H.out.below (Nat.le_refl _) hbw)
  have c3 : w1.cell? ⟨bu, 2, none⟩ = some (.map (some bm)) := HW1.out.cell.2.2
  have hlt1 := HW1.out.lt.1
  have hltm1 := HW1.out.lt.2
  have hz1 := hbw.size
  have HBW := Lib.hid' hbw
  have HD1 := Lib.hid' (SlV.below HD.out (Nat.le_refl _) hbw)
  obtain ⟨L, hm, hL⟩ := HW1.out.map
  have HM := Lib.hid' hm
  have HL := Lib.hid' hL
  clear hb1 c2 hm hL hbw
  go_wp2_with fail
  go_region_held3 (fun w' => w'.cell? ⟨bu, 2, none⟩ = some (.map (some bm))) (go_keep) (first | (go_at_call 122; refine (clone_any _ d _ ?_ hd1).mono ?_; (exact SlV.below HD1.out (Nat.le_refl _) (by go_grown)); rintro e w2 ⟨a', c', rfl, ho, hb2⟩; have hb2' := below_call (Below.drew (Below.refl w1.heap.size w1)) (Nat.le_refl _) hb2; have hc2 := (bcell hb2').1 bu 2 hlt1; have hst := run_store mtCells (HM.out.block (hb2'.block _ HM.out.lt)) a (.agg #[.int .i64 1, .slice a' d.length c']); obtain ⟨ob, hrun, hm3⟩ := hst; have hc3 := (setBlk_fr w2 bm ob).cell (hc2.trans c3) HNE.out))
  go_wp2
  go_ret
  rw [Hf.out]
  have hbb := HBW.out.trans (hb2'.mono hz1)
  have hsz := hb2'.size
  refine ⟨rfl, ?_, ?_⟩
  · have hin := Bytes.in_own ho
    exact H.out.put (c := ⟨1, d⟩) HA.out (HM.out.block (hb2'.block _ HM.out.lt)) (HL.out.mono fun p q _ _ hpq => hpq.fr (Fr.of_below (F := fun _ => False) hb2') (fun _ h => h.elim)) hbb (SlV.of_own ho) (fun x hx => ⟨by have := (hin x hx).1; simp at this; omega, (hin x hx).2⟩) hm3 (setBlk_fr _ _ _) (by have := hok.out; rw [Hf.out] at this; exact this)
  · exact (Fr.of_below hbb).trans ((setBlk_fr w2 bm ob).mono (F' := fun k => k = bu ∨ k = bm) (fun k h => Or.inr h)) (fun k h => Or.inl h)

end Go.Proofs.YtkljeefncopodaaGreat
