/- Proved here: a part of the proof (24 of 31). -/
import Derived.Test.YtelneaokoiojkaaGreatDoorV21
import Derived.Test.YtelneaokoiojkaaGreatDoorV7
import Derived.Test.YtelneaokoiojkaaGreatDoorV23
import Derived.Test.YtelneaokoiojkaaGreatDoorV11
import Derived.Test.YtelneaokoiojkaaGreatDoorV1
import Derived.Test.YtelneaokoiojkaaGreatDoorV13
import Derived.Test.YtelneaokoiojkaaGreatDoorV28
import Derived.Test.YtelneaokoiojkaaGreatDoorV19
import Derived.Test.YtelneaokoiojkaaGreatDoorV8
import Derived.Test.YtelneaokoiojkaaGreatDoorV27
set_option linter.unusedSimpArgs false
set_option linter.unusedVariables false
set_option maxRecDepth 100000
namespace Go.Proofs.YtelneaokoiojkaaGreatDoor
open Go.RowKit
namespace SH
open DK
def AgR (q N : Nat) (u : U) (n : Nat) (D : Dk) (vs : PoolL) (F : Nat → Prop) (w : World) (e : Ending) (w' : World) : Prop :=
 e = .returned (.tuple #[.bool (againD D u n).2.1, errV (againD D u n).1]) ∧ ShR q N ⟨(againD D u n).2.2.1, (againD D u n).2.2.2, false⟩ D vs F w w'
theorem AgR.of {q N : Nat} {u u' : U} {n n' : Nat} {D : Dk} {vs us : PoolL} {F : Nat → Prop} {w w' : World} {e : Nat} {b : Bool} (hd : againD D u n = (e, b, u', n')) (hs : ∀ y ∈ vs, y ∈ us) (h : ShAt q N ⟨u', n', false⟩ D us [] F w w') : AgR q N u n D vs F w (.returned (.tuple #[.bool b, errV e])) w' := by
 unfold AgR
 rw [hd]
 exact ⟨rfl, us, hs, h⟩
end SH
end Go.Proofs.YtelneaokoiojkaaGreatDoor

namespace Go.Proofs.YtelneaokoiojkaaGreatDoor
open Go.RowKit
namespace SH
open DK
def CompR (q N : Nat) (S : Sf) (D : Dk) (vs : PoolL) (F : Nat → Prop) (w : World) (e : Ending) (w' : World) : Prop :=
 e = .returned (errV (compS S D).1) ∧ ShAt q N (compS S D).2.1 (compS S D).2.2 vs [] F w w'
theorem CompR.of {q N : Nat} {S S' : Sf} {D D' : Dk} {vs : PoolL} {F : Nat → Prop} {w w' : World} {e : Nat} (hd : compS S D = (e, S', D')) (h : ShAt q N S' D' vs [] F w w') : CompR q N S D vs F w (.returned (errV e)) w' := by
 unfold CompR
 rw [hd]
 exact ⟨rfl, h⟩
end SH
end Go.Proofs.YtelneaokoiojkaaGreatDoor

namespace Go.Proofs.YtelneaokoiojkaaGreatDoor
namespace SH
open DK
theorem put1_ne {g : Vw} {n x : Nm} {d : Option (List UInt8)} (h : x ≠ n) : put1 g n d x = g x := if_neg h
theorem put1_eq {g : Vw} {n : Nm} {d : Option (List UInt8)} : put1 g n d n = d := if_pos rfl
theorem Base.act {g : Vw} {b n : Nat} {ub : U} {d : Option (List UInt8)} (h : Base g b ub) : Base (put1 g (nameN 114 n) d) b ub := by
 have hne : ∀ k, put1 g (nameN 114 n) d (nameN 98 k) = g (nameN 98 k) := fun k => put1_ne (name_ne (by decide) k n)
 refine ⟨?_, fun k h1 h2 => by rw [hne]; exact h.2 k h1 h2⟩
 rw [hne, hne]
 exact h.1
theorem Acts.snoc {g : Vw} {x : Ac} {n : Nat} (hn : n ≤ 99999999) : ∀ {k b : Nat} {u v : U}, Acts g k b u v → b + k = n → (apU v x).1 = 0 → x.check = 0 → Acts (put1 g (nameN 114 n) (some x.put)) (k + 1) b u (apU v x).2.2
 | 0, b, u, v, h, hb, h1, h2 => by
  have h : u = v := h
  subst h
  have hb : b = n := by omega
  subst hb
  exact ⟨x.put, x, put1_eq, Ac.take_put h2, h1, rfl⟩
 | k + 1, b, u, v, h, hb, h1, h2 => by
  obtain ⟨d, y, q1, q2, q3, q4⟩ := h
  refine ⟨d, y, ?_, q2, q3, Acts.snoc hn q4 (by omega) h1 h2⟩
  rw [put1_ne (fun e => by have := name_inj (by omega) hn e; omega)]
  exact q1
theorem ap_check {u : U} {x : Ac} (h : (apU u x).1 = 0) : x.check = 0 := by
 apply Decidable.byContradiction
 intro hc
 unfold apU at h
 rw [if_pos hc] at h
 exact hc h
theorem Rep.act {g : Vw} {v : U} {n : Nat} {x : Ac} (h : Rep g v n) (hn : n ≤ 99999999) (hx : (apU v x).1 = 0) : Rep (put1 g (nameN 114 n) (some x.put)) (apU v x).2.2 (n + 1) := by
 obtain ⟨b, ub, k, e, hb, ha, hno⟩ := h
 refine ⟨b, ub, k + 1, by omega, hb.act, ha.snoc hn e.symm hx (ap_check hx), fun m h1 h2 => ?_⟩
 rw [put1_ne (fun e => by have := name_inj h2 hn e; omega)]
 exact hno m (by omega) h2
/-- nothing but the one base counts -/
structure Rep0 (g : Vw) (u : U) (n : Nat) : Prop where
 base : ∃ d, g (nameN 98 n) = some d ∧ takeU d = (0, u) ∧ u.ok
 high : ∀ k, n < k → k ≤ 99999999 → g (nameN 98 k) = none
 acts : ∀ m, n ≤ m → m ≤ 99999999 → g (nameN 114 m) = none
theorem Rep.base {g : Vw} {v u : U} {n : Nat} {d : List UInt8} (h : Rep g v n) (hn : n ≤ 99999999) (ht : takeU d = (0, u)) (hu : u.ok) : Rep0 (put1 g (nameN 98 n) (some d)) u n := by
 obtain ⟨b, ub, k, e, hb, ha, hno⟩ := h
 refine ⟨⟨d, put1_eq, ht, hu⟩, fun m h1 h2 => ?_, fun m h1 h2 => ?_⟩
 ·rw [put1_ne (fun e => by have := name_inj h2 hn e; omega)]
  exact hb.2 m (by omega) h2
 ·rw [put1_ne (name_ne (by decide) m n)]
  exact hno m h1 h2
/-- .. but for the order of the cells -/
def RepE (g : Vw) (u : U) (n : Nat) : Prop := ∃ v, Rep g v n ∧ Ueq v u
theorem RepE.act {g : Vw} {u : U} {n : Nat} {x : Ac} (h : RepE g u n) (hn : n ≤ 99999999) (hx : (apU u x).1 = 0) : RepE (put1 g (nameN 114 n) (some x.put)) (apU u x).2.2 (n + 1) := by
 obtain ⟨v, hv, he⟩ := h
 obtain ⟨e1, _, e3⟩ := ap_eq he hv.ok.nodup x
 exact ⟨_, hv.act hn (by rw [e1]; exact hx), e3⟩
theorem act_len {x : Ac} (h : x.check = 0) : x.put.length ≤ 200 := by
 obtain ⟨h1, h2, h3, h4, h5, h6, h7, h8, h9⟩ := Ac.check_ok h
 have g1 := vb_len_le (n := x.k.toNat) (k := 10) (by decide) (by omega)
 have g2 := vb_len_le (n := x.e.toNat) (k := 10) (by decide) (by omega)
 have g3 := vb_len_le (n := x.a.toNat) (k := 10) (by decide) (by omega)
 have g4 := vb_len_le (n := x.d.length) (k := 10) (by decide) (by omega)
 have ht : x.text.length ≤ 110 := by
  unfold Ac.text headB
  simp only [List.length_append]
  split <;> split <;> simp only [List.length_append, List.length_nil] <;> omega
 have g5 := vb_len_le (n := x.text.length) (k := 10) (by decide) (by omega)
 unfold Ac.put
 rw [frameB_len]; omega
theorem doS_cases {r : Int} {L : Fl} {f : Int} {u : U} {n : Nat} {x : Ac} (hg : (L.map (·.1)).Nodup) (h5 : L.length < 512) (h6 : (usedF L : Int) + 200 ≤ r) (hn : n ≤ 99999999) (hR : RepE (V L) u n) (hx : (apU u x).1 = 0) :
  (∃ f', doS ⟨u, n, false⟩ ⟨r, L, L, [], f, false⟩ x = (0, (apU u x).2.1, ⟨(apU u x).2.2, n + 1, false⟩, ⟨r, putL L (nameN 114 n) x.put, putL L (nameN 114 n) x.put, [], f', false⟩) ∧ (f = -1 → f' = -1) ∧ RepE (V (putL L (nameN 114 n) x.put)) (apU u x).2.2 (n + 1)) ∨
  (f ≠ -1 ∧ ∃ D', doS ⟨u, n, false⟩ ⟨r, L, L, [], f, false⟩ x = (14, 0, ⟨u, n, true⟩, D') ∧ AfterC r D' (fun g => RepE g u n ∨ RepE g (apU u x).2.2 (n + 1))) := by
 have hlen := act_len (ap_check hx)
 have hbg := begun_name (b := 114) (by decide) n
 have hV := V_putL hg hbg x.put
 have hA := hR.act hn hx
 rcases putD_cases r L f (nameN 114 n) x.put hg (obj_r n) hbg (tilde_name (by decide) n) (by omega) h5 (by omega) with ⟨f', e, hf⟩ | ⟨hf, D', e, ha⟩
 ·left
  refine ⟨f', ?_, hf, by rw [hV]; exact hA⟩
  unfold doS
  rw [if_neg (by simp), if_neg (by simpa using hx), if_neg (by show ¬ 99999999 < n; omega)]
  simp only [e, ne_eq, not_true_eq_false, if_false]
 ·right
  refine ⟨hf, D', ?_, ha.imp (fun g hg => ?_)⟩
  ·unfold doS
   rw [if_neg (by simp), if_neg (by simpa using hx), if_neg (by show ¬ 99999999 < n; omega)]
   simp only [e]
   rw [if_pos (by decide)]
   rfl
  ·rcases hg with rfl | rfl
   ·exact .inl hR
   ·exact .inr hA
end SH
end Go.Proofs.YtelneaokoiojkaaGreatDoor

namespace Go.Proofs.YtelneaokoiojkaaGreatDoor
namespace SH
open DK
/-- acts and bases alone -/
def Only (L : Fl) : Prop := ∀ p ∈ L, (numberN 114 p.1).isSome = true ∨ (numberN 98 p.1).isSome = true
theorem putL_mem {L : Fl} {n : Nm} {d : List UInt8} {p : Nm × List UInt8} (h : p ∈ putL L n d) : p = (n, d) ∨ p ∈ L := by
 unfold putL at h
 rcases putF_mem.1 h with h | ⟨h, _⟩
 ·exact .inl h
 ·have h1 := List.mem_filter.1 h
  rcases putF_mem.1 h1.1 with h2 | ⟨h2, _⟩
  ·have h3 := h1.2
   rw [h2] at h3
   simp [bne] at h3
  ·exact .inr h2
theorem Only.base {L : Fl} (h : Only L) {n : Nat} (hn : n ≤ 99999999) {d : List UInt8} : Only (putL L (nameN 98 n) d) := fun p hp => by
 rcases putL_mem hp with rfl | hp
 ·right; show (numberN 98 (nameN 98 n)).isSome = true; rw [number_name 98 hn]; rfl
 ·exact h p hp
theorem Only.noBeg {L : Fl} (h : Only L) : NoBeg L := fun p hp => by
 rcases h p hp with h | h
 ·obtain ⟨n, hn⟩ := Option.isSome_iff_exists.1 h
  rw [name_of_number hn]; exact begun_name (by decide) n
 ·obtain ⟨n, hn⟩ := Option.isSome_iff_exists.1 h
  rw [name_of_number hn]; exact begun_name (by decide) n
end SH
end Go.Proofs.YtelneaokoiojkaaGreatDoor

namespace Go.Proofs.YtelneaokoiojkaaGreatDoor
namespace SH
open DK
theorem V_nil (x : Nm) : V [] x = none := by unfold V getF; split <;> rfl
theorem rep_new : Rep (V []) U.new 0 := ⟨0, U.new, 0, rfl, ⟨.inl ⟨rfl, rfl, V_nil _⟩, fun k _ _ => V_nil _⟩, rfl, fun m _ _ => V_nil _⟩
theorem cut_clean (r : Int) (L : Fl) (f : Int) (ks : List Bool) : upD (cutD ⟨r, L, L, [], f, false⟩ ks) = ⟨r, L, L, [], -1, false⟩ := by
 unfold upD
 rw [if_pos (by rfl)]
 unfold cutD
 simp only [kept_nil]
 rfl
end SH
end Go.Proofs.YtelneaokoiojkaaGreatDoor

namespace Go.Proofs.YtelneaokoiojkaaGreatDoor
namespace SH
open DK
/-- a shelf whose disk has all power -/
def BasAt (k : Nat) (S : Sf) (D : Dk) : Prop := ∃ u n L, S = ⟨u, n, false⟩ ∧ D = ⟨16777216, L, L, [], -1, false⟩ ∧ Ok k D ∧ n ≤ k ∧ u.ok ∧ u.cells.length ≤ k ∧ RepE (V L) u n ∧ Only L
theorem BasAt.open {k : Nat} {S : Sf} {D : Dk} (h : BasAt k S D) (hk : k ≤ 100) : ∃ S', openS (upD (cutD D [])) = (0, S', D) ∧ S'.n = S.n ∧ Ueq S'.u S.u ∧ BasAt k S' D := by
 obtain ⟨u, n, L, rfl, rfl, h1, h2, h3, h4, ⟨v, hv, hve⟩, h6⟩ := h
 obtain ⟨L', e, q1, q2, q3, q4⟩ := openS_at 16777216 L h1.shown hv (by omega)
 obtain rfl := q4 h6.noBeg
 have hl := hve.cells.length_eq
 exact ⟨⟨v, n, false⟩, by rw [cut_clean]; exact e, rfl, hve, v, n, _, rfl, rfl, h1, h2, hv.ok, by omega, ⟨v, hv, Ueq.refl _⟩, h6⟩
end SH
end Go.Proofs.YtelneaokoiojkaaGreatDoor

namespace Go.Proofs.YtelneaokoiojkaaGreatDoor
open Go.RowKit
namespace SL
open DK SH SQ
def Ls.holds (l : Ls) (b n : Int) : Bool := decide (l.chk = 0) && (ownB b && (decide (l.o = b) && decide (n < l.t)))
set_option maxHeartbeats 1000000 in
theorem lholds_any (l : Ls) (b n : Int) (w : World) : Calls Tryz.prog 73 #[l.v, .int .i64 b, .int .i64 n] w fun e w' => e = .returned (.bool (l.holds b n)) ∧ Below w.heap.size w w' := by
 obtain ⟨o, ep, t⟩ := l
 have HB := Zh (show Ls.holds ⟨o, ep, t⟩ b n = (decide (Ls.chk ⟨o, ep, t⟩ = 0) && (ownB b && (decide (o = b) && decide (n < t)))) from rfl)
 have HC := Zh (fun (w' : World) => lchk_any ⟨o, ep, t⟩ w')
 have HO := Zh (fun (w' : World) => lowner_any b w')
 try simp only at *
 generalize Ls.chk ⟨o, ep, t⟩ = ck at *
 generalize Ls.holds ⟨o, ep, t⟩ b n = r at *
 generalize ownB b = ob at *
 by_cases hc : ck = 0
 rotate_left
 ·have hr := Zh (show r = false by rw [HB.out]; simp [hc])
  have HE := Zh (errV_pos hc)
  clear HB hc
  go_enter Tryz.func73, Tryz.ntmps73
  go_wp2_with fail
  refine (HC.out _).mono ?_
  rintro e w1 ⟨rfl, hb⟩
  have HB1 := Zh (show Below w.heap.size w w1 from Below.trans (by go_grown) (hb.mono (by simp)))
  clear hb
  rw [HE.out]
  go_wp2_with fail
  go_ret
  exact ⟨ret_eq (by rw [hr.out]; rfl), HB1.out⟩
 subst hc
 cases ob with
 | false =>
  have hr := Zh (show r = false by rw [HB.out]; simp)
  clear HB
  go_enter Tryz.func73, Tryz.ntmps73
  go_wp2_with fail
  refine (HC.out _).mono ?_
  rintro e w1 ⟨rfl, hb⟩
  have HB1 := Zh (show Below w.heap.size w w1 from Below.trans (by go_grown) (hb.mono (by simp)))
  clear hb
  rw [errV_0]
  go_wp2_with (go_at_call 107; refine (HO.out _).mono ?_; rintro e w' ⟨rfl, rfl⟩)
  go_ret
  exact ⟨ret_eq (by rw [hr.out]; rfl), HB1.out⟩
 | true =>
 have c0 : (w.alloc (.cells #[.int .i64 o, .int .i64 ep, .int .i64 t] 25)).cell? ⟨w.heap.size, 0, none⟩ = some (.int .i64 o) := by simp [go_sem]
 have c2 : (w.alloc (.cells #[.int .i64 o, .int .i64 ep, .int .i64 t] 25)).cell? ⟨w.heap.size, 2, none⟩ = some (.int .i64 t) := by simp [go_sem]
 by_cases h1 : o = b
 rotate_left
 ·have hr := Zh (show r = false by rw [HB.out]; simp [h1])
  clear HB
  go_enter Tryz.func73, Tryz.ntmps73
  go_wp2_with fail
  refine (HC.out _).mono ?_
  rintro e w1 ⟨rfl, hb⟩
  have d0 := (hb.cell (p := ⟨w.heap.size, 0, none⟩) (by simp)).trans c0
  have HB1 := Zh (show Below w.heap.size w w1 from Below.trans (by go_grown) (hb.mono (by simp)))
  have hlt : w.heap.size < w1.heap.size := by have := hb.size; simp at this; omega
  clear hb c0 c2
  rw [errV_0]
  go_wp2_with (go_at_call 107; refine (HO.out _).mono ?_; rintro e w' ⟨rfl, rfl⟩)
  go_ret
  exact ⟨ret_eq (by rw [hr.out]; rfl), HB1.out⟩
 subst h1
 have hr := Zh (show r = decide (n < t) by rw [HB.out]; simp)
 clear HB
 by_cases h2 : n < t
 ·go_enter Tryz.func73, Tryz.ntmps73
  go_wp2_with fail
  refine (HC.out _).mono ?_
  rintro e w1 ⟨rfl, hb⟩
  have d0 := (hb.cell (p := ⟨w.heap.size, 0, none⟩) (by simp)).trans c0
  have d2 := (hb.cell (p := ⟨w.heap.size, 2, none⟩) (by simp)).trans c2
  have HB1 := Zh (show Below w.heap.size w w1 from Below.trans (by go_grown) (hb.mono (by simp)))
  have hlt : w.heap.size < w1.heap.size := by have := hb.size; simp at this; omega
  clear hb c0 c2
  rw [errV_0]
  go_wp2_with (go_at_call 107; refine (HO.out _).mono ?_; rintro e w' ⟨rfl, rfl⟩)
  go_ret
  exact ⟨ret_eq (by rw [hr.out]; simp [h2]), HB1.out⟩
 ·go_enter Tryz.func73, Tryz.ntmps73
  go_wp2_with fail
  refine (HC.out _).mono ?_
  rintro e w1 ⟨rfl, hb⟩
  have d0 := (hb.cell (p := ⟨w.heap.size, 0, none⟩) (by simp)).trans c0
  have d2 := (hb.cell (p := ⟨w.heap.size, 2, none⟩) (by simp)).trans c2
  have HB1 := Zh (show Below w.heap.size w w1 from Below.trans (by go_grown) (hb.mono (by simp)))
  have hlt : w.heap.size < w1.heap.size := by have := hb.size; simp at this; omega
  clear hb c0 c2
  rw [errV_0]
  go_wp2_with (go_at_call 107; refine (HO.out _).mono ?_; rintro e w' ⟨rfl, rfl⟩)
  go_ret
  exact ⟨ret_eq (by rw [hr.out]; simp [h2]), HB1.out⟩
theorem lfree_zero (w : World) : Calls Tryz.prog 109 #[.agg #[.int .i64 0, .int .i64 0, .int .i64 0], .int .i64 0, .int .i64 2] w fun e w' => e = .returned (.bool true) ∧ Below w.heap.size w w' := by
 go_enter Tryz.func109, Tryz.ntmps109
 have c0 : (w.alloc (.cells #[.int .i64 0, .int .i64 0, .int .i64 0] 25)).cell? ⟨w.heap.size, 0, none⟩ = some (.int .i64 0) := by simp [go_sem]
 go_wp2_with fail
 refine (lchk_any ⟨0, 0, 0⟩ _).mono ?_
 rintro e w1 ⟨rfl, hb⟩
 have d0 := (hb.cell (p := ⟨w.heap.size, 0, none⟩) (by simp)).trans c0
 have HB1 := Zh (show Below w.heap.size w w1 from Below.trans (by go_grown) (hb.mono (by simp)))
 have hlt : w.heap.size < w1.heap.size := by have := hb.size; simp at this; omega
 clear hb c0
 rw [show errV (Ls.chk ⟨0, 0, 0⟩) = .nilIface from rfl]
 have d3 : (w1.alloc (.cells #[.int .i64 0, .int .i64 2] 3)).cell? ⟨w.heap.size, 0, none⟩ = some (.int .i64 0) := by simp [go_sem, d0, hlt]
 go_wp2_with (go_at_call 108; refine (lin2_any 0 2 _ _ (by simp [go_sem]) (by simp [go_sem])).mono ?_; rintro e w' ⟨rfl, rfl⟩; rw [show (inE 0 && inE 2) = true from rfl])
 go_ret
 exact ⟨rfl, HB1.out.trans (Below.mono (by go_grown) HB1.out.size)⟩
set_option maxHeartbeats 1000000 in
theorem lgrant_one (w : World) : Calls Tryz.prog 62 #[.agg #[.int .i64 0, .int .i64 0, .int .i64 0], .int .i64 1, .int .i64 0, .int .i64 10, .int .i64 2] w fun e w' => e = .returned (.tuple #[.agg #[.int .i64 1, .int .i64 1, .int .i64 10], .nilIface]) ∧ Below w.heap.size w w' := by
 have H0 := Zh (((Sep.start w).allocAt w.heap.size [.int .i64 0, .int .i64 0, .int .i64 0] 25 rfl).allocAt (w.heap.size + 1) [.int .i64 0, .int .i64 0, .int .i64 0] 25 (by simp))
 go_enter Tryz.func62, Tryz.ntmps62
 go_upto_region 1 with fail
 obtain ⟨w1, hw1⟩ : ∃ w1, (w.alloc (.cells #[.int .i64 0, .int .i64 0, .int .i64 0] 25)).alloc (.cells #[.int .i64 0, .int .i64 0, .int .i64 0] 25) = w1 := ⟨_, rfl⟩
 rw [hw1]
 have H1 := Zh (show Sep w NoF [.box (w.heap.size + 1) [.int .i64 0, .int .i64 0, .int .i64 0] 25, .box w.heap.size [.int .i64 0, .int .i64 0, .int .i64 0] 25] w1 by rw [← hw1]; exact H0.out)
 clear hw1 H0
 obtain ⟨A, hA⟩ : ∃ A, A = w.heap.size := ⟨_, rfl⟩
 obtain ⟨B, hB⟩ : ∃ B, B = w.heap.size + 1 := ⟨_, rfl⟩
 rw [← hB, ← hA] at H1
 try simp only [← hB]
 try simp only [← hA]
 clear hA hB
 have a0 := H1.out.cell 1 rfl 0 rfl; have a1 := H1.out.cell 1 rfl 1 rfl; have a2 := H1.out.cell 1 rfl 2 rfl; have al := H1.out.lt 1 rfl
 go_wp2_with fail
 refine (lchk_any ⟨0, 0, 0⟩ _).mono ?_
 rintro e w2 ⟨rfl, hb⟩
 have H2 := Zh (H1.out.below hb)
 rw [show errV (Ls.chk ⟨0, 0, 0⟩) = .nilIface from rfl]
 clear hb H1 a0 a1 a2 al
 have a0 := H2.out.cell 1 rfl 0 rfl; have a1 := H2.out.cell 1 rfl 1 rfl; have a2 := H2.out.cell 1 rfl 2 rfl; have al := H2.out.lt 1 rfl
 go_wp2_with fail
 have H3 := Zh (H2.out.allocAt w2.heap.size [.int .i64 1, .int .i64 0, .int .i64 (max 0 10)] 25 rfl)
 clear H2 a0 a1 a2 al
 generalize w2.alloc (.cells #[.int .i64 1, .int .i64 0, .int .i64 (max 0 10)] 25) = w3 at *
 generalize w2.heap.size = C at *
 have a0 := H3.out.cell 2 rfl 0 rfl; have a1 := H3.out.cell 2 rfl 1 rfl; have a2 := H3.out.cell 2 rfl 2 rfl; have al := H3.out.lt 2 rfl
 refine (lowner_any 1 _).mono ?_
 rintro e w' ⟨rfl, rfl⟩
 rw [show ownB 1 = true from rfl]
 go_wp2_with (go_at_call 108; refine (lin3_any 0 10 2 _ _ (by simp [go_sem]) (by simp [go_sem]) (by simp [go_sem])).mono ?_; rintro e w' ⟨rfl, rfl⟩; rw [show (inE 0 && (inE 10 && inE 2)) = true from rfl])
 have H4 := Zh (H3.out.below (w' := w3.alloc (.cells #[.int .i64 0, .int .i64 10, .int .i64 2] 3)) (by go_grown))
 clear H3 a0 a1 a2 al
 generalize w3.alloc (.cells #[.int .i64 0, .int .i64 10, .int .i64 2] 3) = w4 at *
 refine (lfree_zero _).mono ?_
 rintro e w5 ⟨rfl, hb⟩
 have H5 := Zh (H4.out.below hb)
 clear hb H4
 have a0 := H5.out.cell 2 rfl 0 rfl; have a1 := H5.out.cell 2 rfl 1 rfl; have a2 := H5.out.cell 2 rfl 2 rfl; have al := H5.out.lt 2 rfl
 have b0 := H5.out.cell 0 rfl 0 rfl; have b1 := H5.out.cell 0 rfl 1 rfl; have b2 := H5.out.cell 0 rfl 2 rfl; have bl := H5.out.lt 0 rfl
 have f0 := H5.out.free 0 rfl 0; have f1 := H5.out.free 0 rfl 1; have f2 := H5.out.free 0 rfl 2
 have H6 := Zh (((H5.out.set 0 rfl 0 (.int .i64 1)).set 0 rfl 1 (.int .i64 1)).set 0 rfl 2 (.int .i64 10))
 go_upto_region 11 with fail
 clear H5 a0 a1 a2 al b0 b1 b2 bl f0 f1 f2
 generalize ((w5.setCell ⟨C, 0, none⟩ (.int .i64 1)).setCell ⟨C, 1, none⟩ (.int .i64 1)).setCell ⟨C, 2, none⟩ (.int .i64 10) = w6 at *
 have H6 := Zh (show Sep w NoF [.box C [.int .i64 1, .int .i64 1, .int .i64 10] 25, .box B [.int .i64 0, .int .i64 0, .int .i64 0] 25, .box A [.int .i64 0, .int .i64 0, .int .i64 0] 25] w6 from H6.out)
 have b0 := H6.out.cell 0 rfl 0 rfl; have b1 := H6.out.cell 0 rfl 1 rfl; have b2 := H6.out.cell 0 rfl 2 rfl; have bl := H6.out.lt 0 rfl
 go_wp2_with (go_at_call 108; refine (lin2_any 1 10 _ _ (by simp [go_sem]) (by simp [go_sem])).mono ?_; rintro e w' ⟨rfl, rfl⟩; rw [show (inE 1 && inE 10) = true from rfl]; have H7 := Zh (H6.out.below (w' := w6.alloc (.cells #[.int .i64 1, .int .i64 10] 3)) (by go_grown)); clear H6 b0 b1 b2 bl; generalize w6.alloc (.cells #[.int .i64 1, .int .i64 10] 3) = w7 at *; have b0 := H7.out.cell 0 rfl 0 rfl; have b1 := H7.out.cell 0 rfl 1 rfl; have b2 := H7.out.cell 0 rfl 2 rfl; have bl := H7.out.lt 0 rfl; have r0 := H7.out.cell 1 rfl 0 rfl; have r1 := H7.out.cell 1 rfl 1 rfl; have r2 := H7.out.cell 1 rfl 2 rfl; have rl := H7.out.lt 1 rfl; have f0 := H7.out.free 1 rfl 0; have f1 := H7.out.free 1 rfl 1; have f2 := H7.out.free 1 rfl 2)
 have H8 := (((H7.out.set 1 rfl 0 (.int .i64 1)).set 0 rfl 1 (.int .i64 1)).set 0 rfl 2 (.int .i64 10))
 clear b0 b1 b2 bl r0 r1 r2 rl f0 f1 f2
 generalize ((w7.setCell ⟨B, 0, none⟩ (.int .i64 1)).setCell ⟨B, 1, none⟩ (.int .i64 1)).setCell ⟨B, 2, none⟩ (.int .i64 10) = w8 at *
 have k0 := H8.cell 0 rfl 0 rfl; have k1 := H8.cell 0 rfl 1 rfl; have k2 := H8.cell 0 rfl 2 rfl
 refine bodyPost_ret (v := .tuple #[.agg #[.int .i64 1, .int .i64 1, .int .i64 10], .nilIface]) (by simp [results, Tryz.results62, go_sem, k0, k1, k2]) rfl ?_
 exact ⟨rfl, H8.toBelow⟩
def lsB (o e t : Nat) : List UInt8 := fputB [] (vbs [o, e, t])
def LPutR (o e t : Nat) (w : World) (en : Ending) (w' : World) : Prop := ∃ a c, en = .returned (.tuple #[.slice a (lsB o e t).length c, .nilIface]) ∧ w'.ownsRow w.heap.size 5 1 (.slice a (lsB o e t).length c) (lsB o e t).length (byteVs (lsB o e t)) ∧ Below w.heap.size w w'
theorem lsB_len (o e t : Nat) (h : o < 18446744073709551616 ∧ e < 18446744073709551616 ∧ t < 18446744073709551616) : fputN (vbs [o, e, t]) = 0 ∧ (lsB o e t).length ≤ 1000 := by
 have h1 : (vbs [o, e, t]).length ≤ 10 * 3 := vbs_len (by intro n hn; simp at hn; rcases hn with rfl | rfl | rfl <;> omega)
 refine ⟨by unfold fputN; rw [if_neg (by omega)], ?_⟩
 unfold lsB fputB
 rw [if_neg (by omega), List.nil_append, frameB_len]
 have h2 := vb_len10 (n := (vbs [o, e, t]).length) (by omega)
 omega
theorem us_cells {w : World} {N x y z : Nat} (h0 : w.cell? ⟨N, 0, none⟩ = some (.int .u64 (x : Int))) (h1 : w.cell? ⟨N, 1, none⟩ = some (.int .u64 (y : Int))) (h2 : w.cell? ⟨N, 2, none⟩ = some (.int .u64 (z : Int))) : Us w (.slice (some ⟨N, 0, none⟩) 3 3) [x, y, z] := by
 refine ⟨_, _, rfl, Nat.le_refl _, by unfold maxLen; decide, (fun h => by cases h), fun j u hj => ⟨_, rfl, ?_⟩⟩
 have e1 : (Addr.add ⟨N, 0, none⟩ j) = ⟨N, j, none⟩ := by unfold Addr.add; split <;> simp_all
 rw [e1]
 rcases j with _ | _ | _ | j
 ·cases hj; exact h0
 ·cases hj; exact h1
 ·cases hj; exact h2
 ·cases hj
set_option maxHeartbeats 1000000 in
theorem lput_any (o e t : Nat) (hc : Ls.chk ⟨o, e, t⟩ = 0) (hr : o < 1099511627777 ∧ e < 1099511627777 ∧ t < 1099511627777) (w : World) : Calls Tryz.prog 110 #[.agg #[.int .i64 (o : Int), .int .i64 (e : Int), .int .i64 (t : Int)]] w (LPutR o e t w) := by
 have HC := Zh (show errV (Ls.chk ⟨o, e, t⟩) = .nilIface by rw [hc]; rfl)
 have HL := Zh (lsB_len o e t ⟨by omega, by omega, by omega⟩)
 clear hc
 have H0 := Zh ((Sep.start w).allocAt w.heap.size [.int .i64 (o : Int), .int .i64 (e : Int), .int .i64 (t : Int)] 25 rfl)
 go_enter Tryz.func110, Tryz.ntmps110
 go_upto_region 1 with fail
 obtain ⟨w1, hw1⟩ : ∃ w1, w.alloc (.cells #[.int .i64 (o : Int), .int .i64 (e : Int), .int .i64 (t : Int)] 25) = w1 := ⟨_, rfl⟩
 rw [hw1]
 have H1 := Zh (show Sep w NoF [.box w.heap.size [.int .i64 (o : Int), .int .i64 (e : Int), .int .i64 (t : Int)] 25] w1 by rw [← hw1]; exact H0.out)
 clear hw1 H0
 have a0 := H1.out.cell 0 rfl 0 rfl; have a1 := H1.out.cell 0 rfl 1 rfl; have a2 := H1.out.cell 0 rfl 2 rfl; have al := H1.out.lt 0 rfl
 go_wp2_with fail
 refine (lchk_any ⟨o, e, t⟩ _).mono ?_
 rintro en w2 ⟨rfl, hb⟩
 have H2 := Zh (H1.out.below hb)
 rw [HC.out]
 clear hb H1 a0 a1 a2 al
 have a0 := H2.out.cell 0 rfl 0 rfl; have a1 := H2.out.cell 0 rfl 1 rfl; have a2 := H2.out.cell 0 rfl 2 rfl; have al := H2.out.lt 0 rfl
 go_wp2_with fail
 have HU := us_cells (w := w2.alloc (.cells #[.int .u64 (o : Int), .int .u64 (e : Int), .int .u64 (t : Int)] 229)) (N := w2.heap.size) (x := o) (y := e) (z := t) (by simp [go_sem]) (by simp [go_sem]) (by simp [go_sem])
 have H3 := Zh (H2.out.below (w' := w2.alloc (.cells #[.int .u64 (o : Int), .int .u64 (e : Int), .int .u64 (t : Int)] 229)) (by go_grown))
 clear a0 a1 a2 al H2
 generalize w2.alloc (.cells #[.int .u64 (o : Int), .int .u64 (e : Int), .int .u64 (t : Int)] 229) = w3 at *
 generalize w2.heap.size = D at *
 refine (vPut_any [] none 0 [o, e, t] (some ⟨D, 0, none⟩) 3 w3 (SlV.empty _ _ _ (Nat.zero_le _) (fun _ => rfl)) HU (by intro n hn; simp at hn; rcases hn with rfl | rfl | rfl <;> omega) (by simp) (by simp)).mono ?_
 rintro en w4 ⟨a4, c4, rfl, ho, hb⟩
 rw [List.nil_append] at ho ⊢
 have HO := Zh (SlV.of_own ho)
 have H4 := Zh (H3.out.below hb)
 clear HU ho hb H3
 obtain ⟨tx, htx⟩ : ∃ tx, tx = vbs [o, e, t] := ⟨_, rfl⟩
 rw [← htx] at HO HL ⊢
 have HLS := Zh (show lsB o e t = fputB [] tx by rw [htx]; rfl)
 clear htx
 go_wp2_with fail
 refine (fput_any [] tx none a4 0 c4 w4 (SlV.empty _ _ _ (Nat.zero_le _) (fun _ => rfl)) HO.out (by simp)).mono ?_
 rintro en w5 ⟨a5, c5, rfl, ho, hb⟩
 rw [HL.out.1, errV_0, ← HLS.out]
 rw [← HLS.out] at ho
 have HO5 := Zh (own_base ho H4.out.toBelow.size)
 have H5 := Zh (H4.out.below hb)
 clear ho hb H4
 go_wp2_with fail
 go_ret2
 exact ⟨a5, c5, rfl, HO5.out, H5.out.toBelow⟩
def leaseN : Nm := ⟨#[108, 101, 97, 115, 101]⟩
theorem lease_obj : objNamed leaseN = true := by kernel_rfl
theorem lease_beg : DK.begun leaseN = false := by kernel_rfl
theorem lease_tilde : named (tilde ++ leaseN) = true := by kernel_rfl
abbrev rgB (g p : Nat) (sp bd o e t k : Int) : Asn := .box g [ptrV p, .int .i64 sp, .int .i64 bd, .int .i64 o, .int .i64 e, .int .i64 t, .int .i64 k] 124
abbrev stB (p N : Nat) : Asn := .box p [ptrV N] 217
def dkL (fl : Fl) : Dk := ⟨65536, fl, fl, [], -1, false⟩
def FlOk (fl : Fl) : Prop := fl = [] ∨ ∃ d : List UInt8, d.length ≤ 1000 ∧ fl = [(leaseN, d)]
theorem fl_put {fl : Fl} (h : FlOk fl) (d : List UInt8) (hd : d.length ≤ 1000) : putD (dkL fl) leaseN d = (0, dkL (putL fl leaseN d)) ∧ FlOk (putL fl leaseN d) := by
 have hne : ((tilde ++ leaseN) == leaseN) = false := by kernel_rfl
 have hne2 : (leaseN == (tilde ++ leaseN)) = false := by kernel_rfl
 have hne' : leaseN ≠ tilde ++ leaseN := by intro e; rw [← e] at hne2; simp at hne2
 have hk : (fl.map (·.1)).Nodup ∧ fl.length < 512 ∧ usedF fl ≤ 1000 := by
  rcases h with rfl | ⟨d0, h0, rfl⟩
  ·simp [usedF]
  ·simp [usedF]; exact h0
 refine ⟨?_, ?_⟩
 ·rcases putD_cases 65536 fl (-1) leaseN d hk.1 lease_obj lease_beg lease_tilde (by omega) hk.2.1 (by have := hk.2.2; omega) with ⟨f', h1, h2⟩ | ⟨h1, _⟩
  ·unfold dkL
   rw [h1, h2 rfl]
  ·exact absurd rfl h1
 ·rcases h with rfl | ⟨d0, h0, rfl⟩
  ·refine .inr ⟨d, hd, ?_⟩
   simp [putL, putF, delF, hne, hne2]
  ·refine .inr ⟨d, hd, ?_⟩
   simp [putL, putF, delF, hne, hne2, hne']
theorem dkL_ok {fl : Fl} (h : FlOk fl) : Ok 1024 (dkL fl) := by
 have hg : DK.Good fl ∧ fl.length ≤ 1 := by
  rcases h with rfl | ⟨d, hd, rfl⟩
  ·exact ⟨DK.Good.nil, by simp⟩
  ·refine ⟨⟨by simp, fun f hf => ?_⟩, by simp⟩
   have := hd
   obtain rfl := List.mem_singleton.1 hf
   exact ⟨by kernel_rfl, by show d.length ≤ _; omega⟩
 exact ⟨by show fl.length + 0 ≤ _; omega, by show fl.length ≤ _; omega, hg.1, hg.1, (by intro c hc; exact absurd (show c ∈ [] from hc) (by simp)), by show (0 : Int) ≤ 65536 ∧ (65536 : Int) ≤ 1073741824; decide, by show (-1 : Int) ≤ -1 ∧ (-1 : Int) < _; decide⟩
set_option maxHeartbeats 1000000 in
theorem ropen_new {N : Nat} {G : Nat → Prop} (w : World) (h : (Asn.disk N (dkL []) G).holds w) : Calls Tryz.prog 43 #[ptrV N, .int .i64 10, .int .i64 2] w fun e w' => ∃ g p G', e = .returned (.tuple #[ptrV g, .nilIface]) ∧ Sep w G [rgB g p 10 2 0 0 0 0, stB p N, Asn.disk N (dkL []) G'] w' := by
 have HO := Zh (sopen_any (m := 1024) w h (dkL_ok (.inl rfl)) (by decide) (by show (0 : Nat) ≤ _; decide))
 rw [show openD (namesOf (dkL []).shown) (dkL []) = (0, dkL []) from open_new 65536] at HO
 go_enter Tryz.func43, Tryz.ntmps43
 go_wp2_with fail
 refine HO.out.mono ?_
 rintro en w1 (⟨h0, _⟩ | ⟨_, p, G1, rfl, h1⟩)
 ·exact absurd rfl h0
 have H2 := Zh (h1.allocAt w1.heap.size [ptrV p, .int .i64 10, .int .i64 2, .int .i64 0, .int .i64 0, .int .i64 0, .int .i64 0] 124 rfl)
 clear h1 HO
 go_upto_region 7 with fail
 obtain ⟨w2, hw2⟩ : ∃ w2, w1.alloc (.cells #[ptrV p, .int .i64 10, .int .i64 2, .int .i64 0, .int .i64 0, .int .i64 0, .int .i64 0] 124) = w2 := ⟨_, rfl⟩
 rw [hw2]
 have H3 := Zh (show Sep w G [rgB w1.heap.size p 10 2 0 0 0 0, stB p N, Asn.disk N (dkL []) G1] w2 by rw [← hw2]; exact H2.out)
 clear H2 hw2
 generalize w1.heap.size = g at *
 have HG := Zh (get_any7 (m := 1024) leaseN w2 (H3.out.at 2 rfl) ⟨H3.out.cell 1 rfl 0 rfl, H3.out.lt 1 rfl, fun hg => H3.out.off 1 2 rfl rfl (by decide) p rfl hg⟩ (dkL_ok (.inl rfl)))
 rw [show getD (dkL []) leaseN = (4, []) from by unfold getD; rw [if_neg (by rw [lease_obj]; decide)]; rfl] at HG
 go_wp2_with fail
 refine HG.out.mono ?_
 rintro en w3 ⟨ga, gc, rfl, _, hb⟩
 have H4 := Zh (H3.out.below hb)
 clear hb H3 HG
 rw [show errV (4, ([] : List UInt8)).1 = .iface 46 (.int .i64 4) from rfl]
 go_wp2_with fail
 go_ret2
 exact ⟨g, p, G1, rfl, H4.out⟩
set_option maxHeartbeats 2000000 in
theorem rkeep_any {g p N : Nat} {G F : Nat → Prop} {sp bd k o0 e0 t0 : Int} {W : World} {L : List Asn} {fl : Fl} (o e t : Nat) (hc : Ls.chk ⟨o, e, t⟩ = 0) (hr : o < 1099511627777 ∧ e < 1099511627777 ∧ t < 1099511627777) (hf : FlOk fl) (w : World) (h : Sep W F (rgB g p sp bd o0 e0 t0 k :: stB p N :: Asn.disk N (dkL fl) G :: L) w) :
  Calls Tryz.prog 63 #[ptrV g, .agg #[.int .i64 (o : Int), .int .i64 (e : Int), .int .i64 (t : Int)]] w fun en w' => en = .returned .nilIface ∧ ∃ G' fl', FlOk fl' ∧ Sep W F (rgB g p sp bd o e t k :: stB p N :: Asn.disk N (dkL fl') G' :: L) w' := by
 have H0 := Zh (h.allocAt w.heap.size [.int .i64 (o : Int), .int .i64 (e : Int), .int .i64 (t : Int)] 25 rfl)
 have HPU := Zh (fun w' => lput_any o e t hc hr w')
 have HLE := Zh (lsB_len o e t ⟨by omega, by omega, by omega⟩)
 have HFL := Lib.hid' hf
 clear h hc hr hf
 go_enter Tryz.func63, Tryz.ntmps63
 go_upto_region 1 with fail
 obtain ⟨w1, hw1⟩ : ∃ w1, w.alloc (.cells #[.int .i64 (o : Int), .int .i64 (e : Int), .int .i64 (t : Int)] 25) = w1 := ⟨_, rfl⟩
 rw [hw1]
 have H1 := Zh (show Sep W F (.box w.heap.size [.int .i64 (o : Int), .int .i64 (e : Int), .int .i64 (t : Int)] 25 :: rgB g p sp bd o0 e0 t0 k :: stB p N :: Asn.disk N (dkL fl) G :: L) w1 by rw [← hw1]; exact H0.out)
 clear hw1 H0
 generalize w.heap.size = A at *
 have a0 := H1.out.cell 0 rfl 0 rfl; have a1 := H1.out.cell 0 rfl 1 rfl; have a2 := H1.out.cell 0 rfl 2 rfl; have al := H1.out.lt 0 rfl
 go_wp2_with fail
 refine (HPU.out w1).mono ?_
 rintro en w2 ⟨a, c, rfl, ho, hb⟩
 have H2 := Zh (H1.out.belowRow hb ho)
 clear ho hb H1 HPU a0 a1 a2 al
 obtain ⟨d, hd⟩ : ∃ d, d = lsB o e t := ⟨_, rfl⟩
 rw [← hd] at H2 HLE ⊢
 have hdl := HLE.out.2
 have HPF := Zh (fl_put HFL.out d hdl)
 clear hd HLE
 have r0 := H2.out.cell 2 rfl 0 rfl; have rl := H2.out.lt 2 rfl
 have HPT := Zh (put_any7 (m := 1024) leaseN a c d w2 (H2.out.at 4 rfl) ⟨H2.out.cell 3 rfl 0 rfl, H2.out.lt 3 rfl, fun hg => H2.out.off 3 4 rfl rfl (by decide) p rfl hg⟩ (dkL_ok HFL.out) (by decide) (by show (0 : Nat) ≤ _; decide) (SlV.of_own (H2.out.row 0 rfl)) (own_slin (H2.out.row 0 rfl) (fun b hb hg => H2.out.off 0 4 rfl rfl (by decide) b hb hg)))
 rw [HPF.out.1] at HPT
 go_wp2_with fail
 refine HPT.out.mono ?_
 rintro en w3 ⟨rfl, G', hk⟩
 have H3 := Zh (show Sep W F (rgB g p sp bd o0 e0 t0 k :: .box A [.int .i64 (o : Int), .int .i64 (e : Int), .int .i64 (t : Int)] 25 :: Asn.disk N (dkL (putL fl leaseN d)) G' :: .row 5 1 (.slice a d.length c) d.length (byteVs d) :: stB p N :: L) w3 from (((H2.out.focus 4 rfl).call hk).focus 2 rfl).focus 3 rfl)
 clear hk HPT H2 r0 rl
 rw [errV_0]
 have a0 := H3.out.cell 1 rfl 0 rfl; have a1 := H3.out.cell 1 rfl 1 rfl; have a2 := H3.out.cell 1 rfl 2 rfl; have al := H3.out.lt 1 rfl
 have r3 := H3.out.cell 0 rfl 3 rfl; have r4 := H3.out.cell 0 rfl 4 rfl; have r5 := H3.out.cell 0 rfl 5 rfl; have rl := H3.out.lt 0 rfl
 have f3 := H3.out.free 0 rfl 3; have f4 := H3.out.free 0 rfl 4; have f5 := H3.out.free 0 rfl 5
 have H4 := Zh ((((((((H3.out.set 0 rfl 3 (.int .i64 (o : Int))).set 0 rfl 4 (.int .i64 (e : Int))).set 0 rfl 5 (.int .i64 (t : Int))).drop 1).drop 2).focus 2 rfl).focus 1 rfl))
 go_wp2_with fail
 go_ret
 exact ⟨rfl, G', _, HPF.out.2, H4.out⟩
end SL
end Go.Proofs.YtelneaokoiojkaaGreatDoor

namespace Go.Proofs.YtelneaokoiojkaaGreatDoor
namespace SH
open DK
/-- a shelf whose disk has power: m files ever written, at most c acts done -/
def KAt (m c : Nat) (S : Sf) (D : Dk) : Prop := ∃ u n L f, S = ⟨u, n, false⟩ ∧ D = ⟨16777216, L, L, [], f, false⟩ ∧ Ok m D ∧ n ≤ c ∧ u.ok ∧ u.cells.length ≤ c ∧ RepE (V L) u n
theorem KAt.mono {m c m' c' : Nat} {S : Sf} {D : Dk} (h : KAt m c S D) (hm : m ≤ m') (hc : c ≤ c') : KAt m' c' S D := by
 obtain ⟨u, n, L, f, h1, h2, h3, h4, h5, h6, h7⟩ := h
 exact ⟨u, n, L, f, h1, h2, h3.mono hm, Nat.le_trans h4 hc, h5, Nat.le_trans h6 hc, h7⟩
theorem KAt.facts {m c : Nat} {S : Sf} {D : Dk} (h : KAt m c S D) : Ok m D ∧ D.pend = [] ∧ D.down = false ∧ S.br = false ∧ S.u.ok ∧ S.u.cells.length ≤ c ∧ S.n ≤ c := by
 obtain ⟨u, n, L, f, rfl, rfl, h3, h4, h5, h6, h7⟩ := h
 exact ⟨h3, rfl, rfl, rfl, h5, h6, h4⟩
/-- what the disk may be when its power has gone: the shelf then has one of two units -/
def Fell (m c : Nat) (u v : U) (D : Dk) : Prop := Ok m D ∧ AfterC 16777216 D (fun g => ∃ n, n ≤ c ∧ (RepE g u n ∨ RepE g v n))
theorem Fell.facts {m c : Nat} {u v : U} {D : Dk} (h : Fell m c u v D) : Ok m D ∧ D.pend.length ≤ 1 ∧ D.down = true := ⟨h.1, h.2.2.2.1, h.2.2.1⟩
/-- it is opened anew -/
theorem Fell.open {m c : Nat} {u v : U} {D : Dk} (h : Fell m c u v D) (hc : c ≤ 100) (hu : u.cells.length ≤ c) (hv : v.cells.length ≤ c) (ks : List Bool) :
  Ok m (upD (cutD D ks)) ∧ (upD (cutD D ks)).pend = [] ∧ ∃ S' D', openS (upD (cutD D ks)) = (0, S', D') ∧ KAt m c S' D' ∧ (Ueq S'.u u ∨ Ueq S'.u v) := by
 obtain ⟨ho, ha⟩ := h
 have hok := (ho.cut ks).start
 obtain ⟨A, e, n, hn, hP⟩ := up_cut ha ks
 rw [e] at hok ⊢
 have key : ∀ z : U, z.cells.length ≤ c → RepE (V A) z n → ∃ S' D', openS ⟨16777216, A, A, [], -1, false⟩ = (0, S', D') ∧ KAt m c S' D' ∧ Ueq S'.u z := fun z hz ⟨t, ht, hte⟩ => by
  obtain ⟨L', e2, q1, q2, q3, q4⟩ := openS_at 16777216 A hok.shown ht (by omega)
  have hok2 : Ok m ⟨16777216, L', L', [], -1, false⟩ := by
   have h1 := Ok.open hok (namesOf A)
   obtain ⟨L2, e3, _, _, _, _⟩ := open_at 16777216 A hok.shown
   rw [e3] at h1
   have h2 : (openS ⟨16777216, A, A, [], -1, false⟩).2.2 = (openD (namesOf A) ⟨16777216, A, A, [], -1, false⟩).2 := by
    unfold openS
    simp only
    repeat' split
    all_goals rfl
   rw [e2, e3] at h2
   rw [show (⟨16777216, L', L', [], -1, false⟩ : Dk) = ⟨16777216, L2, L2, [], -1, false⟩ from h2]
   exact h1
  have hl := hte.cells.length_eq
  exact ⟨_, _, e2, ⟨t, n, L', -1, rfl, rfl, hok2, hn, ht.ok, by omega, ⟨t, by rw [q1]; exact ht, Ueq.refl _⟩⟩, hte⟩
 refine ⟨hok, rfl, ?_⟩
 rcases hP with hP | hP
 ·obtain ⟨S', D', a1, a2, a3⟩ := key u hu hP
  exact ⟨S', D', a1, a2, .inl a3⟩
 ·obtain ⟨S', D', a1, a2, a3⟩ := key v hv hP
  exact ⟨S', D', a1, a2, .inr a3⟩
end SH
end Go.Proofs.YtelneaokoiojkaaGreatDoor

namespace Go.Proofs.YtelneaokoiojkaaGreatDoor
namespace SL
open DK SH SQ
theorem put_perm {L : Fl} (h : (L.map (·.1)).Nodup) (n : Nm) (d : List UInt8) : (putF L n d).Perm ((n, d) :: delF L n) := by
 refine (List.perm_ext_iff_of_nodup (nodup_of_keys (putF_keys h n d)) ?_).2 (fun p => ?_)
 ·rw [List.nodup_cons]
  refine ⟨fun hm => ?_, nodup_of_keys (delF_keys h n)⟩
  have := (List.mem_filter.1 hm).2
  simp [bne] at this
 ·rw [putF_mem, List.mem_cons]
  unfold delF
  rw [List.mem_filter]
  simp [bne]
theorem used_cons (f : Nm × List UInt8) (L : Fl) : usedF (f :: L) = f.2.length + usedF L := rfl
theorem used_perm {L M : Fl} (h : L.Perm M) : usedF L = usedF M := by
 unfold usedF
 exact (h.map _).sum_nat
theorem used_del_le {L : Fl} (h : (L.map (·.1)).Nodup) (n : Nm) : usedF (delF L n) ≤ usedF L := by
 have := used_del h n
 omega
theorem putL_facts {L : Fl} (h : (L.map (·.1)).Nodup) (n : Nm) (d : List UInt8) : ((putL L n d).map (·.1)).Nodup ∧ (putL L n d).length ≤ L.length + 1 ∧ usedF (putL L n d) ≤ usedF L + d.length := by
 have hA : ((delF (putF L (tilde ++ n) d) (tilde ++ n)).map (·.1)).Nodup := delF_keys (putF_keys h _ _) _
 have pA : (delF (putF L (tilde ++ n) d) (tilde ++ n)).Perm (delF L (tilde ++ n)) := by
  refine (List.perm_ext_iff_of_nodup (nodup_of_keys hA) (nodup_of_keys (delF_keys h _))).2 (fun p => ?_)
  unfold delF
  rw [List.mem_filter, List.mem_filter, putF_mem]
  constructor
  ·rintro ⟨h1 | h1, h2⟩
   ·rw [h1] at h2; simp [bne] at h2
   ·exact ⟨h1.1, h2⟩
  ·rintro ⟨h1, h2⟩
   exact ⟨.inr ⟨h1, by simpa [bne] using h2⟩, h2⟩
 have lA : (delF (putF L (tilde ++ n) d) (tilde ++ n)).length ≤ L.length := by
  rw [pA.length_eq]; exact delF_len _ _
 have uA : usedF (delF (putF L (tilde ++ n) d) (tilde ++ n)) ≤ usedF L := by
  rw [used_perm pA]; exact used_del_le h _
 unfold putL
 generalize delF (putF L (tilde ++ n) d) (tilde ++ n) = A at *
 refine ⟨putF_keys hA n d, ?_, ?_⟩
 ·rw [(put_perm hA n d).length_eq]
  have := delF_len A n
  simp only [List.length_cons]; omega
 ·rw [used_perm (put_perm hA n d), used_cons]
  have := used_del_le hA n
  show d.length + _ ≤ _
  omega
/-- a unit that has never failed: u is its unit; at most k acts were done -/
def Fine (r : Int) (k : Nat) (u : U) (x : Un) : Prop := ∃ n L, x = ⟨⟨r, L, L, [], -1, false⟩, some ⟨u, n, false⟩⟩ ∧ (L.map (·.1)).Nodup ∧ L.length ≤ k ∧ usedF L ≤ 200 * k ∧ n ≤ k ∧ RepE (V L) u n
theorem Fine.new (r : Int) : Fine r 0 U.new ⟨newD r, some ⟨U.new, 0, false⟩⟩ := ⟨0, [], rfl, by simp, Nat.le_refl _, Nat.le_refl _, Nat.le_refl _, _, rep_new, Ueq.refl _⟩
theorem Fine.mono {r : Int} {k m : Nat} {u : U} {x : Un} (h : Fine r k u x) (hk : k ≤ m) : Fine r m u x := by
 obtain ⟨n, L, h1, h2, h3, h4, h5, h6⟩ := h
 exact ⟨n, L, h1, h2, by omega, by omega, by omega, h6⟩
/-- an act with such a unit -/
theorem Fine.act {r : Int} {k : Nat} {u : U} {x : Un} (h : Fine r k u x) (hk : k < 512) (hr : (200 * k + 200 : Nat) ≤ r) (a : Ac) :
  ∃ S D S' D', x = ⟨D, some S⟩ ∧ doS S D a = ((apU u a).1, if (apU u a).1 = 0 then (apU u a).2.1 else 0, S', D') ∧ Fine r (k + 1) (if (apU u a).1 = 0 then (apU u a).2.2 else u) ⟨D', some S'⟩ := by
 obtain ⟨n, L, rfl, h2, h3, h4, h5, h6⟩ := h
 by_cases hx : (apU u a).1 = 0
 ·rcases doS_cases (r := r) (L := L) (f := -1) (u := u) (n := n) (x := a) h2 (by omega) (by omega) (by omega) h6 hx with ⟨f', e, hf, hR⟩ | ⟨hf, _⟩
  ·have hf := hf rfl
   subst hf
   have hp := putL_facts h2 (nameN 114 n) a.put
   have hl := act_len (ap_check hx)
   refine ⟨⟨u, n, false⟩, ⟨r, L, L, [], -1, false⟩, ⟨(apU u a).2.2, n + 1, false⟩, ⟨r, putL L (nameN 114 n) a.put, putL L (nameN 114 n) a.put, [], -1, false⟩, rfl, ?_, ?_⟩
   ·rw [if_pos hx, e, hx]
   ·rw [if_pos hx]
    exact ⟨n + 1, putL L (nameN 114 n) a.put, rfl, hp.1, by omega, by omega, by omega, hR⟩
  ·exact absurd rfl hf
 ·refine ⟨⟨u, n, false⟩, ⟨r, L, L, [], -1, false⟩, ⟨u, n, false⟩, ⟨r, L, L, [], -1, false⟩, rfl, ?_, ?_⟩
  ·rw [if_neg hx]
   show doS ⟨u, n, false⟩ _ a = _
   unfold doS
   rw [if_neg (by simp), if_pos hx]
  ·rw [if_neg hx]
   exact Fine.mono (show Fine r k u _ from ⟨n, L, rfl, h2, h3, h4, h5, h6⟩) (Nat.le_succ k)
theorem Fine.read {r : Int} {k : Nat} {u : U} {x : Un} (h : Fine r k u x) : ∃ S D, x = ⟨D, some S⟩ ∧ ∀ e a, readS S D e a = u.read e a := by
 obtain ⟨n, L, rfl, h2, h3, h4, h5, h6⟩ := h
 refine ⟨_, _, rfl, fun e a => ?_⟩
 unfold readS
 have : looksS ⟨u, n, false⟩ ⟨r, L, L, [], -1, false⟩ = 0 := by unfold looksS; rw [if_neg (by simp)]
 rw [this, if_neg (by decide)]
def u1 : U := ⟨1, 0, []⟩
theorem ap1 : (apU U.new ⟨1, 1, 0, []⟩).1 = 0 ∧ (apU U.new ⟨1, 1, 0, []⟩).2.2 = u1 := by first | exact ⟨rfl, rfl⟩ | exact ⟨by kernel_rfl, by kernel_rfl⟩
end SL
end Go.Proofs.YtelneaokoiojkaaGreatDoor
