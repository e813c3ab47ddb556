/- Proved here: a part of the proof (28 of 31). -/
import Derived.Test.YtelneaokoiojkaaGreatDoorV27
import Derived.Test.YtelneaokoiojkaaGreatDoorV22
import Derived.Test.YtelneaokoiojkaaGreatDoorV7
import Derived.Test.YtelneaokoiojkaaGreatDoorV14
set_option linter.unusedSimpArgs false
set_option linter.unusedVariables false
set_option maxRecDepth 100000
namespace Go.Proofs.YtelneaokoiojkaaGreatDoor
open Go.RowKit
namespace SL
open DK SH SQ
/-- two clocks: what they say, the bound, and whether they ever were too far apart -/
structure Ck where
 a : Int
 b : Int
 m : Int
 un : Bool
abbrev _root_.Go.Proofs.YtelneaokoiojkaaGreatDoor.Asn.clk (k : Nat) (x : Ck) : Asn := .box k [.int .i64 x.a, .int .i64 x.b, .int .i64 x.m, .bool x.un] 115
def inE (x : Int) : Bool := decide (0 ≤ x) && decide (x ≤ 1099511627776)
theorem inE_iff {x : Int} : inE x = true ↔ 0 ≤ x ∧ x ≤ 1099511627776 := by unfold inE; simp
def NewCk (m : Int) (w : World) (en : Ending) (w' : World) : Prop := if inE m = false then en = .returned (.tuple #[.pointer none, errV 1]) ∧ w = w' else en = .returned (.tuple #[ptrV w.heap.size, .nilIface]) ∧ Sep w NoF [Asn.clk w.heap.size ⟨0, 0, m, false⟩] w'
theorem cnew_any (m : Int) (w : World) : Calls Tryz.prog 60 #[.int .i64 m] w (NewCk m w) := by
 have HN := fun en w' => Zh (show NewCk m w en w' = if inE m = false then en = .returned (.tuple #[.pointer none, errV 1]) ∧ w = w' else en = .returned (.tuple #[ptrV w.heap.size, .nilIface]) ∧ Sep w NoF [Asn.clk w.heap.size ⟨0, 0, m, false⟩] w' from rfl)
 by_cases h0 : m < 0
 ·have HR := fun en w' => Zh ((HN en w').out.trans (if_pos (show inE m = false by unfold inE; simp; omega)))
  go_enter Tryz.func60, Tryz.ntmps60
  go_wp2
  go_ret2
  rw [(HR _ _).out]
  exact ⟨rfl, rfl⟩
 ·by_cases h1 : 1099511627776 < m
  ·have HR := fun en w' => Zh ((HN en w').out.trans (if_pos (show inE m = false by unfold inE; simp; omega)))
   go_enter Tryz.func60, Tryz.ntmps60
   go_wp2
   go_ret2
   rw [(HR _ _).out]
   exact ⟨rfl, rfl⟩
  ·have HR := fun en w' => Zh ((HN en w').out.trans (if_neg (show ¬ inE m = false by unfold inE; simp; omega)))
   have HS := Zh ((Sep.start w).allocAt w.heap.size [.int .i64 0, .int .i64 0, .int .i64 m, .bool false] 115 rfl)
   go_enter Tryz.func60, Tryz.ntmps60
   go_wp2
   go_ret2
   rw [(HR _ _).out]
   exact ⟨rfl, HS.out⟩
/-- what a clock says -/
def Ck.now (x : Ck) (i : Int) : Nat × Int := if i = 1 then (0, x.a) else if i = 2 then (0, x.b) else (1, 0)
theorem cnow_any {k : Nat} (x : Ck) (i : Int) (w : World) (c0 : w.cell? ⟨k, 0, none⟩ = some (.int .i64 x.a)) (c1 : w.cell? ⟨k, 1, none⟩ = some (.int .i64 x.b)) (hl : k < w.heap.size) : Calls Tryz.prog 28 #[ptrV k, .int .i64 i] w fun e w' => e = .returned (.tuple #[.int .i64 (x.now i).2, errV (x.now i).1]) ∧ w = w' := by
 by_cases h1 : i = 1
 ·subst h1
  go_enter Tryz.func28, Tryz.ntmps28
  go_wp2
  go_ret2
  exact ⟨rfl, rfl⟩
 ·by_cases h2 : i = 2
  ·subst h2
   go_enter Tryz.func28, Tryz.ntmps28
   go_wp2
   go_ret2
   exact ⟨rfl, rfl⟩
  ·have HF := Zh (show x.now i = (1, 0) by unfold Ck.now; rw [if_neg h1, if_neg h2])
   have b1 : (i != 1) = true := by simpa using h1
   have b2 : (i != 2) = true := by simpa using h2
   clear h1 h2
   go_enter Tryz.func28, Tryz.ntmps28
   go_wp2
   go_ret2
   rw [HF.out]
   exact ⟨rfl, rfl⟩
/-- a lease: whose, its epoch, till when -/
structure Ls where
 o : Int
 e : Int
 t : Int
abbrev Ls.v (l : Ls) : Value := .agg #[.int .i64 l.o, .int .i64 l.e, .int .i64 l.t]
def ownB (x : Int) : Bool := decide (1 ≤ x) && decide (x ≤ 2)
theorem lowner_any (x : Int) (w : World) : Calls Tryz.prog 107 #[.int .i64 x] w fun e w' => e = .returned (.bool (ownB x)) ∧ w = w' := by
 have HB := Zh (show ownB x = (decide (1 ≤ x) && decide (x ≤ 2)) from rfl)
 by_cases h0 : 1 ≤ x
 ·by_cases h1 : x ≤ 2
  ·go_enter Tryz.func107, Tryz.ntmps107
   go_wp2
   go_ret
   rw [HB.out]
   exact ⟨by simp [h0, h1], rfl⟩
  ·go_enter Tryz.func107, Tryz.ntmps107
   go_wp2
   go_ret
   rw [HB.out]
   exact ⟨by simp [h0, h1], rfl⟩
 ·go_enter Tryz.func107, Tryz.ntmps107
  go_wp2
  go_ret
  rw [HB.out]
  exact ⟨by simp; omega, rfl⟩
theorem lin_any (l : List Int) (a : Option Addr) (c : Nat) (w : World) (h : Zs w (.slice a l.length c) l) :
  Calls Tryz.prog 108 #[.slice a l.length c] w fun e w' => e = .returned (.bool (l.all inE)) ∧ w = w' := by
 have HS := Lib.hid' h
 have hlen := h.len
 obtain ⟨r, hr⟩ : ∃ r, r = l.all inE := ⟨_, rfl⟩
 rw [← hr]
 have HR := Lib.hid' hr
 clear h hr
 go_enter Tryz.func108, Tryz.ntmps108
 go_wp2_with fail
 go_loop [7] (fun v7 => ∃ k : Nat, v7 = .int .i64 k ∧ k ≤ l.length ∧ Hid (∀ y ∈ l.take k, inE y = true)) (fun v7 => l.length - (intOf v7).toNat)
 case atStart => exact ⟨0, rfl, Nat.zero_le _, Zh (by simp)⟩
 case round =>
  obtain ⟨k, rfl, hk, HNO⟩ := hrel
  by_cases hlt : k < l.length
  ·obtain ⟨b, off, rfl, hb, hc⟩ := HS.out.at hlt
   have HH := Zh (fun h2 : ¬ inE l[k] = true => (show l.all inE = false by rw [Bool.eq_false_iff]; intro h3; exact h2 (List.all_eq_true.1 h3 _ (List.getElem_mem hlt))))
   have HT := Zh (fun h2 : inE l[k] = true => (show ∀ y ∈ l.take (k + 1), inE y = true by
    intro y hy
    rw [List.take_succ_eq_append_getElem hlt] at hy
    rcases List.mem_append.1 hy with h | h
    ·exact HNO.out y h
    ·obtain rfl := List.mem_singleton.1 h; exact h2))
   generalize l[k] = y at *
   by_cases h0 : y < 0
   ·have HF := Zh (HR.out.trans (HH.out (by rw [inE_iff]; omega)))
    go_wp2_with fail
    go_ret
    exact ⟨ret_eq (by rw [HF.out]; rfl), rfl⟩
   ·by_cases h1 : 1099511627776 < y
    ·have HF := Zh (HR.out.trans (HH.out (by rw [inE_iff]; omega)))
     go_wp2_with fail
     go_ret
     exact ⟨ret_eq (by rw [HF.out]; rfl), rfl⟩
    ·have HF := Zh (HT.out (by rw [inE_iff]; omega))
     go_wp2_with fail
     go_round
     case rel => exact ⟨k + 1, by go_num, by omega, HF⟩
     case measure => simp [intOf]; omega
  ·have HF := Zh (show r = true by
    rw [HR.out]
    have h1 := HNO.out
    rw [List.take_of_length_le (by omega)] at h1
    exact List.all_eq_true.2 h1)
   go_wp2_with fail
   go_ret
   exact ⟨ret_eq (by rw [HF.out]; rfl), rfl⟩
theorem zs_cells {w : World} {N : Nat} {l : List Int} (hm : l.length ≤ 1000) (h : ∀ (j : Nat) (x : Int), l[j]? = some x → w.cell? ⟨N, j, none⟩ = some (.int .i64 x)) : Zs w (.slice (some ⟨N, 0, none⟩) l.length l.length) l := by
 refine ⟨_, _, rfl, Nat.le_refl _, by unfold maxLen; omega, (fun h => by cases h), fun j u hj => ⟨_, rfl, ?_⟩⟩
 have e1 : (Addr.add ⟨N, 0, none⟩ j) = ⟨N, j, none⟩ := by unfold Addr.add; split <;> simp_all
 rw [e1]
 unfold zVs at hj
 rw [List.getElem?_map] at hj
 cases hq : l[j]? with
 | none => rw [hq] at hj; cases hj
 | some x => rw [hq] at hj; cases hj; exact h j x hq
theorem lin2_any (x y : Int) (N : Nat) (w : World) (c0 : w.cell? ⟨N, 0, none⟩ = some (.int .i64 x)) (c1 : w.cell? ⟨N, 1, none⟩ = some (.int .i64 y)) : Calls Tryz.prog 108 #[.slice (some ⟨N, 0, none⟩) 2 2] w fun e w' => e = .returned (.bool (inE x && inE y)) ∧ w = w' := by
 have h := lin_any [x, y] (some ⟨N, 0, none⟩) 2 w (zs_cells (l := [x, y]) (by simp) (fun j z hj => by
  rcases j with _ | _ | j
  ·cases hj; exact c0
  ·cases hj; exact c1
  ·cases hj))
 simpa using h
theorem lin3_any (x y z : Int) (N : Nat) (w : World) (c0 : w.cell? ⟨N, 0, none⟩ = some (.int .i64 x)) (c1 : w.cell? ⟨N, 1, none⟩ = some (.int .i64 y)) (c2 : w.cell? ⟨N, 2, none⟩ = some (.int .i64 z)) : Calls Tryz.prog 108 #[.slice (some ⟨N, 0, none⟩) 3 3] w fun e w' => e = .returned (.bool (inE x && (inE y && inE z))) ∧ w = w' := by
 have h := lin_any [x, y, z] (some ⟨N, 0, none⟩) 3 w (zs_cells (l := [x, y, z]) (by simp) (fun j z hj => by
  rcases j with _ | _ | _ | j
  ·cases hj; exact c0
  ·cases hj; exact c1
  ·cases hj; exact c2
  ·cases hj))
 simpa using h
def Ls.chk (l : Ls) : Nat := if l.o ≠ 0 ∧ ownB l.o = false then 1 else if (inE l.e && inE l.t) = false then 1 else if l.o = 0 ∧ l.t ≠ 0 then 2 else 0
set_option maxHeartbeats 1000000 in
theorem lchk_any (l : Ls) (w : World) : Calls Tryz.prog 106 #[l.v] w fun e w' => e = .returned (errV l.chk) ∧ Below w.heap.size w w' := by
 obtain ⟨o, ep, t⟩ := l
 have HC := fun n => Zh (show Ls.chk ⟨o, ep, t⟩ = n ↔ (if o ≠ 0 ∧ ownB o = false then 1 else if (inE ep && inE t) = false then 1 else if o = 0 ∧ t ≠ 0 then 2 else 0) = n from Iff.rfl)
 have HE := Zh (fun (N : Nat) (w' : World) => lin2_any ep t N w')
 have HO := Zh (fun (w' : World) => lowner_any o w')
 try simp only at *
 generalize hI : (inE ep && inE t) = i at *
 generalize hB : ownB o = ob at *
 have HB := Lib.hid' hB
 clear hI hB
 by_cases ho : o = 0
 ·subst ho
  cases i with
  | false =>
   have HR := Zh (show Ls.chk ⟨0, ep, t⟩ = 1 from (HC 1).out.2 (by simp))
   go_enter Tryz.func106, Tryz.ntmps106
   go_wp2_with (go_at_call 108; refine (HE.out _ _ (by simp [go_sem]) (by simp [go_sem])).mono ?_; rintro e w' ⟨rfl, rfl⟩)
   go_ret
   rw [HR.out]
   exact ⟨rfl, by go_grown⟩
  | true =>
   by_cases ht : t = 0
   ·subst ht
    have HR := Zh (show Ls.chk ⟨0, ep, 0⟩ = 0 from (HC 0).out.2 (by simp))
    go_enter Tryz.func106, Tryz.ntmps106
    go_wp2_with (go_at_call 108; refine (HE.out _ _ (by simp [go_sem]) (by simp [go_sem])).mono ?_; rintro e w' ⟨rfl, rfl⟩)
    go_ret
    rw [HR.out]
    exact ⟨rfl, by go_grown⟩
   ·have HR := Zh (show Ls.chk ⟨0, ep, t⟩ = 2 from (HC 2).out.2 (by simp [ht]))
    go_enter Tryz.func106, Tryz.ntmps106
    go_wp2_with (go_at_call 108; refine (HE.out _ _ (by simp [go_sem]) (by simp [go_sem])).mono ?_; rintro e w' ⟨rfl, rfl⟩)
    go_ret
    rw [HR.out]
    exact ⟨rfl, by go_grown⟩
 ·cases ob with
  | false =>
   have HR := Zh (show Ls.chk ⟨o, ep, t⟩ = 1 from (HC 1).out.2 (by simp [ho]))
   go_enter Tryz.func106, Tryz.ntmps106
   go_wp2_with (go_at_call 107; refine (HO.out _).mono ?_; rintro e w' ⟨rfl, rfl⟩)
   go_ret
   rw [HR.out]
   exact ⟨rfl, by go_grown⟩
  | true =>
   cases i with
   | false =>
    have HR := Zh (show Ls.chk ⟨o, ep, t⟩ = 1 from (HC 1).out.2 (by simp))
    go_enter Tryz.func106, Tryz.ntmps106
    go_wp2_with (first | (go_at_call 107; refine (HO.out _).mono ?_; rintro e w' ⟨rfl, rfl⟩) | (go_at_call 108; refine (HE.out _ _ (by simp [go_sem]) (by simp [go_sem])).mono ?_; rintro e w' ⟨rfl, rfl⟩))
    go_ret
    rw [HR.out]
    exact ⟨rfl, by go_grown⟩
   | true =>
    have HR := Zh (show Ls.chk ⟨o, ep, t⟩ = 0 from (HC 0).out.2 (by simp [ho]))
    go_enter Tryz.func106, Tryz.ntmps106
    go_wp2_with (first | (go_at_call 107; refine (HO.out _).mono ?_; rintro e w' ⟨rfl, rfl⟩) | (go_at_call 108; refine (HE.out _ _ (by simp [go_sem]) (by simp [go_sem])).mono ?_; rintro e w' ⟨rfl, rfl⟩))
    go_ret
    rw [HR.out]
    exact ⟨rfl, by go_grown⟩
end SL
end Go.Proofs.YtelneaokoiojkaaGreatDoor
