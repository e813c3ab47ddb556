/- Proved here: a part of the proof (29 of 31). -/
import Derived.Test.YtelneaokoiojkaaGreatDoorV25
import Derived.Test.YtelneaokoiojkaaGreatDoorV2
import Derived.Lib.IfaceNeq
import Derived.Deep.DeepCutAuto
import Derived.Deep.CutBlock
import Derived.Test.YtelneaokoiojkaaGreatDoorV24
import Derived.Test.YtelneaokoiojkaaGreatDoorV15
import Derived.Test.YtelneaokoiojkaaGreatDoorV7
import Derived.Test.YtelneaokoiojkaaGreatDoorV1
import Derived.Test.YtelneaokoiojkaaGreatDoorV8
import Derived.Test.YtelneaokoiojkaaGreatDoorV11
import Derived.Test.YtelneaokoiojkaaGreatDoorV26
import Derived.Laws.LoneSync
import Derived.IntWalk
import Derived.Test.YtelneaokoiojkaaGreatDoorV30
import Derived.Test.YtelneaokoiojkaaGreatDoorV3
set_option linter.unusedSimpArgs false
set_option linter.unusedVariables false
set_option maxRecDepth 100000
namespace Go.Proofs.YtelneaokoiojkaaGreatDoor
open Go.RowKit
namespace SL
open DK SH SQ
@[go_sem] theorem neq_err (w : World) (a b : Int) : (binOp .neq 27 (.iface 46 (.int .i64 a)) (.iface 46 (.int .i64 b))).run Tryz.prog w = .ok (.bool (!(a == b))) w := Go.Lib.run_neq_iface_int w a b undErr (by kernel_rfl) Tryz.underlying46
@[go_sem] theorem neq_nilerr (w : World) (u : TypeId) (x : Value) : (binOp .neq 27 .nilIface (.iface u x)).run Tryz.prog w = .ok (.bool true) w := by
 have h : ∀ d : Nat, (Op.equalIn (d + 1) 27 .nilIface (.iface u x)).run Tryz.prog w = .ok false w := fun d => by simp [Op.equalIn, run_underlying undErr]
 simp only [binOp]
 simp [Op.equal, Op.maxDepth, h 9999]
end SL
end Go.Proofs.YtelneaokoiojkaaGreatDoor

namespace Go.Proofs.YtelneaokoiojkaaGreatDoor
open Go.RowKit
namespace SL
open DK SH SQ
/-- what stays as it is while cells are put -/
structure Stay (M M' : Cl) : Prop where
 us : M'.us.length = M.us.length
 p : M'.p = M.p
 q : M'.q = M.q
theorem Stay.refl (M : Cl) : Stay M M := ⟨rfl, rfl, rfl⟩
theorem Stay.do {M M' : Cl} (h : Stay M M') (u : Nat) (x : Ac) : Stay M (M'.do u x).2.2 := by
 have := Cl.do_len M' u x
 exact ⟨this.1.trans h.us, this.2.1.trans h.p, this.2.2.trans h.q⟩
end SL
end Go.Proofs.YtelneaokoiojkaaGreatDoor

namespace Go.Proofs.YtelneaokoiojkaaGreatDoor
open Go.RowKit
namespace SL
open DK SH SQ
theorem inB_iff {a m : Int} : inB a m = true ↔ 0 ≤ a ∧ a ≤ m := by unfold inB; simp
end SL
end Go.Proofs.YtelneaokoiojkaaGreatDoor

namespace Go.Proofs.YtelneaokoiojkaaGreatDoor
open Go.RowKit
namespace SL
open DK SH SQ
theorem flat_le {X : List (List Int)} (h : ∀ x ∈ X, x.length ≤ 4) : X.flatten.length ≤ 4 * X.length := by
 induction X with
 | nil => simp
 | cons x X ih =>
  rw [List.flatten_cons, List.length_append, List.length_cons]
  have h1 := h x List.mem_cons_self
  have h2 := ih (fun y hy => h y (List.mem_cons_of_mem _ hy))
  omega
theorem all_len {p : Pj} (h : PjOk p) : p.all.length ≤ 16 := by
 have h1 := flat_le (X := p.cs) (fun x hx => (h.each x hx).2)
 have h2 := h.n.2
 unfold Pj.all
 omega
end SL
end Go.Proofs.YtelneaokoiojkaaGreatDoor

namespace Go.Proofs.YtelneaokoiojkaaGreatDoor
open Go.RowKit
namespace SL
open DK SH SQ
/-- where the cluster has a unit's disk, and its shelf -/
theorem ClAt.rows {c : Nat} {M : Cl} {J : CJ} {L : List Asn} {W w : World} (h : ClAt c M J L W w) : ∃ a k, w.cell? ⟨c, 0, none⟩ = some (.slice a M.us.length k) ∧ c < w.heap.size := by
 obtain ⟨P, rfl, hP, H⟩ := h
 have h0 := H.row 2 rfl
 have hl : P.Us.length = M.us.length := by rw [← hP.us, List.length_map]
 obtain ⟨a, k, hv, _⟩ := SlV.of_own h0
 have c0 := H.cell 0 rfl 0 rfl
 rw [hv, hl] at c0
 exact ⟨a, k, c0, H.lt 0 rfl⟩
@[go_sem] theorem neq_shelf_nil (w : World) : (binOp .neq 212 (.pointer none) (.pointer none)).run Tryz.prog w = .ok (.bool false) w := by kernel_rfl
@[go_sem] theorem neq_shelf_ptr (b : Nat) (w : World) : (binOp .neq 212 (ptrV b) (.pointer none)).run Tryz.prog w = .ok (.bool true) w := by kernel_rfl
end SL
end Go.Proofs.YtelneaokoiojkaaGreatDoor

namespace Go.Proofs.YtelneaokoiojkaaGreatDoor
open Go.RowKit
namespace SL
open DK SH SQ
/-- a unit's epoch; none: 0 -/
def Cl.epochU (M : Cl) (u : Int) : Int := match M.us[u.toNat]? with
 | some ⟨_, some S⟩ => S.u.e
 | _ => 0
def Cl.maxE (M : Cl) (l : List Int) (e : Int) : Int := l.foldl (fun e u => max e (M.epochU u)) e
def Cl.later (M : Cl) (l : List Int) : Int := M.maxE l M.p.e + 1
end SL
end Go.Proofs.YtelneaokoiojkaaGreatDoor

namespace Go.Proofs.YtelneaokoiojkaaGreatDoor
open Go.RowKit
namespace SL
open DK SH SQ
theorem shin_any (x m : Int) (w : World) : Calls Tryz.prog 121 #[.int .i64 x, .int .i64 m] w fun e w' => e = .returned (.bool (inB x m)) ∧ w = w' := by
 have HB := Zh (show inB x m = (decide (0 ≤ x) && decide (x ≤ m)) from rfl)
 by_cases h0 : 0 ≤ x
 ·by_cases h1 : x ≤ m
  ·go_enter Tryz.func121, Tryz.ntmps121
   go_wp2
   go_ret
   rw [HB.out]
   exact ⟨by simp [h0, h1], rfl⟩
  ·go_enter Tryz.func121, Tryz.ntmps121
   go_wp2
   go_ret
   rw [HB.out]
   exact ⟨by simp [h0, h1], rfl⟩
 ·go_enter Tryz.func121, Tryz.ntmps121
  go_wp2
  go_ret
  rw [HB.out]
  exact ⟨by simp; omega, rfl⟩
/-- a shipper: its epoch, up to where all was applied -/
structure Sp where
 e : Int
 a : Int
abbrev _root_.Go.Proofs.YtelneaokoiojkaaGreatDoor.Asn.ship (s : Nat) (p : Sp) : Asn := .box s [.int .i64 p.e, .int .i64 p.a] 198
/-- a shipper is made -/
def NewSp (e a : Int) (w : World) (en : Ending) (w' : World) : Prop := if inB e 1099511627776 = false ∨ inB a 1048576 = false then en = .returned (.tuple #[.pointer none, errV 1]) ∧ w = w' else en = .returned (.tuple #[ptrV w.heap.size, .nilIface]) ∧ Sep w NoF [Asn.ship w.heap.size ⟨e, a⟩] w'
set_option maxHeartbeats 4000000 in
theorem snew_any (e a : Int) (w : World) : Calls Tryz.prog 76 #[.int .i64 e, .int .i64 a] w (NewSp e a w) := by
 have HN := fun en w' => Zh (show NewSp e a w en w' = if inB e 1099511627776 = false ∨ inB a 1048576 = false then en = .returned (.tuple #[.pointer none, errV 1]) ∧ w = w' else en = .returned (.tuple #[ptrV w.heap.size, .nilIface]) ∧ Sep w NoF [Asn.ship w.heap.size ⟨e, a⟩] w' from rfl)
 cases hi1 : inB e 1099511627776 with
 | false =>
  have HR := fun en w' => Zh ((HN en w').out.trans (if_pos (.inl hi1)))
  go_enter Tryz.func76, Tryz.ntmps76
  go_wp2_with (go_at_call 121; refine (shin_any _ _ _).mono ?_; rintro en w' ⟨rfl, rfl⟩)
  go_ret2
  rw [(HR _ _).out]
  exact ⟨rfl, rfl⟩
 | true =>
  cases hi2 : inB a 1048576 with
  | false =>
   have HR := fun en w' => Zh ((HN en w').out.trans (if_pos (.inr hi2)))
   go_enter Tryz.func76, Tryz.ntmps76
   go_wp2_with (go_at_call 121; refine (shin_any _ _ _).mono ?_; rintro en w' ⟨rfl, rfl⟩)
   go_ret2
   rw [(HR _ _).out]
   exact ⟨rfl, rfl⟩
  | true =>
   have HR := fun en w' => Zh ((HN en w').out.trans (if_neg (by rw [hi1, hi2]; decide)))
   have hs1 : Sep w NoF [.box w.heap.size [.int .i64 e, .int .i64 0] 198] (w.alloc (.cells #[.int .i64 e, .int .i64 0] 198)) := (Sep.start w).allocAt w.heap.size [.int .i64 e, .int .i64 0] 198 rfl
   have HS1 := Lib.hid' hs1
   have HS2 := Zh (hs1.set 0 rfl 1 (.int .i64 a))
   clear hs1
   go_enter Tryz.func76, Tryz.ntmps76
   go_upto_region 4 with (go_at_call 121; refine (shin_any _ _ _).mono ?_; rintro en w' ⟨rfl, rfl⟩)
   generalize w.alloc (.cells #[.int .i64 e, .int .i64 0] 198) = w1 at *
   generalize w.heap.size = N at *
   have sl := HS1.out.lt 0 rfl
   go_wp2_with fail
   refine (astore_any (o := 1) _ (HS1.out.cell 0 rfl 1 rfl) (HS1.out.free 0 rfl 1)).mono ?_
   rintro en w2 ⟨rfl, rfl⟩
   go_wp2_with fail
   go_ret2
   rw [(HR _ _).out]
   exact ⟨rfl, HS2.out⟩
theorem sacked_any {s : Nat} {a : Int} (w : World) (c1 : w.cell? ⟨s, 1, none⟩ = some (.int .i64 a)) (sl : s < w.heap.size) : Calls Tryz.prog 57 #[ptrV s] w fun e w' => e = .returned (.int .i64 a) ∧ w = w' := by
 have C1 := Lib.hid' c1
 clear c1
 go_enter Tryz.func57, Tryz.ntmps57
 go_wp2_with fail
 refine (aload_any (o := 1) _ C1.out).mono ?_
 rintro en wz ⟨rfl, rfl⟩
 go_wp2_with fail
 go_ret
 exact ⟨rfl, rfl⟩
end SL
end Go.Proofs.YtelneaokoiojkaaGreatDoor

namespace Go.Proofs.YtelneaokoiojkaaGreatDoor
open Go.RowKit
namespace SL
open DK SH SQ
/-- what a cluster goes on with, in its box -/
structure Bd where
 e : Int
 J : CJ
 sa : Option Addr
 sc : Nat
 st : List Int
 low : Int
/-- what a rebuilding's walk leans on: the rows of what comes next, and of what stays -/
structure BdOk (c : Nat) (n : Nat) (J : CJ) (L : List Asn) (W : World) (b : Bd) : Prop where
 ch : ∀ M' w', ClAt c M' J L W w' → Chs w' b.J.a b.J.c b.J.Ks
 st : ∀ M' w', ClAt c M' J L W w' → Zs w' (.slice b.sa b.st.length b.sc) b.st
 pj : PjOk ⟨b.e, b.J.Ks.map (·.1)⟩
 us : ∀ u ∈ (⟨b.e, b.J.Ks.map (·.1)⟩ : Pj).all, 0 ≤ u ∧ u < (n : Int)
def Bd.units (b : Bd) : List Int := unitsOf (⟨b.e, b.J.Ks.map (·.1)⟩ : Pj).all
theorem BdOk.uf {c n : Nat} {J : CJ} {L : List Asn} {W : World} {b : Bd} (h : BdOk c n J L W b) : b.units.length ≤ 16 ∧ ∀ u ∈ b.units, 0 ≤ u ∧ u < (n : Int) :=
 ⟨Nat.le_trans (unitsOf_len _) (all_len h.pj), fun u hu => h.us u ((unitsOf_mem u _).1 hu)⟩
end SL
end Go.Proofs.YtelneaokoiojkaaGreatDoor

namespace Go.Proofs.YtelneaokoiojkaaGreatDoor
open Go.RowKit
namespace SL
open DK SH SQ
/-- cells of chains' units that stay: each address's first one -/
def addCell (s : List (Int × C)) (p : Int × C) : List (Int × C) := if s.any (fun q => q.1 == p.1) = true then s else s ++ [p]
def Cl.unitU (M : Cl) (u : Int) : U := match M.us[u.toNat]? with
 | some ⟨_, some S⟩ => S.u
 | _ => ⟨0, 0, []⟩
def cellsStep (M : Cl) (st : List Int) (s : List (Int × C)) (u : Int) : List (Int × C) := if st.any (fun y => u == y) = true then (sortC (M.unitU u).cells).foldl addCell s else s
def Cl.cells (M : Cl) (st chain : List Int) : List (Int × C) := chain.foldl (cellsStep M st) []
end SL
end Go.Proofs.YtelneaokoiojkaaGreatDoor

namespace Go.Proofs.YtelneaokoiojkaaGreatDoor
open Go.RowKit
namespace SL
open DK SH SQ
/-- a cell, with where its data lie -/
structure CE where
 c : C
 a : Option Addr
 k : Nat
def ceV (x : CE) : List Value := [.int .i64 x.c.k, .slice x.a x.c.d.length x.k]
structure CEs (w : World) (a : Option Addr) (k : Nat) (X : List CE) : Prop where
 row : SlV w (.slice a X.length k) X.length (X.flatMap ceV)
 each : ∀ x ∈ X, Bytes w (.slice x.a x.c.d.length x.k) x.c.d
end SL
end Go.Proofs.YtelneaokoiojkaaGreatDoor

namespace Go.Proofs.YtelneaokoiojkaaGreatDoor
open Go.RowKit
namespace SL
open DK SH SQ
/-- a message, with where it lies -/
structure Ms where
 a : Option Addr
 k : Nat
 d : List UInt8
def msV (x : Ms) : Value := .slice x.a x.d.length x.k
/-- how many were sent, delivered, lost, doubled -/
structure Tn where
 s : Int
 d : Int
 l : Int
 t : Int
abbrev lnB (t : Nat) (q : Tn) (a : Option Addr) (n k : Nat) : Asn := .box t [.int .i64 q.s, .int .i64 q.d, .int .i64 q.l, .int .i64 q.t, .slice a n k] 186
abbrev lnR (X : List Ms) (a : Option Addr) (k : Nat) : Asn := .row 32 1 (.slice a X.length k) X.length (X.map msV)
theorem tnew_any {w0 : World} {F : Nat → Prop} {L : List Asn} (w : World) (h : Sep w0 F L w) : Calls Tryz.prog 58 #[] w fun e w' => e = .returned (ptrV w.heap.size) ∧ Sep w0 F (lnB w.heap.size ⟨0, 0, 0, 0⟩ none 0 0 :: lnR [] none 0 :: L) w' := by
 go_enter Tryz.func58, Tryz.ntmps58
 go_wp2
 go_ret
 exact ⟨rfl, (h.nilRow _ _).alloc [.int .i64 0, .int .i64 0, .int .i64 0, .int .i64 0, .slice none 0 0] 186⟩
theorem aadd_any {b o : Nat} {x : Int} (w : World) (h : w.cell? ⟨b, o, none⟩ = some (.int .i64 x)) (hz : w.frozen? ⟨b, o, none⟩ = false) : Calls Tryz.prog 64 #[.pointer (some ⟨b, o, none⟩), .int .i64 1] w fun e w' => e = .returned (.int .i64 (wrap64 (x + 1))) ∧ w' = w.setCell ⟨b, o, none⟩ (.int .i64 (wrap64 (x + 1))) := by
 have hl := run_call_add (P := Tryz.prog) Tryz.func112 (by kernel_rfl) (by kernel_rfl) (by kernel_rfl) .i64 (by kernel_rfl) (y := 1) (s := wrap64 (x + 1)) h hz (by rw [← show IntKind.i64.wrap (x + 1) = wrap64 (x + 1) from IntWalk.i64_left (x + 1)]; simp [go_sem])
 go_enter Tryz.func64, Tryz.ntmps64
 go_wp2
 go_ret
 exact ⟨rfl, rfl⟩
/-- what a line counts where a message comes in: j = 0 sent, 3 doubled -/
def Tn.up (q : Tn) (j : Nat) : Tn := match j with
 | 0 => { q with s := wrap64 (q.s + 1) }
 | 1 => { q with d := wrap64 (q.d + 1) }
 | 2 => { q with l := wrap64 (q.l + 1) }
 | _ => { q with t := wrap64 (q.t + 1) }
/-- what a sent message's line is -/
def SendR (w0 : World) (F : Nat → Prop) (t : Nat) (q : Tn) (X : List Ms) (a : Option Addr) (k : Nat) (L : List Asn) (y : Ms) (v : Value) (w' : World) : Prop :=
 (64 ≤ X.length ∧ v = errV 5 ∧ Sep w0 F (lnB t q a X.length k :: lnR X a k :: L) w') ∨
 (X.length < 64 ∧ v = .nilIface ∧ ∃ a' k', Sep w0 F (lnB t (q.up 0) a' (X.length + 1) k' :: lnR (X ++ [y]) a' k' :: L) w')
theorem SendR.lt {w0 : World} {F : Nat → Prop} {t : Nat} {q : Tn} {X : List Ms} {a : Option Addr} {k : Nat} {L : List Asn} {y : Ms} {v : Value} {w' : World} (h : SendR w0 F t q X a k L y v w') : t < w'.heap.size := by
 rcases h with ⟨_, _, h⟩ | ⟨_, _, _, _, h⟩
 ·exact h.lt 0 rfl
 ·exact h.lt 0 rfl
end SL
end Go.Proofs.YtelneaokoiojkaaGreatDoor

namespace Go.Proofs.YtelneaokoiojkaaGreatDoor
open Go.RowKit
namespace SL
open DK SH SQ
set_option maxHeartbeats 4000000 in
theorem racq_one {g p N : Nat} {G F : Nat → Prop} {W : World} {L : List Asn} {fl : Fl} (hf : FlOk fl) (w : World) (h : Sep W F (rgB g p 10 2 0 0 0 0 :: stB p N :: Asn.disk N (dkL fl) G :: L) w) :
  Calls Tryz.prog 29 #[ptrV g, .int .i64 1, .int .i64 0] w fun en w' => en = .returned (.tuple #[.agg #[.int .i64 1, .int .i64 1, .int .i64 10], .nilIface]) ∧ ∃ G' fl', FlOk fl' ∧ Sep W F (rgB g p 10 2 1 1 10 1 :: stB p N :: Asn.disk N (dkL fl') G' :: L) w' := by
 have H0 := Zh (h.allocAt w.heap.size [.int .i64 0, .int .i64 0, .int .i64 0] 25 rfl)
 have HFL := Lib.hid' hf
 clear h hf
 go_enter Tryz.func29, Tryz.ntmps29
 go_upto_region 3 with fail
 obtain ⟨w1, hw1⟩ : ∃ w1, w.alloc (.cells #[.int .i64 0, .int .i64 0, .int .i64 0] 25) = w1 := ⟨_, rfl⟩
 rw [hw1]
 have H1 := Zh (show Sep W F (.box w.heap.size [.int .i64 0, .int .i64 0, .int .i64 0] 25 :: rgB g p 10 2 0 0 0 0 :: stB p N :: Asn.disk N (dkL fl) G :: L) w1 by rw [← hw1]; exact H0.out)
 clear hw1 H0
 generalize w.heap.size = R at *
 refine startD (S := (fun w' => BoxW g [ptrV p, .int .i64 10, .int .i64 2, .int .i64 0, .int .i64 0, .int .i64 0, .int .i64 0] 124 w')) (by kernel_rfl) (H1.out.drew.box 1 rfl) (fun hH0 => ?_)
 simp only [List.length_cons, List.length_nil, Nat.reduceAdd, List.replicate_succ, List.replicate_zero]
 refine tD 0 16 (.pointer (some ⟨g, 0, none⟩)) rfl rfl [(0, .pointer (some ⟨g, 0, none⟩))] hH0 ?_
 dsimp only [sZ, sS]
 refine tD 1 17 (.pointer (some ⟨g, 0, none⟩)) rfl rfl [(16, .pointer (some ⟨g, 0, none⟩))] hH0 ?_
 dsimp only [sZ, sS]
 refine tD 2 18 (.pointer (some ⟨g, 3, none⟩)) rfl rfl [(17, .pointer (some ⟨g, 0, none⟩))] hH0 ?_
 dsimp only [sZ, sS]
 refine tE 3 19 (.agg #[.int .i64 0, .int .i64 0, .int .i64 0]) rfl rfl [(18, .pointer (some ⟨g, 3, none⟩))] hH0 ?_ ?_
 ·intro w hSw; have q1 := hSw.box.1 1 _ rfl; have q2 := hSw.box.1 2 _ rfl; have q3 := hSw.box.1 3 _ rfl; have q4 := hSw.box.1 4 _ rfl; have q5 := hSw.box.1 5 _ rfl; have ql := hSw.lt; go_simp
 dsimp only [sZ, sS]
 refine tD 4 20 (.int .i64 1) rfl rfl [(1, .int .i64 1)] hH0 ?_
 dsimp only [sZ, sS]
 refine tD 5 21 (.int .i64 0) rfl rfl [(2, .int .i64 0)] hH0 ?_
 dsimp only [sZ, sS]
 refine tD 6 22 (.pointer (some ⟨g, 0, none⟩)) rfl rfl [(0, .pointer (some ⟨g, 0, none⟩))] hH0 ?_
 dsimp only [sZ, sS]
 refine tD 7 23 (.pointer (some ⟨g, 0, none⟩)) rfl rfl [(22, .pointer (some ⟨g, 0, none⟩))] hH0 ?_
 dsimp only [sZ, sS]
 refine tD 8 24 (.pointer (some ⟨g, 1, none⟩)) rfl rfl [(23, .pointer (some ⟨g, 0, none⟩))] hH0 ?_
 dsimp only [sZ, sS]
 refine tE 9 25 (.int .i64 10) rfl rfl [(24, .pointer (some ⟨g, 1, none⟩))] hH0 ?_ ?_
 ·intro w hSw; have q1 := hSw.box.1 1 _ rfl; have q2 := hSw.box.1 2 _ rfl; have q3 := hSw.box.1 3 _ rfl; have q4 := hSw.box.1 4 _ rfl; have q5 := hSw.box.1 5 _ rfl; have ql := hSw.lt; go_simp
 dsimp only [sZ, sS]
 refine tD 10 26 (.pointer (some ⟨g, 0, none⟩)) rfl rfl [(0, .pointer (some ⟨g, 0, none⟩))] hH0 ?_
 dsimp only [sZ, sS]
 refine tD 11 27 (.pointer (some ⟨g, 0, none⟩)) rfl rfl [(26, .pointer (some ⟨g, 0, none⟩))] hH0 ?_
 dsimp only [sZ, sS]
 refine tD 12 28 (.pointer (some ⟨g, 2, none⟩)) rfl rfl [(27, .pointer (some ⟨g, 0, none⟩))] hH0 ?_
 dsimp only [sZ, sS]
 refine tE 13 29 (.int .i64 2) rfl rfl [(28, .pointer (some ⟨g, 2, none⟩))] hH0 ?_ ?_
 ·intro w hSw; have q1 := hSw.box.1 1 _ rfl; have q2 := hSw.box.1 2 _ rfl; have q3 := hSw.box.1 3 _ rfl; have q4 := hSw.box.1 4 _ rfl; have q5 := hSw.box.1 5 _ rfl; have ql := hSw.lt; go_simp
 dsimp only [sZ, sS]
 refine wpAnyH_ready (rs := [14, 18]) (by kernel_rfl) (by simp) (AllReadyH.cons (o := _) rfl (fun K hK => ?_) (AllReadyH.cons (o := _) rfl (fun K hK => ?_) AllReadyH.nil))
 ·skip
  go_simp
  refine (lgrant_one _).mono ?_
  rintro en w2 ⟨rfl, hb2⟩
  have H2 := Zh (H1.out.drew.below hb2)
  clear hb2
  refine hK.out _ _ ?_ (fun hH1 => ?_)
  ·exact H2.out.box 1 rfl
  clear hK K
  try simp only [Act.put, gA, gZ, gS, sA, sZ, sS]
  refine tD 15 15 (.tuple #[.agg #[.int .i64 1, .int .i64 1, .int .i64 10], .nilIface]) rfl rfl [(30, .tuple #[.agg #[.int .i64 1, .int .i64 1, .int .i64 10], .nilIface])] hH1 ?_
  dsimp only [sZ, sS]
  refine tD 16 31 (.agg #[.int .i64 1, .int .i64 1, .int .i64 10]) rfl rfl [(15, .tuple #[.agg #[.int .i64 1, .int .i64 1, .int .i64 10], .nilIface])] hH1 ?_
  dsimp only [sZ, sS]
  refine tD 17 32 (.nilIface) rfl rfl [(15, .tuple #[.agg #[.int .i64 1, .int .i64 1, .int .i64 10], .nilIface])] hH1 ?_
  dsimp only [sZ, sS]
  refine rD 18 rfl (fun K hK => ?_)
  go_simp
  have HA := Zh (H2.out.allocAt (w2.heap.size) [.int .i64 0, .int .i64 0, .int .i64 0] 25 rfl)
  refine hK.out _ _ ?_ (fun hH2 => ?_)
  ·exact HA.out.box 2 rfl
  clear hK K
  try simp only [Act.put, gA, gZ, gS, sA, sZ, sS]
  refine rD 19 rfl (fun K hK => ?_)
  go_simp
  have H4 := Zh (H2.out.allocAt w2.heap.size [.int .i64 1, .int .i64 1, .int .i64 10] 25 rfl)
  refine hK.out _ _ ?_ (fun hH3 => ?_)
  ·exact H4.out.box 2 rfl
  clear hK K
  try simp only [Act.put, gA, gZ, gS, sA, sZ, sS]
  refine tD 20 9 (.nilIface) rfl rfl [(32, .nilIface)] hH3 ?_
  dsimp only [sZ, sS]
  refine wpAnyH_done (by kernel_rfl) ?_ _
  obtain ⟨w4, hw4⟩ : ∃ w4, w2.alloc (.cells #[.int .i64 1, .int .i64 1, .int .i64 10] 25) = w4 := ⟨_, rfl⟩
  rw [hw4]
  have H5 := Zh (show Sep W F (.box (w2.heap.size) [.int .i64 1, .int .i64 1, .int .i64 10] 25 :: .box R [.int .i64 0, .int .i64 0, .int .i64 0] 25 :: rgB g p 10 2 0 0 0 0 :: stB p N :: Asn.disk N (dkL fl) G :: L) w4 by rw [← hw4]; exact H4.out)
  clear hw4 H4
  generalize w2.heap.size = B at *
  have a0 := H5.out.cell 0 rfl 0 rfl; have a1 := H5.out.cell 0 rfl 1 rfl; have a2 := H5.out.cell 0 rfl 2 rfl; have al := H5.out.lt 0 rfl
  have gl := H5.out.lt 2 rfl
  go_wp2_with fail
  refine (rkeep_any 1 1 10 rfl (by decide) HFL.out w4 (((H5.out.focus 4 rfl).focus 4 rfl).focus 4 rfl)).mono ?_
  rintro en w5 ⟨rfl, G', fl', hf', h5⟩
  have H6 := Zh (show Sep W F (rgB g p 10 2 1 1 10 0 :: stB p N :: Asn.disk N (dkL fl') G' :: .box B [.int .i64 1, .int .i64 1, .int .i64 10] 25 :: .box R [.int .i64 0, .int .i64 0, .int .i64 0] 25 :: L) w5 from h5)
  clear h5 a0 a1 a2 al gl H5
  have gl := H6.out.lt 0 rfl
  go_wp2_with fail
  refine (aadd_any w5 (H6.out.cell 0 rfl 6 rfl) (H6.out.free 0 rfl 6)).mono ?_
  rintro en w6 ⟨rfl, rfl⟩
  have e1 : wrap64 ((0 : Int) + 1) = 1 := by first | (unfold wrap64; decide) | kernel_rfl | (simp [wrap64])
  rw [e1]
  clear e1
  have H7 := Zh (show Sep W F (rgB g p 10 2 1 1 10 1 :: stB p N :: Asn.disk N (dkL fl') G' :: .box B [.int .i64 1, .int .i64 1, .int .i64 10] 25 :: .box R [.int .i64 0, .int .i64 0, .int .i64 0] 25 :: L) _ from H6.out.set 0 rfl 6 (.int .i64 1))
  clear H6 gl
  generalize w5.setCell ⟨g, 6, none⟩ (.int .i64 1) = w6 at *
  have a0 := H7.out.cell 3 rfl 0 rfl; have a1 := H7.out.cell 3 rfl 1 rfl; have a2 := H7.out.cell 3 rfl 2 rfl; have al := H7.out.lt 3 rfl
  have r0 := H7.out.cell 4 rfl 0 rfl; have r1 := H7.out.cell 4 rfl 1 rfl; have r2 := H7.out.cell 4 rfl 2 rfl; have rl := H7.out.lt 4 rfl
  have f0 := H7.out.free 4 rfl 0; have f1 := H7.out.free 4 rfl 1; have f2 := H7.out.free 4 rfl 2
  have H8 := (((H7.out.set 4 rfl 0 (.int .i64 1)).set 0 rfl 1 (.int .i64 1)).set 0 rfl 2 (.int .i64 10))
  go_wp2_with fail
  clear a0 a1 a2 al r0 r1 r2 rl f0 f1 f2 H7
  generalize ((w6.setCell ⟨R, 0, none⟩ (.int .i64 1)).setCell ⟨R, 1, none⟩ (.int .i64 1)).setCell ⟨R, 2, none⟩ (.int .i64 10) = w8 at *
  have k0 := H8.cell 0 rfl 0 rfl; have k1 := H8.cell 0 rfl 1 rfl; have k2 := H8.cell 0 rfl 2 rfl
  refine bodyPost_ret (v := .tuple #[.agg #[.int .i64 1, .int .i64 1, .int .i64 10], .nilIface]) (by simp [results, Tryz.results29, go_sem, k0, k1, k2]) rfl ?_
  exact ⟨rfl, G', fl', hf', (H8.tail).drop 3⟩
 ·skip
  go_simp
  have HA := Zh (H1.out.drew.allocAt (w1.heap.size) [.int .i64 0, .int .i64 0, .int .i64 0] 25 rfl)
  refine hK.out _ _ ?_ (fun hH1 => ?_)
  ·exact HA.out.box 2 rfl
  clear hK K
  try simp only [Act.put, gA, gZ, gS, sA, sZ, sS]
  refine rD 14 rfl (fun K hK => ?_)
  go_simp
  refine (lgrant_one _).mono ?_
  rintro en w2 ⟨rfl, hb2⟩
  have H2 := Zh (HA.out.below hb2)
  clear hb2
  refine hK.out _ _ ?_ (fun hH2 => ?_)
  ·exact H2.out.box 2 rfl
  clear hK K
  try simp only [Act.put, gA, gZ, gS, sA, sZ, sS]
  refine tD 15 15 (.tuple #[.agg #[.int .i64 1, .int .i64 1, .int .i64 10], .nilIface]) rfl rfl [(30, .tuple #[.agg #[.int .i64 1, .int .i64 1, .int .i64 10], .nilIface])] hH2 ?_
  dsimp only [sZ, sS]
  refine tD 16 31 (.agg #[.int .i64 1, .int .i64 1, .int .i64 10]) rfl rfl [(15, .tuple #[.agg #[.int .i64 1, .int .i64 1, .int .i64 10], .nilIface])] hH2 ?_
  dsimp only [sZ, sS]
  refine tD 17 32 (.nilIface) rfl rfl [(15, .tuple #[.agg #[.int .i64 1, .int .i64 1, .int .i64 10], .nilIface])] hH2 ?_
  dsimp only [sZ, sS]
  refine rD 19 rfl (fun K hK => ?_)
  have z0 := H2.out.cell 0 rfl 0 rfl; have z1 := H2.out.cell 0 rfl 1 rfl; have z2 := H2.out.cell 0 rfl 2 rfl; have y0 := H2.out.free 0 rfl 0; have y1 := H2.out.free 0 rfl 1; have y2 := H2.out.free 0 rfl 2; have yl := H2.out.lt 0 rfl
  go_simp
  have H4 := Zh (((H2.out.set 0 rfl 0 (.int .i64 1)).set 0 rfl 1 (.int .i64 1)).set 0 rfl 2 (.int .i64 10))
  clear z0 z1 z2 y0 y1 y2 yl
  refine hK.out _ _ ?_ (fun hH3 => ?_)
  ·exact H4.out.box 2 rfl
  clear hK K
  try simp only [Act.put, gA, gZ, gS, sA, sZ, sS]
  refine tD 20 9 (.nilIface) rfl rfl [(32, .nilIface)] hH3 ?_
  dsimp only [sZ, sS]
  refine wpAnyH_done (by kernel_rfl) ?_ _
  obtain ⟨w4, hw4⟩ : ∃ w4, ((w2.setCell ⟨w1.heap.size, 0, none⟩ (.int .i64 1)).setCell ⟨w1.heap.size, 1, none⟩ (.int .i64 1)).setCell ⟨w1.heap.size, 2, none⟩ (.int .i64 10) = w4 := ⟨_, rfl⟩
  rw [hw4]
  have H5 := Zh (show Sep W F (.box (w1.heap.size) [.int .i64 1, .int .i64 1, .int .i64 10] 25 :: .box R [.int .i64 0, .int .i64 0, .int .i64 0] 25 :: rgB g p 10 2 0 0 0 0 :: stB p N :: Asn.disk N (dkL fl) G :: L) w4 by rw [← hw4]; exact H4.out)
  clear hw4 H4
  generalize w1.heap.size = B at *
  have a0 := H5.out.cell 0 rfl 0 rfl; have a1 := H5.out.cell 0 rfl 1 rfl; have a2 := H5.out.cell 0 rfl 2 rfl; have al := H5.out.lt 0 rfl
  have gl := H5.out.lt 2 rfl
  go_wp2_with fail
  refine (rkeep_any 1 1 10 rfl (by decide) HFL.out w4 (((H5.out.focus 4 rfl).focus 4 rfl).focus 4 rfl)).mono ?_
  rintro en w5 ⟨rfl, G', fl', hf', h5⟩
  have H6 := Zh (show Sep W F (rgB g p 10 2 1 1 10 0 :: stB p N :: Asn.disk N (dkL fl') G' :: .box B [.int .i64 1, .int .i64 1, .int .i64 10] 25 :: .box R [.int .i64 0, .int .i64 0, .int .i64 0] 25 :: L) w5 from h5)
  clear h5 a0 a1 a2 al gl H5
  have gl := H6.out.lt 0 rfl
  go_wp2_with fail
  refine (aadd_any w5 (H6.out.cell 0 rfl 6 rfl) (H6.out.free 0 rfl 6)).mono ?_
  rintro en w6 ⟨rfl, rfl⟩
  have e1 : wrap64 ((0 : Int) + 1) = 1 := by first | (unfold wrap64; decide) | kernel_rfl | (simp [wrap64])
  rw [e1]
  clear e1
  have H7 := Zh (show Sep W F (rgB g p 10 2 1 1 10 1 :: stB p N :: Asn.disk N (dkL fl') G' :: .box B [.int .i64 1, .int .i64 1, .int .i64 10] 25 :: .box R [.int .i64 0, .int .i64 0, .int .i64 0] 25 :: L) _ from H6.out.set 0 rfl 6 (.int .i64 1))
  clear H6 gl
  generalize w5.setCell ⟨g, 6, none⟩ (.int .i64 1) = w6 at *
  have a0 := H7.out.cell 3 rfl 0 rfl; have a1 := H7.out.cell 3 rfl 1 rfl; have a2 := H7.out.cell 3 rfl 2 rfl; have al := H7.out.lt 3 rfl
  have r0 := H7.out.cell 4 rfl 0 rfl; have r1 := H7.out.cell 4 rfl 1 rfl; have r2 := H7.out.cell 4 rfl 2 rfl; have rl := H7.out.lt 4 rfl
  have f0 := H7.out.free 4 rfl 0; have f1 := H7.out.free 4 rfl 1; have f2 := H7.out.free 4 rfl 2
  have H8 := (((H7.out.set 4 rfl 0 (.int .i64 1)).set 0 rfl 1 (.int .i64 1)).set 0 rfl 2 (.int .i64 10))
  go_wp2_with fail
  clear a0 a1 a2 al r0 r1 r2 rl f0 f1 f2 H7
  generalize ((w6.setCell ⟨R, 0, none⟩ (.int .i64 1)).setCell ⟨R, 1, none⟩ (.int .i64 1)).setCell ⟨R, 2, none⟩ (.int .i64 10) = w8 at *
  have k0 := H8.cell 0 rfl 0 rfl; have k1 := H8.cell 0 rfl 1 rfl; have k2 := H8.cell 0 rfl 2 rfl
  refine bodyPost_ret (v := .tuple #[.agg #[.int .i64 1, .int .i64 1, .int .i64 10], .nilIface]) (by simp [results, Tryz.results29, go_sem, k0, k1, k2]) rfl ?_
  exact ⟨rfl, G', fl', hf', (H8.tail).drop 3⟩
end SL
end Go.Proofs.YtelneaokoiojkaaGreatDoor

namespace Go.Proofs.YtelneaokoiojkaaGreatDoor
namespace SL
open DK SH SQ
/-- what stays of a cluster while its sequencer only rises -/
structure Up (M M' : Cl) : Prop where
 us : M'.us.length = M.us.length
 p : M'.p = M.p
 qe : M'.q.e = M.q.e
 qn : M.q.n ≤ M'.q.n
 ok : M'.ok
theorem Up.trans {M N K : Cl} (h : Up M N) (g : Up N K) : Up M K := ⟨g.us.trans h.us, g.p.trans h.p, g.qe.trans h.qe, Int.le_trans h.qn g.qn, g.ok⟩
theorem Up.of {M M' : Cl} (h : Stay M M') (hok : M'.ok) : Up M M' := ⟨h.us, h.p, by rw [h.q], by rw [h.q]; exact Int.le_refl _, hok⟩
/-- between two acts: the sequencer is of the projection's epoch, the last address lies below it -/
structure Ris (M : Cl) (last : Int) : Prop where
 ok : M.ok
 e : M.q.e = M.p.e
 lo : -1 ≤ last
 hi : last < M.q.n
theorem Ris.tail {M : Cl} {last : Int} (h : Ris M last) : M.tail = (0, M.q.n) := by
 unfold Cl.tail Q.tail Q.asks
 rw [h.e]
 simp
end SL
end Go.Proofs.YtelneaokoiojkaaGreatDoor

namespace Go.Proofs.YtelneaokoiojkaaGreatDoor
namespace SL
open DK SH SQ
/-- an act with a unit that has never failed: an act that has an error leaves no file -/
theorem Fine.act2 {r : Int} {k : Nat} {u : U} {x : Un} (h : Fine r k u x) (hk : k < 512) (hr : (200 * k + 200 : Nat) ≤ r) (a : Ac) :
  ∃ S D S' D', x = ⟨D, some S⟩ ∧ doS S D a = ((apU u a).1, if (apU u a).1 = 0 then (apU u a).2.1 else 0, S', D') ∧ Fine r (if (apU u a).1 = 0 then k + 1 else k) (if (apU u a).1 = 0 then (apU u a).2.2 else u) ⟨D', some S'⟩ := by
 by_cases hx : (apU u a).1 = 0
 ·rw [if_pos hx, if_pos hx, if_pos hx]
  have := h.act hk hr a
  rw [if_pos hx, if_pos hx] at this
  exact this
 ·obtain ⟨n, L, rfl, h2, h3, h4, h5, h6⟩ := h
  refine ⟨⟨u, n, false⟩, ⟨r, L, L, [], -1, false⟩, ⟨u, n, false⟩, ⟨r, L, L, [], -1, false⟩, rfl, ?_, ?_⟩
  ·rw [if_neg hx]
   show doS ⟨u, n, false⟩ _ a = _
   unfold doS
   rw [if_neg (by simp), if_pos hx]
  ·rw [if_neg hx, if_neg hx]
   exact ⟨n, L, rfl, h2, h3, h4, h5, h6⟩
/-- no unit has ever failed; each has had at most k acts; their epochs are the projection's -/
structure Live (r : Int) (k : Nat) (M : Cl) : Prop where
 ok : M.ok
 e : M.q.e = M.p.e
 each : ∀ (i : Nat) (x : Un), M.us[i]? = some x → ∃ u, Fine r k u x ∧ u.e = M.p.e
theorem Live.mono {r : Int} {k m : Nat} {M : Cl} (h : Live r k M) (hk : k ≤ m) : Live r m M := ⟨h.ok, h.e, fun i x hx => by obtain ⟨u, h1, h2⟩ := h.each i x hx; exact ⟨u, h1.mono hk, h2⟩⟩
theorem Live.tail {r : Int} {k : Nat} {M : Cl} (h : Live r k M) : M.tail = (0, M.q.n) := by
 unfold Cl.tail Q.tail Q.asks
 rw [h.e]
 simp
theorem Live.read {r : Int} {k : Nat} {M : Cl} (h : Live r k M) {a : Int} (h0 : 0 ≤ a) (h1 : a ≤ 1048575) : (M.read a).1 = 0 := by
 obtain ⟨i, hi, _, hg⟩ := home_at (M := M) (pj_ok h.ok.proj) h0
 have hl := ((pj_ok h.ok.proj).each _ (List.mem_of_getElem? hg))
 have hin : inB a 1048575 = true := inB_iff.2 ⟨h0, h1⟩
 unfold Cl.read
 rw [if_neg (by rw [hin]; decide)]
 obtain ⟨v, hv⟩ : ∃ v, (M.home a).getLast? = some v := by
  cases hq : (M.home a).getLast? with
  | some v => exact ⟨v, rfl⟩
  | none => rw [List.getLast?_eq_none_iff] at hq; rw [hq] at hl; simp at hl
 rw [hv]
 have hm : v ∈ M.p.all := List.mem_flatten.2 ⟨_, List.mem_of_getElem? hg, List.mem_of_getLast? hv⟩
 have hb := h.ok.there v hm
 have hlt : v.toNat < M.us.length := by omega
 obtain ⟨u, hF, he⟩ := h.each v.toNat _ (List.getElem?_eq_getElem hlt)
 obtain ⟨S, D, hx, hr⟩ := hF.read
 show (M.readU v.toNat M.p.e a).1 = 0
 unfold Cl.readU
 rw [List.getElem?_eq_getElem hlt, hx]
 show (readS S D M.p.e a).1 = 0
 rw [hr]
 unfold U.read
 have : u.asks M.p.e (inR a 1048575) = 0 := by
  unfold U.asks U.cur inR
  rw [he]
  simp [h0, h1]
 rw [if_neg (by rw [this]; decide)]
theorem add_fine {r : Int} (h : 400 ≤ r ∧ r ≤ 1073741824) (M : Cl) : ∃ x, Fine r 1 u1 x ∧ Sd x.d ∧ M.add r = (0, { M with us := M.us ++ [x] }) := by
 obtain ⟨S, D, S', D', hx, e, hF⟩ := (Fine.new r).act (by decide) (by omega) sealA
 have ha : (apU U.new sealA).1 = 0 ∧ (apU U.new sealA).2.2 = u1 := ap1
 have hsd : Sd D' := by
  have h2 := Sd.doS (D := D) (S := S) (by have : newD r = D := congrArg Un.d hx; rw [← this]; exact Sd.new ⟨by omega, h.2⟩) sealA
  rw [e] at h2; exact h2
 rw [ha.1, ha.2] at hF
 simp only [if_pos] at hF
 refine ⟨_, hF, hsd, ?_⟩
 have hd : M.grow (newU r) = { M with us := M.us ++ [⟨D, some S⟩] } := by
  unfold Cl.grow newU
  rw [hx]
 unfold Cl.add
 rw [if_neg (by omega), hd]
 have hg : ({ M with us := M.us ++ [⟨D, some S⟩] } : Cl).us[M.us.length]? = some ⟨D, some S⟩ := by
  show (M.us ++ [⟨D, some S⟩])[M.us.length]? = _
  simp
 show (((({ M with us := M.us ++ [⟨D, some S⟩] } : Cl).do M.us.length sealA).1, (({ M with us := M.us ++ [⟨D, some S⟩] } : Cl).do M.us.length sealA).2.2) : Nat × Cl) = _
 rw [do_on (u := M.us.length) sealA hg, e]
 rw [ha.1]
 show ((0 : Nat), ({ M with us := M.us ++ [⟨D, some S⟩] } : Cl).put M.us.length _) = _
 unfold Cl.put
 simp
theorem addN_fine {r : Int} (h : 400 ≤ r ∧ r ≤ 1073741824) : ∀ (k : Nat) (M : Cl), ∃ xs : List Un, xs.length = k ∧ (∀ x ∈ xs, Fine r 1 u1 x ∧ Sd x.d) ∧ Cl.addN r k M = (0, { M with us := M.us ++ xs })
 | 0, M => ⟨[], rfl, by simp, by simp [Cl.addN]⟩
 | k + 1, M => by
  obtain ⟨x, h1, h2, e⟩ := add_fine h M
  obtain ⟨xs, h3, h4, e2⟩ := addN_fine h k { M with us := M.us ++ [x] }
  refine ⟨x :: xs, by simp [h3], fun y hy => ?_, ?_⟩
  ·rcases List.mem_cons.1 hy with rfl | hy
   ·exact ⟨h1, h2⟩
   ·exact h4 y hy
  ·rw [addN_step (by rw [e]), e, e2]
   simp
theorem new_live {r : Int} (h : 400 ≤ r ∧ r ≤ 1073741824) {n : Int} {X : List (List Int)} (hn : 1 ≤ n ∧ n ≤ 8) (hc : (⟨1, X⟩ : Pj).check = 0) (hu : ∀ u ∈ (⟨1, X⟩ : Pj).all, 0 ≤ u ∧ u < n) :
  ∃ M, newCl n r X = (0, M) ∧ Live r 1 M ∧ M.p = ⟨1, X⟩ ∧ M.q = ⟨1, 0⟩ ∧ M.us.length = n.toNat := by
 obtain ⟨xs, h1, h2, e⟩ := addN_fine h n.toNat (cl0 X)
 have e' : Cl.addN r n.toNat (cl0 X) = (0, ⟨xs, ⟨1, X⟩, ⟨0, 0⟩⟩) := by rw [e]; unfold cl0; simp
 refine ⟨⟨xs, ⟨1, X⟩, ⟨1, 0⟩⟩, ?_, ⟨⟨hc, by show xs.length ≤ 8; omega, fun u hm => ?_, ⟨by show (0 : Int) ≤ 1 ∧ (1 : Int) ≤ _; decide, by show (0 : Int) ≤ 0 ∧ (0 : Int) ≤ _; decide⟩, fun x hx => (h2 x hx).2⟩, rfl, fun i x hx => ⟨u1, (h2 x (List.mem_of_getElem? hx)).1, rfl⟩⟩, rfl, rfl, h1⟩
 ·unfold newCl
  rw [if_neg (by omega), if_neg (by rw [hc]; decide), if_neg, e']
  ·rfl
  ·rw [List.any_eq_true]
   rintro ⟨u, hm, hd⟩
   have := hu u ((unitsOf_mem u _).1 hm)
   have : n ≤ u := by simpa using hd
   omega
 ·have := hu u hm
  show 0 ≤ u ∧ u < (xs.length : Int)
  rw [h1]
  omega
end SL
end Go.Proofs.YtelneaokoiojkaaGreatDoor

namespace Go.Proofs.YtelneaokoiojkaaGreatDoor
open Go.RowKit
namespace SL
open DK SH SQ
theorem apin_any (x m : Int) (w : World) : Calls Tryz.prog 99 #[.int .i64 x, .int .i64 m] w fun e w' => e = .returned (.bool (inB x m)) ∧ w = w' := by
 have HB := Zh (show inB x m = (decide (0 ≤ x) && decide (x ≤ m)) from rfl)
 by_cases h0 : 0 ≤ x
 ·by_cases h1 : x ≤ m
  ·go_enter Tryz.func99, Tryz.ntmps99
   go_wp2
   go_ret
   rw [HB.out]
   exact ⟨by simp [h0, h1], rfl⟩
  ·go_enter Tryz.func99, Tryz.ntmps99
   go_wp2
   go_ret
   rw [HB.out]
   exact ⟨by simp [h0, h1], rfl⟩
 ·go_enter Tryz.func99, Tryz.ntmps99
  go_wp2
  go_ret
  rw [HB.out]
  exact ⟨by simp; omega, rfl⟩
/-- an applier: its epoch, up to where all was applied -/
abbrev _root_.Go.Proofs.YtelneaokoiojkaaGreatDoor.Asn.appl (b : Nat) (x : Sp) : Asn := .box b [.int .i64 x.e, .int .i64 x.a] 166
def NewAp (e a : Int) (w : World) (en : Ending) (w' : World) : Prop := if inB e 1099511627776 = false ∨ inB a 1048576 = false then en = .returned (.tuple #[.pointer none, errV 1]) ∧ w = w' else en = .returned (.tuple #[ptrV w.heap.size, .nilIface]) ∧ Sep w NoF [Asn.appl w.heap.size ⟨e, a⟩] w'
set_option maxHeartbeats 4000000 in
theorem anew_any (e a : Int) (w : World) : Calls Tryz.prog 55 #[.int .i64 e, .int .i64 a] w (NewAp e a w) := by
 have HN := fun en w' => Zh (show NewAp e a w en w' = if inB e 1099511627776 = false ∨ inB a 1048576 = false then en = .returned (.tuple #[.pointer none, errV 1]) ∧ w = w' else en = .returned (.tuple #[ptrV w.heap.size, .nilIface]) ∧ Sep w NoF [Asn.appl w.heap.size ⟨e, a⟩] w' from rfl)
 cases hi1 : inB e 1099511627776 with
 | false =>
  have HR := fun en w' => Zh ((HN en w').out.trans (if_pos (.inl hi1)))
  go_enter Tryz.func55, Tryz.ntmps55
  go_wp2_with (go_at_call 99; refine (apin_any _ _ _).mono ?_; rintro en w' ⟨rfl, rfl⟩)
  go_ret2
  rw [(HR _ _).out]
  exact ⟨rfl, rfl⟩
 | true =>
  cases hi2 : inB a 1048576 with
  | false =>
   have HR := fun en w' => Zh ((HN en w').out.trans (if_pos (.inr hi2)))
   go_enter Tryz.func55, Tryz.ntmps55
   go_wp2_with (go_at_call 99; refine (apin_any _ _ _).mono ?_; rintro en w' ⟨rfl, rfl⟩)
   go_ret2
   rw [(HR _ _).out]
   exact ⟨rfl, rfl⟩
  | true =>
   have HR := fun en w' => Zh ((HN en w').out.trans (if_neg (by rw [hi1, hi2]; decide)))
   have HS1 := Zh (show Sep w NoF [.box w.heap.size [.int .i64 e, .int .i64 a] 166] (w.alloc (.cells #[.int .i64 e, .int .i64 a] 166)) from (Sep.start w).allocAt w.heap.size [.int .i64 e, .int .i64 a] 166 rfl)
   go_enter Tryz.func55, Tryz.ntmps55
   go_wp2_with (go_at_call 99; refine (apin_any _ _ _).mono ?_; rintro en w' ⟨rfl, rfl⟩)
   go_ret2
   rw [(HR _ _).out]
   exact ⟨rfl, HS1.out⟩
theorem aapplied_any {b : Nat} {a : Int} (w : World) (c1 : w.cell? ⟨b, 1, none⟩ = some (.int .i64 a)) (bl : b < w.heap.size) : Calls Tryz.prog 44 #[ptrV b] w fun e w' => e = .returned (.int .i64 a) ∧ w = w' := by
 go_enter Tryz.func44, Tryz.ntmps44
 go_wp2_with fail
 go_ret
 exact ⟨rfl, rfl⟩
end SL
end Go.Proofs.YtelneaokoiojkaaGreatDoor

namespace Go.Proofs.YtelneaokoiojkaaGreatDoor
namespace SL
open DK SH SQ
/-- no unit has ever failed, each has had at most k acts, all have one low mark -/
structure Even (r : Int) (k : Nat) (l : Int) (M : Cl) : Prop where
 ok : M.ok
 e : M.q.e = M.p.e
 all : M.p.all.Nodup
 low : 0 ≤ l ∧ l ≤ 1048576
 each : ∀ (i : Nat) (x : Un), M.us[i]? = some x → ∃ u, Fine r k u x ∧ u.e = M.p.e ∧ u.l = l
theorem Even.mono {r : Int} {k m : Nat} {l : Int} {M : Cl} (h : Even r k l M) (hk : k ≤ m) : Even r m l M := ⟨h.ok, h.e, h.all, h.low, fun i x hx => by obtain ⟨u, h1, h2, h3⟩ := h.each i x hx; exact ⟨u, h1.mono hk, h2, h3⟩⟩
theorem home_nodup {M : Cl} (h : M.p.all.Nodup) (a : Int) : (M.home a).Nodup := by
 unfold Cl.home
 rw [List.getD_eq_getElem?_getD]
 cases hg : M.p.cs[(a % (M.p.cs.length : Int)).toNat]? with
 | none => simp
 | some c => exact (List.sublist_flatten_of_mem (List.mem_of_getElem? hg)).nodup h
theorem home_mem {M : Cl} {a u : Int} (h : u ∈ M.home a) : u ∈ M.p.all := by
 unfold Cl.home at h
 rw [List.getD_eq_getElem?_getD] at h
 cases hg : M.p.cs[(a % (M.p.cs.length : Int)).toNat]? with
 | none => rw [hg] at h; simp at h
 | some c => rw [hg] at h; exact List.mem_flatten.2 ⟨_, List.mem_of_getElem? hg, h⟩
end SL
end Go.Proofs.YtelneaokoiojkaaGreatDoor

namespace Go.Proofs.YtelneaokoiojkaaGreatDoor
theorem look_put_eq {L : List (Int × C)} (hn : (L.map (·.1)).Nodup) (a : Int) (c : C) : lookC (putC L a c) a = c := by
 refine lookC_of_mem (p := (a, c)) (putC_keys _ _ _ hn) ?_
 unfold putC
 split
 ·rename_i h
  obtain ⟨p, hp, hpa⟩ := List.any_eq_true.1 h
  exact List.mem_map.2 ⟨p, hp, by rw [if_pos (by simpa using hpa)]⟩
 ·exact List.mem_append_right _ (by simp)
theorem at_put {u : U} (h : u.ok) {a : Int} (c : C) (hl : u.l ≤ a) (b : Int) : ({ u with cells := putC u.cells a c } : U).at b = if b = a then c else u.at b := by
 unfold U.at
 simp only
 by_cases hb : b = a
 ·subst hb
  rw [if_pos rfl, if_neg (by omega), look_put_eq h.nodup]
 ·rw [if_neg hb, look_put _ _ _ _ hb]
namespace SL
open DK SH SQ
/-- what a unit shows: its epoch, its low mark, its cells -/
structure Sees (u : U) (e l : Int) (f : Int → C) : Prop where
 ok : u.ok
 e : u.e = e
 l : u.l = l
 see : ∀ a, u.at a = f a
def upC (f : Int → C) (a : Int) (c : C) : Int → C := fun b => if b = a then c else f b
theorem Sees.low {u : U} {e l : Int} {f : Int → C} (h : Sees u e l f) {a : Int} (h3 : (f a).k ≠ 3) : u.l ≤ a := at_low (by rw [h.see]; exact h3)
theorem Sees.cur {u : U} {e l : Int} {f : Int → C} (h : Sees u e l f) : u.cur e = 0 := by unfold U.cur; rw [h.e]; simp
theorem Sees.rng {u : U} {e l : Int} {f : Int → C} (h : Sees u e l f) : 0 ≤ e ∧ e ≤ 1099511627776 := by rw [← h.e]; exact ⟨h.ok.e0, h.ok.e1⟩
theorem Sees.read {u : U} {e l : Int} {f : Int → C} (h : Sees u e l f) {a : Int} (h0 : 0 ≤ a) (h1 : a ≤ 1048575) : u.read e a = (0, f a) := by
 unfold U.read U.asks inR
 rw [h.cur, h.see]
 simp [h0, h1]
theorem chk_write {e a : Int} {d : List UInt8} (he : 0 ≤ e ∧ e ≤ 1099511627776) (h0 : 0 ≤ a) (h1 : a ≤ 1048575) (hd : d.length ≤ 64) : (⟨2, e, a, d⟩ : Ac).check = 0 := by
 unfold Ac.check
 rw [if_neg (by simp; omega), if_neg (by simp; omega), if_neg (by simp; omega), if_neg (by simp)]
theorem Sees.write {u : U} {e l : Int} {f : Int → C} (h : Sees u e l f) {a : Int} (h0 : 0 ≤ a) (h1 : a ≤ 1048575) {d : List UInt8} (hd : d.length ≤ 64) :
  ∃ v, apU u ⟨2, e, a, d⟩ = (if (f a).k = 3 then 9 else if (f a).k = 0 then 0 else 8, 0, v) ∧ Sees v e l (if (f a).k = 0 then upC f a ⟨1, d⟩ else f) := by
 have hin : inR a 1048575 = true := by unfold inR; simp [h0, h1]
 have e1 : apU u ⟨2, e, a, d⟩ = ((u.write e a d).1, 0, (u.write e a d).2) := by
  unfold apU
  rw [if_neg (by rw [chk_write h.rng h0 h1 hd]; decide)]
  simp
 rw [e1]
 unfold U.write
 rw [hin, h.cur, h.see]
 simp only [Bool.not_true, Bool.false_eq_true, if_false, ne_eq, not_true_eq_false]
 rw [if_neg (by omega)]
 by_cases h3 : (f a).k = 3
 ·rw [if_pos h3, if_pos h3, if_neg (by omega)]
  exact ⟨u, rfl, h⟩
 rw [if_neg h3, if_neg h3]
 by_cases hz : (f a).k = 0
 ·rw [if_pos hz, if_pos hz, if_pos hz]
  have hl := h.low h3
  exact ⟨_, rfl, ⟨U.ok_put h.ok hl (by omega) ⟨.inl rfl, hd⟩, h.e, h.l, fun b => by rw [at_put h.ok _ hl]; unfold upC; rw [h.see]⟩⟩
 ·rw [if_neg hz, if_neg hz, if_neg hz]
  exact ⟨u, rfl, h⟩
end SL
end Go.Proofs.YtelneaokoiojkaaGreatDoor

namespace Go.Proofs.YtelneaokoiojkaaGreatDoor
namespace SL
open DK SH SQ
/-- what a unit is told to show, and how many acts it has had at most -/
structure Sh where
 k : Nat
 e : Int
 l : Int
 f : Int → C
def upS (D : Nat → Sh) (i : Nat) (d : Sh) : Nat → Sh := fun j => if j = i then d else D j
theorem upS_at (D : Nat → Sh) (i : Nat) (d : Sh) : upS D i d i = d := if_pos rfl
theorem upS_ne (D : Nat → Sh) {i j : Nat} (d : Sh) (h : j ≠ i) : upS D i d j = D j := if_neg h
/-- a cluster on the way: what each unit shows -/
structure Mid (r : Int) (c s : Cl) (D : Nat → Sh) : Prop where
 ok : s.ok
 stay : Stay c s
 each : ∀ (i : Nat) (x : Un), s.us[i]? = some x → ∃ u, Fine r (D i).k u x ∧ Sees u (D i).e (D i).l (D i).f
theorem Mid.weak {r : Int} {c s : Cl} {D D' : Nat → Sh} (h : Mid r c s D) (hw : ∀ i : Nat, i < s.us.length → (D i).k ≤ (D' i).k ∧ (D i).e = (D' i).e ∧ (D i).l = (D' i).l ∧ (D i).f = (D' i).f) : Mid r c s D' :=
 ⟨h.ok, h.stay, fun i x hx => by
  obtain ⟨u, h1, h2⟩ := h.each i x hx
  obtain ⟨w1, w2, w3, w4⟩ := hw i (List.getElem?_eq_some_iff.1 hx).1
  exact ⟨u, h1.mono w1, by rw [← w2, ← w3, ← w4]; exact h2⟩⟩
theorem Mid.has {r : Int} {c s : Cl} {D : Nat → Sh} (h : Mid r c s D) {u : Int} (hu : 0 ≤ u ∧ u < (c.us.length : Int)) : ∃ x v, s.us[u.toNat]? = some x ∧ Fine r (D u.toNat).k v x ∧ Sees v (D u.toNat).e (D u.toNat).l (D u.toNat).f := by
 have hlt : u.toNat < s.us.length := by have := h.stay.us; omega
 obtain ⟨v, h1, h2⟩ := h.each _ _ (List.getElem?_eq_getElem hlt)
 exact ⟨_, v, List.getElem?_eq_getElem hlt, h1, h2⟩
theorem Mid.act {r : Int} {c s : Cl} {D : Nat → Sh} (h : Mid r c s D) {u : Int} (hu : 0 ≤ u ∧ u < (c.us.length : Int)) (hk : (D u.toNat).k < 512) (hr : ((200 * (D u.toNat).k + 200 : Nat) : Int) ≤ r) (x : Ac) :
  ∃ v, Sees v (D u.toNat).e (D u.toNat).l (D u.toNat).f ∧ (s.do u.toNat x).1 = (apU v x).1 ∧ (s.do u.toNat x).2.1 = (if (apU v x).1 = 0 then (apU v x).2.1 else 0) ∧
   ∀ d : Sh, (if (apU v x).1 = 0 then (D u.toNat).k + 1 else (D u.toNat).k) ≤ d.k → Sees (if (apU v x).1 = 0 then (apU v x).2.2 else v) d.e d.l d.f → Mid r c (s.do u.toNat x).2.2 (upS D u.toNat d) := by
 obtain ⟨y, v, hy, hF, hS⟩ := h.has hu
 obtain ⟨S1, D1, S2, D2, rfl, e, hF2⟩ := hF.act2 hk hr x
 have hd := do_on x hy
 rw [e] at hd
 refine ⟨v, hS, by rw [hd], by rw [hd], fun d hdk hds => ⟨h.ok.do _ _, h.stay.do _ _, fun i z hz => ?_⟩⟩
 rw [hd] at hz
 have hz' : (s.us.set u.toNat ⟨D2, some S2⟩)[i]? = some z := hz
 rw [List.getElem?_set] at hz'
 split at hz'
 ·rename_i hi
  split at hz'
  ·simp only [Option.some.injEq] at hz'
   subst hz'
   rw [← hi, upS_at]
   exact ⟨_, hF2.mono hdk, hds⟩
  ·cases hz'
 ·rename_i hi
  rw [upS_ne _ _ (fun e => hi e.symm)]
  exact h.each i z hz'
theorem Mid.read {r : Int} {c s : Cl} {D : Nat → Sh} (h : Mid r c s D) {u : Int} (hu : 0 ≤ u ∧ u < (c.us.length : Int)) {a : Int} (h0 : 0 ≤ a) (h1 : a ≤ 1048575) : s.readU u.toNat (D u.toNat).e a = (0, (D u.toNat).f a) := by
 obtain ⟨y, v, hy, hF, hS⟩ := h.has hu
 obtain ⟨S, K, rfl, hr⟩ := hF.read
 rw [readU_on _ _ hy, hr, hS.read h0 h1]
/-- a thing is done with units, each once: it goes well with each -/
theorem Mid.all {r : Int} {c : Cl} {f : Cl → Int → Nat × Cl} {B : Nat → Sh} : ∀ {l : List Int} {s : Cl} {D : Nat → Sh}, l.Nodup → (∀ u ∈ l, 0 ≤ u) →
  (∀ (s : Cl) (D' : Nat → Sh) (u : Int), u ∈ l → Mid r c s D' → D' u.toNat = D u.toNat → ∃ s', f s u = (0, s') ∧ Mid r c s' (upS D' u.toNat (B u.toNat))) →
  Mid r c s D → ∃ s', allC f l s = (0, s') ∧ Mid r c s' (fun i => if (i : Int) ∈ l then B i else D i)
 | [], s, D, _, _, _, h => ⟨s, rfl, by simpa using h⟩
 | u :: l, s, D, hn, h0, hf, h => by
  have hnd := List.nodup_cons.1 hn
  obtain ⟨s1, e1, h1⟩ := hf s D u List.mem_cons_self h rfl
  obtain ⟨s2, e2, h2⟩ := Mid.all (l := l) (s := s1) (D := upS D u.toNat (B u.toNat)) hnd.2 (fun v hv => h0 v (List.mem_cons_of_mem _ hv)) (fun s D' v hv hm hd => hf s D' v (List.mem_cons_of_mem _ hv) hm (by
   rw [hd, upS_ne]
   intro e
   have a1 := h0 v (List.mem_cons_of_mem _ hv)
   have a2 := h0 u List.mem_cons_self
   exact hnd.1 (by rw [show u = v by omega]; exact hv))) h1
  refine ⟨s2, ?_, ?_⟩
  ·unfold allC
   rw [e1]
   simpa using e2
  ·have : (fun i : Nat => if (i : Int) ∈ l then B i else upS D u.toNat (B u.toNat) i) = (fun i : Nat => if (i : Int) ∈ u :: l then B i else D i) := by
    funext i
    have a2 := h0 u List.mem_cons_self
    by_cases hi : (i : Int) ∈ l
    ·rw [if_pos hi, if_pos (List.mem_cons_of_mem _ hi)]
    ·rw [if_neg hi]
     by_cases hiu : i = u.toNat
     ·rw [hiu, upS_at, if_pos (by rw [show ((u.toNat : Nat) : Int) = u by omega]; exact List.mem_cons_self)]
     ·rw [upS_ne _ _ hiu, if_neg]
      rw [List.mem_cons]
      rintro (e | e)
      ·exact hiu (by omega)
      ·exact hi e
   rw [← this]
   exact h2
end SL
end Go.Proofs.YtelneaokoiojkaaGreatDoor

namespace Go.Proofs.YtelneaokoiojkaaGreatDoor
namespace SL
open DK SH SQ
/-- what a unit of a cluster shows that is as a model -/
def shD (c : Cl) (k : Nat) (m : M) (i : Nat) : Sh := if (i : Int) ∈ c.p.all then ⟨k, c.p.e, m.u.l, fun a => if a < m.u.l ∨ (i : Int) ∈ c.home a then m.u.at a else ⟨0, []⟩⟩ else ⟨k, 1, 0, fun a => if a < 0 then ⟨3, []⟩ else ⟨0, []⟩⟩
/-- a cluster is as a model -/
structure Is (r : Int) (k : Nat) (c : Cl) (m : M) : Prop where
 mid : Mid r c c (shD c k m)
 qe : c.q.e = c.p.e
 e : 1 ≤ c.p.e ∧ c.p.e ≤ k
 nd : c.p.all.Nodup
 tail : c.q.n = m.t
 ok : m.ok
theorem shD_at {c : Cl} {k : Nat} {m : M} {u a : Int} (h0 : 0 ≤ u) (hu : u ∈ c.home a) : (shD c k m u.toNat).k = k ∧ (shD c k m u.toNat).e = c.p.e ∧ (shD c k m u.toNat).f a = m.u.at a ∧ (shD c k m u.toNat).l = m.u.l := by
 unfold shD
 rw [show ((u.toNat : Nat) : Int) = u by omega, if_pos (home_mem hu)]
 exact ⟨rfl, rfl, if_pos (.inr hu), rfl⟩
theorem home_ne {c : Cl} (h : c.ok) {a : Int} (ha : 0 ≤ a) : ∃ u r, c.home a = u :: r := by
 obtain ⟨i, hi, _, hg⟩ := home_at (M := c) (pj_ok h.proj) ha
 have hl := (pj_ok h.proj).each _ (List.mem_of_getElem? hg)
 cases hh : c.home a with
 | nil => rw [hh] at hl; simp at hl
 | cons u r => exact ⟨u, r, rfl⟩
theorem Is.rng {r : Int} {k : Nat} {c : Cl} {m : M} (h : Is r k c m) {u : Int} (hu : u ∈ c.p.all) : 0 ≤ u ∧ u < (c.us.length : Int) := h.mid.ok.there u hu
theorem Is.home {r : Int} {k : Nat} {c : Cl} {m : M} (h : Is r k c m) {u a : Int} (hu : u ∈ c.home a) : 0 ≤ u ∧ u < (c.us.length : Int) := h.rng (home_mem hu)
theorem Stay.all {c s : Cl} (h : Stay c s) : s.p.all = c.p.all := by rw [h.p]
/-- a cluster with another sequencer -/
theorem Mid.q {r : Int} {c s : Cl} {D : Nat → Sh} (h : Mid r c s D) {q : Q} (hq : q.ok) : Mid r { s with q := q } { s with q := q } D :=
 ⟨⟨h.ok.proj, h.ok.many, h.ok.there, hq, h.ok.disk⟩, Stay.refl _, h.each⟩
/-- where the units then show another model -/
theorem Mid.is {r : Int} {k : Nat} {c s : Cl} {D : Nat → Sh} {m' : M} {q : Q} (h : Mid r c s D) (hq : q.ok) (hqe : q.e = c.p.e) (he : 1 ≤ c.p.e ∧ c.p.e ≤ k) (hnd : c.p.all.Nodup) (ht : q.n = m'.t) (hm : m'.ok)
  (hD : ∀ i : Nat, (D i).k ≤ k ∧ (D i).e = (shD c k m' i).e ∧ (D i).l = (shD c k m' i).l ∧ ∀ a, (D i).f a = (shD c k m' i).f a) : Is r k { s with q := q } m' :=
 ⟨(h.q hq).weak (fun i hi => by
   have e : shD { s with q := q } k m' i = shD c k m' i := by
    have h3 : ({ s with q := q } : Cl).p = c.p := h.stay.p
    unfold shD Cl.home
    rw [h3]
   rw [e]
   obtain ⟨g1, g2, g3, g4⟩ := hD i
   refine ⟨?_, g2, g3, funext g4⟩
   unfold shD
   split <;> exact g1),
  by show q.e = s.p.e; rw [h.stay.p]; exact hqe, by show 1 ≤ s.p.e ∧ s.p.e ≤ _; rw [h.stay.p]; exact he, by show s.p.all.Nodup; rw [h.stay.p]; exact hnd, ht, hm⟩
theorem Is.mono {r : Int} {k k' : Nat} {c : Cl} {m : M} (h : Is r k c m) (hk : k ≤ k') : Is r k' c m :=
 ⟨h.mid.weak (fun i _ => by unfold shD; split <;> exact ⟨hk, rfl, rfl, rfl⟩), h.qe, ⟨h.e.1, by have := h.e.2; omega⟩, h.nd, h.tail, h.ok⟩
theorem Is.read {r : Int} {k : Nat} {c : Cl} {m : M} (h : Is r k c m) (a : Int) : c.read a = m.rd a := by
 unfold Cl.read M.rd
 have hi : inB a 1048575 = inR a 1048575 := rfl
 rw [hi]
 cases hq : inR a 1048575 with
 | false => simp
 | true =>
  have ⟨h0, h1⟩ := inB_iff.1 (hi.trans hq)
  obtain ⟨u, rs, hh⟩ := home_ne h.mid.ok h0
  simp only [Bool.not_true, Bool.false_eq_true, if_false, reduceCtorEq]
  obtain ⟨v, hv⟩ : ∃ v, (c.home a).getLast? = some v := ⟨_, by rw [hh]; exact List.getLast?_cons⟩
  have hvm : v ∈ c.home a := List.mem_of_getLast? hv
  have hr := h.home hvm
  obtain ⟨s1, s2, s3, s4⟩ := shD_at (k := k) (m := m) hr.1 hvm
  rw [hv]
  show c.readU v.toNat c.p.e a = _
  have := h.mid.read hr h0 h1
  rw [s2, s3] at this
  exact this
/-- what is left where a cell was put into its home -/
theorem put_sh {c : Cl} {k : Nat} {m : M} (hok : m.ok) (h : c.ok) {a : Int} {x : C} (ha : m.u.l ≤ a) (i : Nat) :
  (if (i : Int) ∈ c.home a then (⟨(shD c k m i).k + 1, (shD c k m i).e, (shD c k m i).l, upC (shD c k m i).f a x⟩ : Sh) else shD c k m i).k ≤ k + 1 ∧
  (if (i : Int) ∈ c.home a then (⟨(shD c k m i).k + 1, (shD c k m i).e, (shD c k m i).l, upC (shD c k m i).f a x⟩ : Sh) else shD c k m i).e = (shD c (k + 1) (m.put' a x) i).e ∧
  (if (i : Int) ∈ c.home a then (⟨(shD c k m i).k + 1, (shD c k m i).e, (shD c k m i).l, upC (shD c k m i).f a x⟩ : Sh) else shD c k m i).l = (shD c (k + 1) (m.put' a x) i).l ∧
  ∀ b, (if (i : Int) ∈ c.home a then (⟨(shD c k m i).k + 1, (shD c k m i).e, (shD c k m i).l, upC (shD c k m i).f a x⟩ : Sh) else shD c k m i).f b = (shD c (k + 1) (m.put' a x) i).f b := by
 by_cases hi : (i : Int) ∈ c.home a
 ·have hall := home_mem hi
  simp only [if_pos hi]
  unfold shD
  simp only [if_pos hall]
  refine ⟨Nat.le_refl _, trivial, rfl, fun b => ?_⟩
  unfold upC
  show (if b = a then x else _) = if b < m.u.l ∨ (i : Int) ∈ c.home b then ({ m.u with cells := putC m.u.cells a x } : U).at b else _
  rw [at_put hok.u x ha]
  by_cases hb : b = a
  ·rw [if_pos hb, if_pos hb, if_pos (.inr (by rw [hb]; exact hi))]
  ·rw [if_neg hb, if_neg hb]
 ·simp only [if_neg hi]
  unfold shD
  by_cases hall : (i : Int) ∈ c.p.all
  ·simp only [if_pos hall]
   refine ⟨Nat.le_succ _, trivial, rfl, fun b => ?_⟩
   show _ = if b < m.u.l ∨ (i : Int) ∈ c.home b then ({ m.u with cells := putC m.u.cells a x } : U).at b else _
   rw [at_put hok.u x ha]
   by_cases hb : b = a
   ·subst hb
    rw [if_neg (by rintro (h | h); omega; exact hi h), if_neg (by rintro (h | h); omega; exact hi h)]
   ·rw [if_neg hb]
  ·simp only [if_neg hall]
   exact ⟨Nat.le_succ _, trivial, trivial, fun b => trivial⟩
end SL
end Go.Proofs.YtelneaokoiojkaaGreatDoor

namespace Go.Proofs.YtelneaokoiojkaaGreatDoor
namespace SL
open DK SH SQ
theorem u1_sees : Sees u1 1 0 (fun a => if a < 0 then ⟨3, []⟩ else ⟨0, []⟩) :=
 ⟨⟨by decide, by decide, by decide, by decide, by simp [u1], by simp [u1], by simp [u1]⟩, rfl, rfl, fun a => by
  show (if a < 0 then (⟨3, []⟩ : C) else lookC [] a) = _
  by_cases h : a < 0
  ·simp [h]
  ·simp [h, lookC]⟩
theorem new_is {r : Int} (h : 400 ≤ r ∧ r ≤ 1073741824) {n : Int} {X : List (List Int)} (hz : (newCl n r X).1 = 0) : Is r 1 (newCl n r X).2 Go.Proofs.YtelneaokoiojkaaGreatDoor.M.new := by
 obtain ⟨h1, h2, h3⟩ : (1 ≤ n ∧ n ≤ 8) ∧ (⟨1, X⟩ : Pj).check = 0 ∧ (unitsOf (⟨1, X⟩ : Pj).all).any (fun u => decide (n ≤ u)) = false := by
  unfold newCl at hz
  split at hz
  ·cases hz
  ·rename_i q1
   split at hz
   ·rename_i q2; exact absurd hz q2
   ·rename_i q2
    split at hz
    ·cases hz
    ·rename_i q3
     exact ⟨by omega, by simpa using q2, by simpa using q3⟩
 have hP := Pj.ok_of h2
 obtain ⟨xs, g1, g2, e⟩ := addN_fine h n.toNat (cl0 X)
 have e' : Cl.addN r n.toNat (cl0 X) = (0, ⟨xs, ⟨1, X⟩, ⟨0, 0⟩⟩) := by rw [e]; unfold cl0; simp
 have hu : ∀ u ∈ (⟨1, X⟩ : Pj).all, 0 ≤ u ∧ u < n := fun u hu => ⟨(hP.u u hu).1, by
  have := List.any_eq_false.1 h3 u ((unitsOf_mem u _).2 hu)
  simp at this; omega⟩
 have e2 : (newCl n r X).2 = ⟨xs, ⟨1, X⟩, ⟨1, 0⟩⟩ := by
  unfold newCl
  rw [if_neg (by omega), if_neg (by rw [h2]; decide), if_neg (by rw [h3]; decide), e']
  rfl
 rw [e2]
 have hok : (⟨xs, ⟨1, X⟩, ⟨1, 0⟩⟩ : Cl).ok := ⟨h2, by show xs.length ≤ 8; omega, fun u hm => by
  have := hu u hm
  show 0 ≤ u ∧ u < (xs.length : Int)
  rw [g1]; omega, ⟨by show (0 : Int) ≤ 1 ∧ (1 : Int) ≤ _; decide, by show (0 : Int) ≤ 0 ∧ (0 : Int) ≤ _; decide⟩, fun x hx => (g2 x hx).2⟩
 refine ⟨⟨hok, Stay.refl _, fun i x hx => ⟨u1, ?_, ?_⟩⟩, rfl, ⟨Int.le_refl _, Int.le_refl _⟩, hP.nodup, rfl, M.ok_new⟩
 ·have hx' := (g2 x (List.mem_of_getElem? hx)).1
  unfold shD
  split <;> exact hx'
 ·have hs := u1_sees
  unfold shD
  split
  ·refine ⟨hs.ok, rfl, rfl, fun a => ?_⟩
   rw [hs.see a]
   by_cases h : a < 0
   ·simp [h, M.new, U.new, U.at]
   ·simp [h, M.new, U.new, U.at, lookC]
  ·exact hs
end SL
end Go.Proofs.YtelneaokoiojkaaGreatDoor

namespace Go.Proofs.YtelneaokoiojkaaGreatDoor
open Go.RowKit
namespace SL
open DK SH SQ
theorem slv_bN {w0 w : World} {F : Nat → Prop} {L : List Asn} (H : Sep w0 F L w) (i : Nat) {N t n : Nat} {R : List Value} (hi : L[i]? = some (.box N R t)) (hl : n ≤ 1000) : SlV w (.slice (some ⟨N, 0, none⟩) n n) n R := by
 refine ⟨_, _, rfl, Nat.le_refl _, by unfold maxLen; omega, (fun h => by cases h), fun j u hj => ⟨_, rfl, ?_⟩⟩
 have e1 : (Addr.add ⟨N, 0, none⟩ j) = ⟨N, j, none⟩ := by unfold Addr.add; split <;> simp_all
 rw [e1]
 exact H.cell i hi j hj
def ch01 : List (List Int) := [[0, 1]]
theorem chk_u {X : List (List Int)} (h1 : 1 ≤ X.length ∧ X.length ≤ 4) (h2 : X.any wrongC = false) (h3 : X.flatten.any oddU = false) (h4 : X.flatten.Nodup) : (⟨1, X⟩ : Pj).check = 0 := by
 unfold Pj.check
 rw [if_neg (by show ¬ ((1 : Int) < 0 ∨ 1099511627776 < (1 : Int)); decide), if_neg (show ¬ (X.length < 1 ∨ 4 < X.length ∨ X.any wrongC = true) from by rintro (h | h | h); omega; omega; rw [h2] at h; cases h), if_neg (by show ¬ X.flatten.any oddU = true; rw [h3]; decide), if_neg]
 intro h
 exact (unitsOf_nodup X.flatten).1 h h4
/-- a cluster of the usual setting -/
theorem new_us : ∃ M, newCl 3 1048576 ch01 = (0, M) ∧ Is 1048576 1 M Go.Proofs.YtelneaokoiojkaaGreatDoor.M.new := by
 have hc : (⟨1, ch01⟩ : Pj).check = 0 := chk_u (by decide) (by decide) (by decide) (by decide)
 obtain ⟨M, h1, _⟩ := new_live (r := 1048576) (by decide) (n := 3) (by decide) hc (fun u hu => by
  have hm : u ∈ ([0, 1] : List Int) := hu
  simp at hm; omega)
 have h2 := new_is (r := 1048576) (by decide) (n := 3) (X := ch01) (by rw [h1])
 rw [h1] at h2
 exact ⟨M, h1, h2⟩
/-- the suite's box: what the example comes to -/
abbrev suB (s up dn : Nat) (ca : Option Addr) (cc : Nat) (nm : Int) (sh ap a : Value) (o e t : Int) (wr : Bool) (b ck rg : Value) : Asn := .box s [.int .i64 nm, sh, ap, .int .i64 3, .int .i64 1048576, .slice ca 1 cc, .int .i64 10, .int .i64 2, a, .int .i64 o, .int .i64 e, .int .i64 t, .bool wr, b, .int .i64 0, .int .i64 0, .int .i64 0, .bool false, ck, rg, ptrV up, ptrV dn, .int .i64 1, .int .i64 0] 79
abbrev stgB (z : Nat) (ca : Option Addr) (cc : Nat) : Asn := .box z [.int .i64 3, .int .i64 1048576, .slice ca 1 cc, .int .i64 10, .int .i64 2] 65
/-- while the clusters are made -/
def StN (s up dn z : Nat) (ca : Option Addr) (cc : Nat) (M : Cl) (W : World) : Nat → World → Prop
 | 0, w => Sep W NoF [suB s up dn ca cc 0 (.pointer none) (.pointer none) (.pointer none) 0 0 0 false (.pointer none) (.pointer none) (.pointer none), stgB z ca cc] w
 | 1, w => ∃ a P, ClOK M P ∧ Sep W NoF ([suB s up dn ca cc 0 (.pointer none) (.pointer none) (ptrV a) 0 0 0 false (.pointer none) (.pointer none) (.pointer none), stgB z ca cc] ++ clB a M P) w
 | _, w => ∃ a b P, ClOK M P ∧ Sep W NoF ([suB s up dn ca cc 0 (.pointer none) (.pointer none) (ptrV a) 0 0 0 false (ptrV b) (.pointer none) (.pointer none), stgB z ca cc] ++ clB a M P) w
structure SuP where
 s : Nat
 up : Nat
 dn : Nat
 ca : Option Addr
 cc : Nat
 sh : Nat
 ap : Nat
 a : Nat
 b : Nat
 ck : Nat
 rg : Nat
 p : Nat
 N : Nat
/-- a suite as the example has it: what the first side knows, whether it writes, the register's lease, how often it was granted -/
def suL (P : SuP) (o e t : Int) (wr : Bool) (o' e' t' k : Int) (fl : Fl) (G : Nat → Prop) : List Asn :=
 [suB P.s P.up P.dn P.ca P.cc 1 (ptrV P.sh) (ptrV P.ap) (ptrV P.a) o e t wr (ptrV P.b) (ptrV P.ck) (ptrV P.rg), Asn.clk P.ck ⟨0, 0, 2, false⟩, rgB P.rg P.p 10 2 o' e' t' k, stB P.p P.N, Asn.disk P.N (dkL fl) G, Asn.ship P.sh ⟨1, 0⟩, Asn.appl P.ap ⟨1, 0⟩]
def SuAt (Z : List Asn) (P : SuP) (o e t : Int) (wr : Bool) (o' e' t' k : Int) (M : Cl) (W w : World) : Prop := ∃ fl G Pc, FlOk fl ∧ ClOK M Pc ∧ Sep W NoF (suL P o e t wr o' e' t' k fl G ++ (clB P.a M Pc ++ Z)) w
theorem tnew_u {w0 : World} {F : Nat → Prop} {L : List Asn} (w : World) (h : Sep w0 F L w) : Calls Tryz.prog 58 #[] w fun e w' => ∃ u, e = .returned (ptrV u) ∧ Sep w0 F L w' :=
 (tnew_any w h).mono fun e w' ⟨h1, h2⟩ => ⟨_, h1, (h2.tail).tail⟩
set_option maxHeartbeats 4000000 in
theorem begin_any {s up dn : Nat} {ca : Option Addr} {cc : Nat} {x y a b ck rg : Value} {nm o e t : Int} {wr : Bool} {F : Nat → Prop} {W : World} {L : List Asn} (w : World) (h : Sep W F (suB s up dn ca cc nm x y a o e t wr b ck rg :: L) w) :
  Calls Tryz.prog 39 #[ptrV s, .int .i64 1, .int .i64 0] w fun en w' => en = .returned .nilIface ∧ ∃ sh ap, Sep W F (suB s up dn ca cc 1 (ptrV sh) (ptrV ap) a o e t wr b ck rg :: Asn.appl ap ⟨1, 0⟩ :: Asn.ship sh ⟨1, 0⟩ :: L) w' := by
 have H0 := Lib.hid' h
 clear h
 go_enter Tryz.func39, Tryz.ntmps39
 go_wp2_with fail
 refine (snew_any 1 0 w).mono ?_
 rintro en w1 hE
 unfold NewSp at hE
 rw [if_neg (by decide)] at hE
 obtain ⟨rfl, hs⟩ := hE
 have H1 := Zh (show Sep W F (Asn.ship w.heap.size ⟨1, 0⟩ :: suB s up dn ca cc nm x y a o e t wr b ck rg :: L) w1 from H0.out.call0 hs)
 clear hs H0
 generalize w.heap.size = sh at *
 go_wp2_with fail
 refine (anew_any 1 0 w1).mono ?_
 rintro en w2 hE
 unfold NewAp at hE
 rw [if_neg (by decide)] at hE
 obtain ⟨rfl, hs⟩ := hE
 have H2 := Zh (show Sep W F (Asn.appl w1.heap.size ⟨1, 0⟩ :: Asn.ship sh ⟨1, 0⟩ :: suB s up dn ca cc nm x y a o e t wr b ck rg :: L) w2 from H1.out.call0 hs)
 clear hs H1
 generalize w1.heap.size = ap at *
 have q0 := H2.out.cell 2 rfl 0 rfl; have q1 := H2.out.cell 2 rfl 1 rfl; have q2 := H2.out.cell 2 rfl 2 rfl; have ql := H2.out.lt 2 rfl
 have f0 := H2.out.free 2 rfl 0; have f1 := H2.out.free 2 rfl 1; have f2 := H2.out.free 2 rfl 2
 have H3 := Zh (((H2.out.set 2 rfl 0 (.int .i64 1)).set 0 rfl 1 (ptrV sh)).set 0 rfl 2 (ptrV ap))
 go_wp2_with fail
 go_ret
 exact ⟨rfl, sh, ap, H3.out⟩
set_option maxHeartbeats 40000000 in
theorem suNew_any (ca : Option Addr) (cc : Nat) (xa : Option Addr) (xc : Nat) (w : World) (hp : DK.Pow w) (hX : Chs w ca cc [([0, 1], xa, xc)]) :
  Calls Tryz.prog 25 #[.agg #[.int .i64 3, .int .i64 1048576, .slice ca 1 cc, .int .i64 10, .int .i64 2]] w fun e w' => ∃ P M, e = .returned (.tuple #[ptrV P.s, .nilIface]) ∧ Is 1048576 1 M Go.Proofs.YtelneaokoiojkaaGreatDoor.M.new ∧ SuAt [] P 0 0 0 false 0 0 0 0 M w w' := by
 have HP := Lib.hid' hp
 have HX := Lib.hid' hX
 obtain ⟨M0, hn0, hI0⟩ := new_us
 have HN0 := Lib.hid' hn0
 have HI0 := Lib.hid' hI0
 have H0 := Zh ((Sep.start w).allocAt w.heap.size [.int .i64 3, .int .i64 1048576, .slice ca 1 cc, .int .i64 10, .int .i64 2] 65 rfl)
 clear hp hX hn0 hI0
 go_enter Tryz.func25, Tryz.ntmps25
 go_upto_region 1 with fail
 obtain ⟨w1, hw1⟩ : ∃ w1, w.alloc (.cells #[.int .i64 3, .int .i64 1048576, .slice ca 1 cc, .int .i64 10, .int .i64 2] 65) = w1 := ⟨_, rfl⟩
 rw [hw1]
 have H1 := Zh (show Sep w NoF [stgB w.heap.size ca cc] w1 by rw [← hw1]; exact H0.out)
 clear hw1 H0
 generalize hz : w.heap.size = z
 have HZ := Lib.hid' hz
 rw [hz] at H1
 clear hz
 refine startD (S := (fun w' => BoxW z [.int .i64 3, .int .i64 1048576, .slice ca 1 cc, .int .i64 10, .int .i64 2] 65 w')) (by kernel_rfl) (H1.out.drew.box 0 rfl) (fun hH0 => ?_)
 simp only [List.length_cons, List.length_nil, Nat.reduceAdd, List.replicate_succ, List.replicate_zero]
 refine tE 0 10 (.agg #[.int .i64 3, .int .i64 1048576, .slice ca 1 cc, .int .i64 10, .int .i64 2]) rfl rfl [(1, .pointer (some ⟨z, 0, none⟩))] hH0 ?_ ?_
 ·intro w hSw; have q0 := hSw.box.1 0 _ rfl; have q1 := hSw.box.1 1 _ rfl; have q2 := hSw.box.1 2 _ rfl; have q3 := hSw.box.1 3 _ rfl; have q4 := hSw.box.1 4 _ rfl; have ql := hSw.lt; go_simp
 dsimp only [sZ, sS]
 refine rD 1 rfl (fun K hK => ?_)
 go_simp
 refine (tnew_u _ H1.out.drew).mono ?_
 rintro en w2 ⟨up, rfl, h2⟩
 have H2 := Lib.hid' h2
 clear h2
 refine hK.out _ _ ?_ (fun hH1 => ?_)
 ·exact H2.out.box 0 rfl
 clear hK K
 try simp only [Act.put, gA, gZ, gS, sA, sZ, sS]
 refine rD 2 rfl (fun K hK => ?_)
 go_simp
 refine (tnew_u _ H2.out).mono ?_
 rintro en w3 ⟨dn, rfl, h3⟩
 have H3 := Lib.hid' h3
 clear h3
 refine hK.out _ _ ?_ (fun hH2 => ?_)
 ·exact H3.out.box 0 rfl
 clear hK K
 try simp only [Act.put, gA, gZ, gS, sA, sZ, sS]
 refine tD 3 13 (.agg #[.int .i64 0, .pointer none, .pointer none, .int .i64 3, .int .i64 1048576, .slice ca 1 cc, .int .i64 10, .int .i64 2, .pointer none, .int .i64 0, .int .i64 0, .int .i64 0, .bool false, .pointer none, .int .i64 0, .int .i64 0, .int .i64 0, .bool false, .pointer none, .pointer none, ptrV up, ptrV dn, .int .i64 1, .int .i64 0]) rfl rfl [(10, .agg #[.int .i64 3, .int .i64 1048576, .slice ca 1 cc, .int .i64 10, .int .i64 2]), (11, ptrV up), (12, ptrV dn)] hH2 ?_
 dsimp only [sZ, sS]
 refine rD 4 rfl (fun K hK => ?_)
 go_simp
 have H4 := Zh (H3.out.allocAt w3.heap.size [.int .i64 0, .pointer none, .pointer none, .int .i64 3, .int .i64 1048576, .slice ca 1 cc, .int .i64 10, .int .i64 2, .pointer none, .int .i64 0, .int .i64 0, .int .i64 0, .bool false, .pointer none, .int .i64 0, .int .i64 0, .int .i64 0, .bool false, .pointer none, .pointer none, ptrV up, ptrV dn, .int .i64 1, .int .i64 0] 79 rfl)
 refine hK.out _ _ ?_ (fun hH3 => ?_)
 ·exact H4.out.box 1 rfl
 clear hK K
 try simp only [Act.put, gA, gZ, gS, sA, sZ, sS]
 refine tD 5 4 (.pointer (some ⟨w3.heap.size, 0, none⟩)) rfl rfl [(14, .pointer (some ⟨w3.heap.size, 0, none⟩))] hH3 ?_
 dsimp only [sZ, sS]
 refine wpAnyH_done (by kernel_rfl) ?_ _
 obtain ⟨w4, hw4⟩ : ∃ w4, w3.alloc (.cells #[.int .i64 0, .pointer none, .pointer none, .int .i64 3, .int .i64 1048576, .slice ca 1 cc, .int .i64 10, .int .i64 2, .pointer none, .int .i64 0, .int .i64 0, .int .i64 0, .bool false, .pointer none, .int .i64 0, .int .i64 0, .int .i64 0, .bool false, .pointer none, .pointer none, ptrV up, ptrV dn, .int .i64 1, .int .i64 0] 79) = w4 := ⟨_, rfl⟩
 rw [hw4]
 have H5 := Zh (show Sep w NoF [suB w3.heap.size up dn ca cc 0 (.pointer none) (.pointer none) (.pointer none) 0 0 0 false (.pointer none) (.pointer none) (.pointer none), stgB z ca cc] w4 by rw [← hw4]; exact H4.out)
 clear hw4 H4
 generalize w3.heap.size = s at *
 have HS0 := Zh (show StN s up dn z ca cc M0 w 0 w4 from H5.out)
 clear H5 H1 H2 H3
 go_wp2_with fail
 go_loopw [15] (fun v15 wr => ∃ K : Nat, v15 = .int .i64 K ∧ K ≤ 2 ∧ Hid (StN s up dn z ca cc M0 w K wr)) (fun v15 _ => (2 - intOf v15).toNat)
 case atStart => exact ⟨0, rfl, by decide, HS0⟩
 case round =>
  clear HS0
  obtain ⟨K, rfl, hK, HS⟩ := hrel
  rcases (show K = 0 ∨ K = 1 ∨ K = 2 by omega) with rfl | rfl | rfl
  ·have hs : Sep w NoF [suB s up dn ca cc 0 (.pointer none) (.pointer none) (.pointer none) 0 0 0 false (.pointer none) (.pointer none) (.pointer none), stgB z ca cc] wr := HS.out
   have H0 := Lib.hid' hs
   clear hs HS
   have z0 := H0.out.cell 1 rfl 0 rfl; have z1 := H0.out.cell 1 rfl 1 rfl; have z2 := H0.out.cell 1 rfl 2 rfl; have zl := H0.out.lt 1 rfl
   go_wp2_with fail
   clear z0 z1 z2 zl
   have HNW := Zh (New_any 3 1048576 ca cc _ wr HP.out H0.out (HX.out.below (Nat.le_refl _) H0.out.toBelow) (by show ([0, 1] : List Int).length ≤ _; decide))
   refine HNW.out.mono ?_
   rintro e w5 hE
   unfold NewR at hE
   rw [show newCl 3 1048576 (([([0, 1], xa, xc)] : List Ch).map (·.1)) = (0, M0) from HN0.out] at hE
   obtain ⟨a, P0, rfl, hP0, h5⟩ : ∃ c P, e = .returned (.tuple #[ptrV c, .nilIface]) ∧ ClOK M0 P ∧ Sep w NoF ([suB s up dn ca cc 0 (.pointer none) (.pointer none) (.pointer none) 0 0 0 false (.pointer none) (.pointer none) (.pointer none), stgB z ca cc] ++ clB c M0 P) w5 := by
    rcases hE with ⟨h0, _⟩ | ⟨_, c, J, he, P, _, hP, H⟩
    ·exact absurd rfl h0
    ·rw [clL_eq] at H
     exact ⟨c, P, he, hP, H.perm List.perm_append_comm⟩
   have H5 := Lib.hid' h5
   have HP0 := Lib.hid' hP0
   clear hE h5 HNW hP0 H0
   have q0 := H5.out.cell 0 rfl 8 rfl; have qf := H5.out.free 0 rfl 8; have ql := H5.out.lt 0 rfl
   have H6 := Zh (H5.out.set 0 rfl 8 (ptrV a))
   go_wp2_with fail
   clear q0 qf ql H5
   go_roundw
   case rel => exact ⟨1, rfl, by decide, Lib.hid' ⟨a, P0, HP0.out, H6.out⟩⟩
   case measure => simp [intOf]
  ·obtain ⟨a, P0, hP0, hs⟩ : ∃ a P, ClOK M0 P ∧ Sep w NoF ([suB s up dn ca cc 0 (.pointer none) (.pointer none) (ptrV a) 0 0 0 false (.pointer none) (.pointer none) (.pointer none), stgB z ca cc] ++ clB a M0 P) wr := HS.out
   have H0 := Lib.hid' hs
   have HP0 := Lib.hid' hP0
   clear hs HS hP0
   have z0 := H0.out.cell 1 rfl 0 rfl; have z1 := H0.out.cell 1 rfl 1 rfl; have z2 := H0.out.cell 1 rfl 2 rfl; have zl := H0.out.lt 1 rfl
   go_wp2_with fail
   clear z0 z1 z2 zl
   have HNW := Zh (New_any 3 1048576 ca cc _ wr HP.out H0.out (HX.out.below (Nat.le_refl _) H0.out.toBelow) (by show ([0, 1] : List Int).length ≤ _; decide))
   refine HNW.out.mono ?_
   rintro e w5 hE
   unfold NewR at hE
   rw [show newCl 3 1048576 (([([0, 1], xa, xc)] : List Ch).map (·.1)) = (0, M0) from HN0.out] at hE
   obtain ⟨b, rfl, h5⟩ : ∃ c, e = .returned (.tuple #[ptrV c, .nilIface]) ∧ Sep w NoF ([suB s up dn ca cc 0 (.pointer none) (.pointer none) (ptrV a) 0 0 0 false (.pointer none) (.pointer none) (.pointer none), stgB z ca cc] ++ clB a M0 P0) w5 := by
    rcases hE with ⟨h0, _⟩ | ⟨_, c, J, he, h⟩
    ·exact absurd rfl h0
    ·exact ⟨c, he, h.side⟩
   have H5 := Lib.hid' h5
   clear hE h5 HNW H0
   have q0 := H5.out.cell 0 rfl 13 rfl; have qf := H5.out.free 0 rfl 13; have ql := H5.out.lt 0 rfl
   have H6 := Zh (H5.out.set 0 rfl 13 (ptrV b))
   go_wp2_with fail
   clear q0 qf ql H5
   go_roundw
   case rel => exact ⟨2, rfl, by decide, Lib.hid' ⟨a, b, P0, HP0.out, H6.out⟩⟩
   case measure => simp [intOf]
  ·obtain ⟨a, b, P0, hP0, hs⟩ : ∃ a b P, ClOK M0 P ∧ Sep w NoF ([suB s up dn ca cc 0 (.pointer none) (.pointer none) (ptrV a) 0 0 0 false (ptrV b) (.pointer none) (.pointer none), stgB z ca cc] ++ clB a M0 P) wr := HS.out
   have H0 := Lib.hid' hs
   have HP0 := Lib.hid' hP0
   clear hs HS hP0
   have z4 := H0.out.cell 1 rfl 4 rfl; have zl := H0.out.lt 1 rfl
   have q0 := H0.out.cell 0 rfl 18 rfl; have qf := H0.out.free 0 rfl 18; have ql := H0.out.lt 0 rfl
   go_wp2_with fail
   refine (cnew_any 2 wr).mono ?_
   rintro en w5 hE
   unfold NewCk at hE
   rw [if_neg (by decide)] at hE
   obtain ⟨rfl, hs⟩ := hE
   have H5 := Zh (show Sep w NoF (Asn.clk wr.heap.size ⟨0, 0, 2, false⟩ :: ([suB s up dn ca cc 0 (.pointer none) (.pointer none) (ptrV a) 0 0 0 false (ptrV b) (.pointer none) (.pointer none), stgB z ca cc] ++ clB a M0 P0)) w5 from H0.out.call0 hs)
   clear hs H0 z4 zl q0 qf ql
   generalize wr.heap.size = ck at *
   have q0 := H5.out.cell 1 rfl 18 rfl; have qf := H5.out.free 1 rfl 18; have ql := H5.out.lt 1 rfl
   have H6 := Zh (show Sep w NoF (suB s up dn ca cc 0 (.pointer none) (.pointer none) (ptrV a) 0 0 0 false (ptrV b) (ptrV ck) (.pointer none) :: Asn.clk ck ⟨0, 0, 2, false⟩ :: stgB z ca cc :: clB a M0 P0) _ from H5.out.set 1 rfl 18 (ptrV ck))
   go_wp2_with fail
   clear q0 qf ql H5
   generalize w5.setCell ⟨s, 18, none⟩ (ptrV ck) = w6 at *
   refine (dnew_any 65536 w6 (by decide)).mono ?_
   rintro en w7 ⟨N, G, rfl, hs⟩
   have H7 := Zh (show Sep w NoF (Asn.disk N (dkL []) G :: suB s up dn ca cc 0 (.pointer none) (.pointer none) (ptrV a) 0 0 0 false (ptrV b) (ptrV ck) (.pointer none) :: Asn.clk ck ⟨0, 0, 2, false⟩ :: stgB z ca cc :: clB a M0 P0) w7 from H6.out.call0 hs)
   clear hs H6
   have z3 := H7.out.cell 3 rfl 3 rfl; have z4 := H7.out.cell 3 rfl 4 rfl; have zl := H7.out.lt 3 rfl
   have q0 := H7.out.cell 1 rfl 19 rfl; have qf := H7.out.free 1 rfl 19; have ql := H7.out.lt 1 rfl
   go_wp2_with fail
   refine (ropen_new w7 (H7.out.at 0 rfl)).mono ?_
   rintro en w8 ⟨g, p, G', rfl, hs⟩
   have H8 := Zh (show Sep w NoF (rgB g p 10 2 0 0 0 0 :: stB p N :: Asn.disk N (dkL []) G' :: suB s up dn ca cc 0 (.pointer none) (.pointer none) (ptrV a) 0 0 0 false (ptrV b) (ptrV ck) (.pointer none) :: Asn.clk ck ⟨0, 0, 2, false⟩ :: stgB z ca cc :: clB a M0 P0) w8 from H7.out.call hs)
   clear hs H7 z3 z4 zl q0 qf ql
   have q0 := H8.out.cell 3 rfl 19 rfl; have qf := H8.out.free 3 rfl 19; have ql := H8.out.lt 3 rfl
   have H9 := Zh (show Sep w NoF (suB s up dn ca cc 0 (.pointer none) (.pointer none) (ptrV a) 0 0 0 false (ptrV b) (ptrV ck) (ptrV g) :: rgB g p 10 2 0 0 0 0 :: stB p N :: Asn.disk N (dkL []) G' :: Asn.clk ck ⟨0, 0, 2, false⟩ :: stgB z ca cc :: clB a M0 P0) _ from H8.out.set 3 rfl 19 (ptrV g))
   go_wp2_with fail
   clear q0 qf ql H8
   generalize w8.setCell ⟨s, 19, none⟩ (ptrV g) = w9 at *
   refine (begin_any w9 H9.out).mono ?_
   rintro en w10 ⟨rfl, sh, ap, h10⟩
   have H10 := Zh (show Sep w NoF (suB s up dn ca cc 1 (ptrV sh) (ptrV ap) (ptrV a) 0 0 0 false (ptrV b) (ptrV ck) (ptrV g) :: Asn.appl ap ⟨1, 0⟩ :: Asn.ship sh ⟨1, 0⟩ :: rgB g p 10 2 0 0 0 0 :: stB p N :: Asn.disk N (dkL []) G' :: Asn.clk ck ⟨0, 0, 2, false⟩ :: stgB z ca cc :: clB a M0 P0) w10 from h10)
   clear h10 H9
   go_wp2_with fail
   go_ret2
   exact ⟨⟨s, up, dn, ca, cc, sh, ap, a, b, ck, g, p, N⟩, M0, rfl, HI0.out, [], G', P0, .inl rfl, HP0.out, by rw [List.append_nil]; exact (H10.out.drop 7).rearr [1, 2, 5, 5, 5, 6, 6] rfl⟩
end SL
end Go.Proofs.YtelneaokoiojkaaGreatDoor

namespace Go.Proofs.YtelneaokoiojkaaGreatDoor
open Go.RowKit
namespace SL
open DK SH SQ
theorem sside_one {s : Nat} (w : World) (hs : s < w.heap.size) : Calls Tryz.prog 27 #[ptrV s, .int .i64 1] w fun e w' => e = .returned (.tuple #[.pointer (some ⟨s, 8, none⟩), .nilIface]) ∧ w = w' := by
 go_enter Tryz.func27, Tryz.ntmps27
 go_wp2
 go_ret2
 exact ⟨rfl, rfl⟩
theorem SuAt.toBelow {Z : List Asn} {P : SuP} {o e t o' e' t' k : Int} {wr : Bool} {M : Cl} {W w : World} (h : SuAt Z P o e t wr o' e' t' k M W w) : Below W.heap.size W w := by
 obtain ⟨_, _, _, _, _, H⟩ := h
 exact H.toBelow
theorem SuAt.below {Z : List Asn} {P : SuP} {o e t o' e' t' k : Int} {wr : Bool} {M : Cl} {W w w' : World} (h : SuAt Z P o e t wr o' e' t' k M W w) (hb : Below w.heap.size w w') : SuAt Z P o e t wr o' e' t' k M W w' := by
 obtain ⟨fl, G, Pc, h1, h2, H⟩ := h
 exact ⟨fl, G, Pc, h1, h2, H.below hb⟩
set_option maxHeartbeats 4000000 in
theorem sacq_one {Z : List Asn} {P : SuP} {M : Cl} {W : World} (w : World) (h : SuAt Z P 0 0 0 false 0 0 0 0 M W w) : Calls Tryz.prog 5 #[ptrV P.s, .int .i64 1, .bool false] w fun en w' => en = .returned (.tuple #[.agg #[.int .i64 1, .int .i64 1, .int .i64 10], .nilIface]) ∧ SuAt Z P 1 1 10 false 1 1 10 1 M W w' := by
 obtain ⟨fl, G, Pc, hfl, hok, h⟩ := h
 have HFL := Lib.hid' hfl
 have HOK := Lib.hid' hok
 have H0 := Zh (h.allocAt w.heap.size [.int .i64 0, .int .i64 0, .int .i64 0] 25 rfl)
 clear h hfl hok
 unfold suL at H0
 obtain ⟨s, up, dn, ca, cc, sh, ap, a, b, ck, rg, p, N⟩ := P
 simp only at *
 go_enter Tryz.func5, Tryz.ntmps5
 go_upto_region 1 with fail
 obtain ⟨w1, hw1⟩ : ∃ w1, w.alloc (.cells #[.int .i64 0, .int .i64 0, .int .i64 0] 25) = w1 := ⟨_, rfl⟩
 rw [hw1]
 have H1 := Zh (show Sep W NoF (.box w.heap.size [.int .i64 0, .int .i64 0, .int .i64 0] 25 :: suB s up dn ca cc 1 (ptrV sh) (ptrV ap) (ptrV a) 0 0 0 false (ptrV b) (ptrV ck) (ptrV rg) :: Asn.clk ck ⟨0, 0, 2, false⟩ :: rgB rg p 10 2 0 0 0 0 :: stB p N :: Asn.disk N (dkL fl) G :: Asn.ship sh ⟨1, 0⟩ :: Asn.appl ap ⟨1, 0⟩ :: (clB a M Pc ++ Z)) w1 by rw [← hw1]; exact H0.out)
 clear hw1 H0
 generalize w.heap.size = R at *
 have sl := H1.out.lt 1 rfl; have q18 := H1.out.cell 1 rfl 18 rfl; have q19 := H1.out.cell 1 rfl 19 rfl
 have HNOW := Zh (show Calls Tryz.prog 28 #[ptrV ck, .int .i64 1] w1 fun e w' => e = .returned (.tuple #[.int .i64 0, .nilIface]) ∧ w1 = w' from cnow_any ⟨0, 0, 2, false⟩ 1 w1 (H1.out.cell 2 rfl 0 rfl) (H1.out.cell 2 rfl 1 rfl) (H1.out.lt 2 rfl))
 go_wp2_with (first | (go_at_call 27; refine (sside_one _ sl).mono ?_; rintro en w' ⟨rfl, rfl⟩) | (go_at_call 28; refine HNOW.out.mono ?_; rintro en w' ⟨rfl, rfl⟩))
 refine (racq_one HFL.out w1 (H1.out.rearr [5, 5, 5] rfl)).mono ?_
 rintro en w2 ⟨rfl, G', fl', hf', h2⟩
 have H2 := Zh (show Sep W NoF (rgB rg p 10 2 1 1 10 1 :: stB p N :: Asn.disk N (dkL fl') G' :: .box R [.int .i64 0, .int .i64 0, .int .i64 0] 25 :: suB s up dn ca cc 1 (ptrV sh) (ptrV ap) (ptrV a) 0 0 0 false (ptrV b) (ptrV ck) (ptrV rg) :: Asn.clk ck ⟨0, 0, 2, false⟩ :: Asn.ship sh ⟨1, 0⟩ :: Asn.appl ap ⟨1, 0⟩ :: (clB a M Pc ++ Z)) w2 from h2)
 have HF' := Lib.hid' hf'
 clear h2 H1 HNOW sl q18 q19 hf' HFL
 have H3 := Zh (H2.out.allocAt w2.heap.size [.int .i64 1, .int .i64 1, .int .i64 10] 25 rfl)
 go_upto_region 8 with fail
 clear H2
 generalize w2.alloc (.cells #[.int .i64 1, .int .i64 1, .int .i64 10] 25) = w3 at *
 generalize w2.heap.size = B at *
 have b0 := H3.out.cell 0 rfl 0 rfl; have b1 := H3.out.cell 0 rfl 1 rfl; have b2 := H3.out.cell 0 rfl 2 rfl; have bl := H3.out.lt 0 rfl
 have s9 := H3.out.cell 5 rfl 9 rfl; have s10 := H3.out.cell 5 rfl 10 rfl; have s11 := H3.out.cell 5 rfl 11 rfl; have sl := H3.out.lt 5 rfl
 have f9 := H3.out.free 5 rfl 9; have f10 := H3.out.free 5 rfl 10; have f11 := H3.out.free 5 rfl 11
 have H4 := Zh (((H3.out.set 5 rfl 9 (.int .i64 1)).set 0 rfl 10 (.int .i64 1)).set 0 rfl 11 (.int .i64 10))
 go_upto_region 13 with fail
 clear H3 b0 b1 b2 bl s9 s10 s11 sl f9 f10 f11
 generalize ((w3.setCell ⟨s, 9, none⟩ (.int .i64 1)).setCell ⟨s, 10, none⟩ (.int .i64 1)).setCell ⟨s, 11, none⟩ (.int .i64 10) = w4 at *
 have H4 := Zh (show Sep W NoF (suB s up dn ca cc 1 (ptrV sh) (ptrV ap) (ptrV a) 1 1 10 false (ptrV b) (ptrV ck) (ptrV rg) :: .box B [.int .i64 1, .int .i64 1, .int .i64 10] 25 :: rgB rg p 10 2 1 1 10 1 :: stB p N :: Asn.disk N (dkL fl') G' :: .box R [.int .i64 0, .int .i64 0, .int .i64 0] 25 :: Asn.clk ck ⟨0, 0, 2, false⟩ :: Asn.ship sh ⟨1, 0⟩ :: Asn.appl ap ⟨1, 0⟩ :: (clB a M Pc ++ Z)) w4 from H4.out)
 have b0 := H4.out.cell 1 rfl 0 rfl; have b1 := H4.out.cell 1 rfl 1 rfl; have b2 := H4.out.cell 1 rfl 2 rfl; have bl := H4.out.lt 1 rfl
 have r0 := H4.out.cell 5 rfl 0 rfl; have r1 := H4.out.cell 5 rfl 1 rfl; have r2 := H4.out.cell 5 rfl 2 rfl; have rl := H4.out.lt 5 rfl
 have f0 := H4.out.free 5 rfl 0; have f1 := H4.out.free 5 rfl 1; have f2 := H4.out.free 5 rfl 2
 have H5 := (((H4.out.set 5 rfl 0 (.int .i64 1)).set 0 rfl 1 (.int .i64 1)).set 0 rfl 2 (.int .i64 10))
 go_wp2_with fail
 clear b0 b1 b2 bl r0 r1 r2 rl f0 f1 f2 H4
 generalize ((w4.setCell ⟨R, 0, none⟩ (.int .i64 1)).setCell ⟨R, 1, none⟩ (.int .i64 1)).setCell ⟨R, 2, none⟩ (.int .i64 10) = w5 at *
 have k0 := H5.cell 0 rfl 0 rfl; have k1 := H5.cell 0 rfl 1 rfl; have k2 := H5.cell 0 rfl 2 rfl
 refine bodyPost_ret (v := .tuple #[.agg #[.int .i64 1, .int .i64 1, .int .i64 10], .nilIface]) (by simp [results, Tryz.results5, go_sem, k0, k1, k2]) rfl ?_
 refine ⟨rfl, fl', G', Pc, HF'.out, HOK.out, ?_⟩
 have H6 : Sep W NoF (suB s up dn ca cc 1 (ptrV sh) (ptrV ap) (ptrV a) 1 1 10 false (ptrV b) (ptrV ck) (ptrV rg) :: rgB rg p 10 2 1 1 10 1 :: stB p N :: Asn.disk N (dkL fl') G' :: Asn.clk ck ⟨0, 0, 2, false⟩ :: Asn.ship sh ⟨1, 0⟩ :: Asn.appl ap ⟨1, 0⟩ :: (clB a M Pc ++ Z)) w5 := (H5.tail).drop 1
 exact H6.rearr [4, 1] rfl
set_option maxHeartbeats 4000000 in
theorem sholds_one {Z : List Asn} {P : SuP} {M : Cl} {W : World} {wr : Bool} (w : World) (h : SuAt Z P 1 1 10 wr 1 1 10 1 M W w) : Calls Tryz.prog 34 #[ptrV P.s, .int .i64 1] w fun en w' => en = .returned (.bool true) ∧ Below w.heap.size w w' := by
 obtain ⟨fl, G, Pc, hfl, hok, h⟩ := h
 have H1 := Lib.hid' h
 clear h hfl hok
 unfold suL at H1
 obtain ⟨s, up, dn, ca, cc, sh, ap, a, b, ck, rg, p, N⟩ := P
 simp only at *
 have sl := H1.out.lt 0 rfl; have q18 := H1.out.cell 0 rfl 18 rfl
 have s9 := H1.out.cell 0 rfl 9 rfl; have s10 := H1.out.cell 0 rfl 10 rfl; have s11 := H1.out.cell 0 rfl 11 rfl
 have HNOW := Zh (show Calls Tryz.prog 28 #[ptrV ck, .int .i64 1] w fun e w' => e = .returned (.tuple #[.int .i64 0, .nilIface]) ∧ w = w' from cnow_any ⟨0, 0, 2, false⟩ 1 w (H1.out.cell 1 rfl 0 rfl) (H1.out.cell 1 rfl 1 rfl) (H1.out.lt 1 rfl))
 clear H1
 go_enter Tryz.func34, Tryz.ntmps34
 go_wp2_with (first | (go_at_call 28; refine HNOW.out.mono ?_; rintro en w' ⟨rfl, rfl⟩) | (go_at_call 73; refine (lholds_any ⟨1, 1, 10⟩ 1 0 _).mono ?_; rintro en w2 ⟨rfl, hb⟩; rw [show Ls.holds ⟨1, 1, 10⟩ 1 0 = true from rfl]))
 go_ret
 exact ⟨rfl, hb⟩
set_option maxHeartbeats 4000000 in
theorem sprom_one {Z : List Asn} {P : SuP} {M : Cl} {W : World} (w : World) (h : SuAt Z P 1 1 10 false 1 1 10 1 M W w) : Calls Tryz.prog 10 #[ptrV P.s, .int .i64 1] w fun en w' => en = .returned .nilIface ∧ SuAt Z P 1 1 10 true 1 1 10 1 M W w' := by
 have HH := Zh (sholds_one w h)
 obtain ⟨fl, G, Pc, hfl, hok, h⟩ := h
 have HFL := Lib.hid' hfl
 have HOK := Lib.hid' hok
 have H1 := Lib.hid' h
 clear h hfl hok
 unfold suL at H1
 obtain ⟨s, up, dn, ca, cc, sh, ap, a, b, ck, rg, p, N⟩ := P
 simp only at *
 have sl := H1.out.lt 0 rfl
 go_enter Tryz.func10, Tryz.ntmps10
 go_wp2_with (go_at_call 27; refine (sside_one _ sl).mono ?_; rintro en w' ⟨rfl, rfl⟩)
 refine HH.out.mono ?_
 rintro en w2 ⟨rfl, hb⟩
 have H2 := Zh (H1.out.below hb)
 clear hb H1 HH sl
 have sl := H2.out.lt 0 rfl; have q22 := H2.out.cell 0 rfl 22 rfl; have q12 := H2.out.cell 0 rfl 12 rfl; have f12 := H2.out.free 0 rfl 12
 have H3 := Zh (H2.out.set 0 rfl 12 (.bool true))
 go_wp2_with fail
 go_ret
 exact ⟨rfl, fl, G, Pc, HFL.out, HOK.out, H3.out⟩
theorem swriter_one {Z : List Asn} {P : SuP} {M : Cl} {W : World} (w : World) (h : SuAt Z P 1 1 10 true 1 1 10 1 M W w) : Calls Tryz.prog 30 #[ptrV P.s, .int .i64 1] w fun en w' => en = .returned (.tuple #[.pointer (some ⟨P.s, 8, none⟩), .nilIface]) ∧ Below w.heap.size w w' := by
 have HH := Zh (sholds_one w h)
 obtain ⟨fl, G, Pc, hfl, hok, h⟩ := h
 unfold suL at h
 have sl := h.lt 0 rfl; have q12 := h.cell 0 rfl 12 rfl
 clear h hfl hok
 obtain ⟨s, up, dn, ca, cc, sh, ap, a, b, ck, rg, p, N⟩ := P
 simp only at *
 go_enter Tryz.func30, Tryz.ntmps30
 go_wp2_with (go_at_call 27; refine (sside_one _ sl).mono ?_; rintro en w' ⟨rfl, rfl⟩)
 refine HH.out.mono ?_
 rintro en w2 ⟨rfl, hb⟩
 go_wp2_with fail
 go_ret2
 exact ⟨rfl, hb⟩
set_option maxHeartbeats 4000000 in
theorem sapp_one {Z : List Asn} {P : SuP} {M M' : Cl} {W : World} {n : Int} (d : List UInt8) (da : Option Addr) (dc : Nat) (w : World) (hp : DK.Pow W) (h : SuAt Z P 1 1 10 true 1 1 10 1 M W w) (hok : M.ok) (hA : M.append d = (0, n, M')) (hB : ∀ {L : List Asn} (w' : World), Sep W NoF (Z ++ L) w' → Bytes w' (.slice da d.length dc) d) :
  Calls Tryz.prog 6 #[ptrV P.s, .int .i64 1, .slice da d.length dc] w fun en w' => en = .returned (.tuple #[.int .i64 n, .int .i64 1, .nilIface]) ∧ SuAt Z P 1 1 10 true 1 1 10 1 M' W w' := by
 have HW := Zh (swriter_one w h)
 have HAP := Lib.hid' hA
 have HB := Zh (fun (L : List Asn) w' => hB (L := L) w')
 have HP := Lib.hid' hp
 have HMO := Lib.hid' hok
 obtain ⟨fl, G, Pc, hfl, hok, h⟩ := h
 have HFL := Lib.hid' hfl
 have HOK := Lib.hid' hok
 have H1 := Lib.hid' h
 clear h hfl hok hp hA hB
 unfold suL at H1
 obtain ⟨s, up, dn, ca, cc, sh, ap, a, b, ck, rg, p, N⟩ := P
 simp only at *
 go_enter Tryz.func6, Tryz.ntmps6
 go_wp2_with fail
 refine HW.out.mono ?_
 rintro en w2 ⟨rfl, hb⟩
 have H2 := Zh (H1.out.below hb)
 clear hb H1 HW
 have sl := H2.out.lt 0 rfl; have q8 := H2.out.cell 0 rfl 8 rfl
 have hc2 : ClAt a M Pc.J (Z ++ suL ⟨s, up, dn, ca, cc, sh, ap, a, b, ck, rg, p, N⟩ 1 1 10 true 1 1 10 1 fl G) W w2 := ⟨Pc, rfl, HOK.out, by
  rw [clL_eq]
  exact (H2.out.perm List.perm_append_comm).perm (by rw [List.append_assoc]; exact List.Perm.refl _)⟩
 have HC := Zh (append_any d da dc w2 HP.out hc2 HMO.out (fun M' w' h' => HB.out _ w' h'.side))
 rw [HAP.out] at HC
 clear hc2 HAP HB HMO HOK HP
 go_wp2_with fail
 refine HC.out.mono ?_
 rintro en w3 ⟨rfl, h3⟩
 obtain ⟨Pc', _, hk', h4⟩ := h3
 rw [clL_eq] at h4
 have HK' := Lib.hid' hk'
 have hF' : Sep W NoF (suL ⟨s, up, dn, ca, cc, sh, ap, a, b, ck, rg, p, N⟩ 1 1 10 true 1 1 10 1 fl G ++ (clB a M' Pc' ++ Z)) w3 := (h4.perm (by rw [← List.append_assoc]; exact List.perm_append_comm))
 have H5 := Lib.hid' hF'
 clear HC h4 hk' hF' H2 sl q8
 unfold suL at H5
 simp only at H5
 have H6 := Zh (show Sep W NoF (suB s up dn ca cc 1 (ptrV sh) (ptrV ap) (ptrV a) 1 1 10 true (ptrV b) (ptrV ck) (ptrV rg) :: ([Asn.clk ck ⟨0, 0, 2, false⟩, rgB rg p 10 2 1 1 10 1, stB p N, Asn.disk N (dkL fl) G, Asn.ship sh ⟨1, 0⟩, Asn.appl ap ⟨1, 0⟩] ++ (clB a M' Pc' ++ Z))) w3 from H5.out)
 clear H5
 simp only [errV_0]
 go_upto_region 7 with fail
 have HF' := Zh (H6.out.drew)
 refine startD (S := (fun w' => BoxW s [.int .i64 1, ptrV sh, ptrV ap, .int .i64 3, .int .i64 1048576, .slice ca 1 cc, .int .i64 10, .int .i64 2, ptrV a, .int .i64 1, .int .i64 1, .int .i64 10, .bool true, ptrV b, .int .i64 0, .int .i64 0, .int .i64 0, .bool false, ptrV ck, ptrV rg, ptrV up, ptrV dn, .int .i64 1, .int .i64 0] 79 w')) (by kernel_rfl) (H6.out.drew.box 0 rfl) (fun hH0 => ?_)
 simp only [List.length_cons, List.length_nil, Nat.reduceAdd, List.replicate_succ, List.replicate_zero]
 refine tD 0 31 (.int .i64 n) rfl rfl [(6, .int .i64 n)] hH0 ?_
 dsimp only [sZ, sS]
 refine tD 1 32 (.pointer (some ⟨s, 8, none⟩)) rfl rfl [(9, .pointer (some ⟨s, 8, none⟩))] hH0 ?_
 dsimp only [sZ, sS]
 refine tD 2 33 (.pointer (some ⟨s, 8, none⟩)) rfl rfl [(32, .pointer (some ⟨s, 8, none⟩))] hH0 ?_
 dsimp only [sZ, sS]
 refine tD 3 34 (.pointer (some ⟨s, 9, none⟩)) rfl rfl [(33, .pointer (some ⟨s, 8, none⟩))] hH0 ?_
 dsimp only [sZ, sS]
 refine tD 4 35 (.pointer (some ⟨s, 10, none⟩)) rfl rfl [(34, .pointer (some ⟨s, 9, none⟩))] hH0 ?_
 dsimp only [sZ, sS]
 refine tE 5 36 (.int .i64 1) rfl rfl [(35, .pointer (some ⟨s, 10, none⟩))] hH0 ?_ ?_
 ·intro w hSw; have q10 := hSw.box.1 10 _ rfl; have ql := hSw.lt; go_simp
 dsimp only [sZ, sS]
 refine tD 6 6 (.int .i64 n) rfl rfl [(31, .int .i64 n)] hH0 ?_
 dsimp only [sZ, sS]
 refine tD 7 7 (.int .i64 1) rfl rfl [(36, .int .i64 1)] hH0 ?_
 dsimp only [sZ, sS]
 refine tD 8 8 (.nilIface) rfl rfl [] hH0 ?_
 dsimp only [sZ, sS]
 refine wpAnyH_done (by kernel_rfl) ?_ _
 go_wp2_with fail
 go_ret3
 exact ⟨rfl, fl, G, Pc', HFL.out, HK'.out, HF'.out⟩
end SL
end Go.Proofs.YtelneaokoiojkaaGreatDoor

namespace Go.Proofs.YtelneaokoiojkaaGreatDoor
open Go.RowKit
theorem sep_storeRow {P : Program} {w0 w : World} {F : Nat → Prop} {L : List Asn} {ops : Array Oper} {o : Oper} {a : Act} {K : Act → World → Prop} {Q : Exit → Act → World → Prop} {Z : Prop} (H : Sep w0 F L w) (i : Nat) {N t : Nat} {R : List Value} (hi : L[i]? = some (.box N R t)) (ty : TypeId) (x y : Operand) (R' : List Value)
  (hK : K (a.put o.dst undef) (w.setRow N R'.toArray)) (hgd : o.guard = none := by rfl) (ho : o.op = .store ty x y := by rfl) (hx : a.eval x = .pointer (some ⟨N, 0, none⟩) := by rfl) (hy : a.eval y = .agg R'.toArray := by rfl) (hz : (P.info? ty).map (·.size) = some R'.length := by kernel_rfl) (hl : R.length = R'.length := by rfl) (h1 : R'.all (·.oneCell') = true := by rfl) :
  if Region.wanted o (yielded ops a.tmps) = true then Oper.wp P o a w K Q else Z := by
 have hw : Region.wanted o (yielded ops a.tmps) = true := by simp [Region.wanted, hgd]
 rw [if_pos hw]
 exact wp_store_row ty x y ho N R'.toArray hx hy t R.toArray (H.box i hi) (by rw [List.size_toArray]; exact hz) (by simpa using hl) (by simpa using h1) hK
namespace SL
open DK SH SQ
@[go_sem] theorem index_side0 (w : World) (a b c d e f g h i j : Value) : (Instr.index 77 (.agg #[a, b, c, d, e, f, g, h, i, j]) (.int .i64 0)).run Tryz.prog w = .ok (.agg #[a, b, c, d, e]) w := by kernel_rfl
@[go_sem] theorem index_side1 (w : World) (a b c d e f g h i j : Value) : (Instr.index 77 (.agg #[a, b, c, d, e, f, g, h, i, j]) (.int .i64 1)).run Tryz.prog w = .ok (.agg #[f, g, h, i, j]) w := by kernel_rfl
/-- what of the status is there behind so many rounds -/
def stV (wt : Bool) : Nat → List Value
 | 0 => [.int .i64 1, .int .i64 1, .int .i64 0, .int .i64 0, .int .i64 0, .bool true, .bool false, .bool false, .int .i64 0, .int .i64 0, .int .i64 0, .int .i64 0, .int .i64 0, .int .i64 0]
 | 1 => [.int .i64 1, .int .i64 1, .int .i64 0, .int .i64 0, .int .i64 0, .bool true, .bool wt, .bool false, .int .i64 1, .int .i64 1, .int .i64 10, .int .i64 0, .int .i64 0, .int .i64 0]
 | _ => [.int .i64 1, .int .i64 1, .int .i64 0, .int .i64 0, .int .i64 0, .bool true, .bool wt, .bool false, .int .i64 1, .int .i64 1, .int .i64 10, .int .i64 0, .int .i64 0, .int .i64 0]
theorem son_any {s x : Nat} (w : World) (c1 : w.cell? ⟨s, 1, none⟩ = some (ptrV x)) (sl : s < w.heap.size) : Calls Tryz.prog 33 #[ptrV s] w fun e w' => e = .returned (.bool true) ∧ w = w' := by
 go_enter Tryz.func33, Tryz.ntmps33
 go_wp2
 go_ret
 exact ⟨rfl, rfl⟩
set_option maxHeartbeats 4000000 in
theorem sstat_one {Z : List Asn} {P : SuP} {M : Cl} {W : World} {wt : Bool} (w : World) (h : SuAt Z P 1 1 10 wt 1 1 10 1 M W w) : Calls Tryz.prog 24 #[ptrV P.s] w fun en w' => en = .returned (.agg #[.int .i64 1, .int .i64 1, .int .i64 0, .int .i64 0, .int .i64 0, .bool true, .bool wt, .bool false, .int .i64 1, .int .i64 1, .int .i64 10, .int .i64 0, .int .i64 0, .int .i64 0]) ∧ SuAt Z P 1 1 10 wt 1 1 10 1 M W w' := by
 obtain ⟨fl, G, Pc, hfl, hok, h⟩ := h
 have HFL := Lib.hid' hfl
 have HOK := Lib.hid' hok
 have H0 := Zh (h.allocAt w.heap.size [.int .i64 0, .int .i64 0, .int .i64 0, .int .i64 0, .int .i64 0, .bool false, .bool false, .bool false, .int .i64 0, .int .i64 0, .int .i64 0, .int .i64 0, .int .i64 0, .int .i64 0] 58 rfl)
 clear h hfl hok
 unfold suL at H0
 obtain ⟨s, up, dn, ca, cc, sh, ap, a, b, ck, rg, p, N⟩ := P
 simp only at *
 go_enter Tryz.func24, Tryz.ntmps24
 go_upto_region 3 with fail
 obtain ⟨w1, hw1⟩ : ∃ w1, w.alloc (.cells #[.int .i64 0, .int .i64 0, .int .i64 0, .int .i64 0, .int .i64 0, .bool false, .bool false, .bool false, .int .i64 0, .int .i64 0, .int .i64 0, .int .i64 0, .int .i64 0, .int .i64 0] 58) = w1 := ⟨_, rfl⟩
 rw [hw1]
 have H1 := Zh (show Sep W NoF (.box w.heap.size [.int .i64 0, .int .i64 0, .int .i64 0, .int .i64 0, .int .i64 0, .bool false, .bool false, .bool false, .int .i64 0, .int .i64 0, .int .i64 0, .int .i64 0, .int .i64 0, .int .i64 0] 58 :: suB s up dn ca cc 1 (ptrV sh) (ptrV ap) (ptrV a) 1 1 10 wt (ptrV b) (ptrV ck) (ptrV rg) :: Asn.clk ck ⟨0, 0, 2, false⟩ :: rgB rg p 10 2 1 1 10 1 :: stB p N :: Asn.disk N (dkL fl) G :: Asn.ship sh ⟨1, 0⟩ :: Asn.appl ap ⟨1, 0⟩ :: (clB a M Pc ++ Z)) w1 by rw [← hw1]; exact H0.out)
 clear hw1 H0
 generalize w.heap.size = R at *
 go_cut [3] (fun v3 wc => ∃ B : Nat, v3 = .pointer (some ⟨B, 0, none⟩) ∧ Hid (Sep W NoF (.box B [.int .i64 1, .int .i64 1, .int .i64 0, .int .i64 0, .int .i64 0, .bool true, .bool false, .bool false, .int .i64 0, .int .i64 0, .int .i64 0, .int .i64 0, .int .i64 0, .int .i64 0] 58 :: .box R [.int .i64 0, .int .i64 0, .int .i64 0, .int .i64 0, .int .i64 0, .bool false, .bool false, .bool false, .int .i64 0, .int .i64 0, .int .i64 0, .int .i64 0, .int .i64 0, .int .i64 0] 58 :: suB s up dn ca cc 1 (ptrV sh) (ptrV ap) (ptrV a) 1 1 10 wt (ptrV b) (ptrV ck) (ptrV rg) :: Asn.clk ck ⟨0, 0, 2, false⟩ :: rgB rg p 10 2 1 1 10 1 :: stB p N :: Asn.disk N (dkL fl) G :: Asn.ship sh ⟨1, 0⟩ :: Asn.appl ap ⟨1, 0⟩ :: (clB a M Pc ++ Z)) wc))
 case first =>
  refine startD (S := (fun w' => BoxW s [.int .i64 1, ptrV sh, ptrV ap, .int .i64 3, .int .i64 1048576, .slice ca 1 cc, .int .i64 10, .int .i64 2, ptrV a, .int .i64 1, .int .i64 1, .int .i64 10, .bool wt, ptrV b, .int .i64 0, .int .i64 0, .int .i64 0, .bool false, ptrV ck, ptrV rg, ptrV up, ptrV dn, .int .i64 1, .int .i64 0] 79 w')) (by kernel_rfl) (H1.out.drew.box 1 rfl) (fun hH0 => ?_)
  simp only [List.length_cons, List.length_nil, Nat.reduceAdd, List.replicate_succ, List.replicate_zero]
  refine tD 0 9 (ptrV s) rfl rfl [(0, ptrV s)] hH0 ?_
  dsimp only [sZ, sS]
  refine tD 1 10 (.pointer (some ⟨s, 0, none⟩)) rfl rfl [(9, ptrV s)] hH0 ?_
  dsimp only [sZ, sS]
  refine tD 2 11 (.pointer (some ⟨s, 22, none⟩)) rfl rfl [(10, .pointer (some ⟨s, 0, none⟩))] hH0 ?_
  dsimp only [sZ, sS]
  refine tE 3 12 (.int .i64 1) rfl rfl [(11, .pointer (some ⟨s, 22, none⟩))] hH0 ?_ ?_
  ·intro w hSw; have q22 := hSw.box.1 22 _ rfl; have ql := hSw.lt; go_simp
  dsimp only [sZ, sS]
  refine tD 4 13 (ptrV s) rfl rfl [(0, ptrV s)] hH0 ?_
  dsimp only [sZ, sS]
  refine tD 5 14 (.pointer (some ⟨s, 0, none⟩)) rfl rfl [(13, ptrV s)] hH0 ?_
  dsimp only [sZ, sS]
  refine tD 6 15 (.pointer (some ⟨s, 0, none⟩)) rfl rfl [(14, .pointer (some ⟨s, 0, none⟩))] hH0 ?_
  dsimp only [sZ, sS]
  refine tD 7 16 (.pointer (some ⟨s, 0, none⟩)) rfl rfl [(15, .pointer (some ⟨s, 0, none⟩))] hH0 ?_
  dsimp only [sZ, sS]
  refine tE 8 17 (.int .i64 1) rfl rfl [(16, .pointer (some ⟨s, 0, none⟩))] hH0 ?_ ?_
  ·intro w hSw; have q0 := hSw.box.1 0 _ rfl; have ql := hSw.lt; go_simp
  dsimp only [sZ, sS]
  refine tD 9 18 (ptrV s) rfl rfl [(0, ptrV s)] hH0 ?_
  dsimp only [sZ, sS]
  refine tD 10 19 (.pointer (some ⟨s, 0, none⟩)) rfl rfl [(18, ptrV s)] hH0 ?_
  dsimp only [sZ, sS]
  refine tD 11 20 (.pointer (some ⟨s, 23, none⟩)) rfl rfl [(19, .pointer (some ⟨s, 0, none⟩))] hH0 ?_
  dsimp only [sZ, sS]
  refine tE 12 21 (.int .i64 0) rfl rfl [(20, .pointer (some ⟨s, 23, none⟩))] hH0 ?_ ?_
  ·intro w hSw; have q23 := hSw.box.1 23 _ rfl; have ql := hSw.lt; go_simp
  dsimp only [sZ, sS]
  refine tD 13 22 (ptrV s) rfl rfl [(0, ptrV s)] hH0 ?_
  dsimp only [sZ, sS]
  refine tD 14 23 (ptrV s) rfl rfl [(22, ptrV s)] hH0 ?_
  dsimp only [sZ, sS]
  refine tD 15 24 (.pointer (some ⟨s, 0, none⟩)) rfl rfl [(23, ptrV s)] hH0 ?_
  dsimp only [sZ, sS]
  refine tD 16 25 (.pointer (some ⟨s, 2, none⟩)) rfl rfl [(24, .pointer (some ⟨s, 0, none⟩))] hH0 ?_
  dsimp only [sZ, sS]
  refine tE 17 26 (ptrV ap) rfl rfl [(25, .pointer (some ⟨s, 2, none⟩))] hH0 ?_ ?_
  ·intro w hSw; have q2 := hSw.box.1 2 _ rfl; have ql := hSw.lt; go_simp
  dsimp only [sZ, sS]
  refine tD 19 28 (ptrV s) rfl rfl [(0, ptrV s)] hH0 ?_
  dsimp only [sZ, sS]
  refine tD 20 29 (.pointer (some ⟨s, 0, none⟩)) rfl rfl [(28, ptrV s)] hH0 ?_
  dsimp only [sZ, sS]
  refine tD 21 30 (.pointer (some ⟨s, 0, none⟩)) rfl rfl [(29, .pointer (some ⟨s, 0, none⟩))] hH0 ?_
  dsimp only [sZ, sS]
  refine tD 22 31 (.pointer (some ⟨s, 1, none⟩)) rfl rfl [(30, .pointer (some ⟨s, 0, none⟩))] hH0 ?_
  dsimp only [sZ, sS]
  refine tE 23 32 (ptrV sh) rfl rfl [(31, .pointer (some ⟨s, 1, none⟩))] hH0 ?_ ?_
  ·intro w hSw; have q1 := hSw.box.1 1 _ rfl; have ql := hSw.lt; go_simp
  dsimp only [sZ, sS]
  refine tD 25 34 (ptrV s) rfl rfl [(0, ptrV s)] hH0 ?_
  dsimp only [sZ, sS]
  refine tD 26 35 (.pointer (some ⟨s, 0, none⟩)) rfl rfl [(34, ptrV s)] hH0 ?_
  dsimp only [sZ, sS]
  refine tD 27 36 (.pointer (some ⟨s, 0, none⟩)) rfl rfl [(35, .pointer (some ⟨s, 0, none⟩))] hH0 ?_
  dsimp only [sZ, sS]
  refine wpAnyH_ready (rs := [18, 30]) (by kernel_rfl) (by simp) (AllReadyH.cons (o := _) rfl (fun K hK => ?g1) (AllReadyH.cons (o := _) rfl (fun K hK => ?g2) AllReadyH.nil))
  case' g1 =>
   go_simp
   refine (aapplied_any _ (H1.out.drew.cell 7 rfl 1 rfl) (H1.out.drew.lt 7 rfl)).mono ?_
   rintro en wz ⟨rfl, rfl⟩
   refine hK.out _ _ ?_ (fun hH1 => ?_)
   ·exact H1.out.drew.box 1 rfl
   clear hK K
   try simp only [Act.put, gA, gZ, gS, sA, sZ, sS]
   refine wpAnyH_ready (rs := [24, 30]) (by kernel_rfl) (by simp) (AllReadyH.cons (o := _) rfl (fun K hK => ?g3) (AllReadyH.cons (o := _) rfl (fun K hK => ?g4) AllReadyH.nil))
   case' g3 =>
    go_simp
    refine (sacked_any _ (H1.out.drew.cell 6 rfl 1 rfl) (H1.out.drew.lt 6 rfl)).mono ?_
    rintro en wz ⟨rfl, rfl⟩
    refine hK.out _ _ ?_ (fun hH2 => ?_)
    ·exact H1.out.drew.box 1 rfl
    clear hK K
    try simp only [Act.put, gA, gZ, gS, sA, sZ, sS]
    refine wpAnyH_ready (rs := [28, 30]) (by kernel_rfl) (by simp) (AllReadyH.cons (o := _) rfl (fun K hK => ?g5) (AllReadyH.cons (o := _) rfl (fun K hK => ?g6) AllReadyH.nil))
    case' g5 =>
     go_simp
     refine (son_any _ (H1.out.drew.cell 1 rfl 1 rfl) (H1.out.drew.lt 1 rfl)).mono ?_
     rintro en wz ⟨rfl, rfl⟩
     refine hK.out _ _ ?_ (fun hH3 => ?_)
     ·exact H1.out.drew.box 1 rfl
     clear hK K
     try simp only [Act.put, gA, gZ, gS, sA, sZ, sS]
     refine tD 29 38 (.agg #[.int .i64 1, .int .i64 1, .int .i64 0, .int .i64 0, .int .i64 0, .bool true, .bool false, .bool false, .int .i64 0, .int .i64 0, .int .i64 0, .int .i64 0, .int .i64 0, .int .i64 0]) rfl rfl [(12, .int .i64 1), (17, .int .i64 1), (21, .int .i64 0), (27, .int .i64 0), (33, .int .i64 0), (37, .bool true)] hH3 ?_
     dsimp only [sZ, sS]
     refine rD 30 rfl (fun K hK => ?_)
     go_simp
     have HA := Zh (H1.out.drew.allocAt w1.heap.size [.int .i64 0, .int .i64 0, .int .i64 0, .int .i64 0, .int .i64 0, .bool false, .bool false, .bool false, .int .i64 0, .int .i64 0, .int .i64 0, .int .i64 0, .int .i64 0, .int .i64 0] 58 rfl)
     refine hK.out _ _ ?_ (fun hH4 => ?_)
     ·exact HA.out.box 2 rfl
     clear hK K
     try simp only [Act.put, gA, gZ, gS, sA, sZ, sS]
    case' g6 =>
     go_simp
     have HA := Zh (H1.out.drew.allocAt w1.heap.size [.int .i64 0, .int .i64 0, .int .i64 0, .int .i64 0, .int .i64 0, .bool false, .bool false, .bool false, .int .i64 0, .int .i64 0, .int .i64 0, .int .i64 0, .int .i64 0, .int .i64 0] 58 rfl)
     refine hK.out _ _ ?_ (fun hH3 => ?_)
     ·exact HA.out.box 2 rfl
     clear hK K
     try simp only [Act.put, gA, gZ, gS, sA, sZ, sS]
     refine rD 28 rfl (fun K hK => ?_)
     go_simp
     refine (son_any _ (HA.out.cell 2 rfl 1 rfl) (HA.out.lt 2 rfl)).mono ?_
     rintro en wz ⟨rfl, rfl⟩
     refine hK.out _ _ ?_ (fun hH4 => ?_)
     ·exact HA.out.box 2 rfl
     clear hK K
     try simp only [Act.put, gA, gZ, gS, sA, sZ, sS]
     refine tD 29 38 (.agg #[.int .i64 1, .int .i64 1, .int .i64 0, .int .i64 0, .int .i64 0, .bool true, .bool false, .bool false, .int .i64 0, .int .i64 0, .int .i64 0, .int .i64 0, .int .i64 0, .int .i64 0]) rfl rfl [(12, .int .i64 1), (17, .int .i64 1), (21, .int .i64 0), (27, .int .i64 0), (33, .int .i64 0), (37, .bool true)] hH4 ?_
     dsimp only [sZ, sS]
   case' g4 =>
    go_simp
    have HA := Zh (H1.out.drew.allocAt w1.heap.size [.int .i64 0, .int .i64 0, .int .i64 0, .int .i64 0, .int .i64 0, .bool false, .bool false, .bool false, .int .i64 0, .int .i64 0, .int .i64 0, .int .i64 0, .int .i64 0, .int .i64 0] 58 rfl)
    refine hK.out _ _ ?_ (fun hH2 => ?_)
    ·exact HA.out.box 2 rfl
    clear hK K
    try simp only [Act.put, gA, gZ, gS, sA, sZ, sS]
    refine rD 24 rfl (fun K hK => ?_)
    go_simp
    refine (sacked_any _ (HA.out.cell 7 rfl 1 rfl) (HA.out.lt 7 rfl)).mono ?_
    rintro en wz ⟨rfl, rfl⟩
    refine hK.out _ _ ?_ (fun hH3 => ?_)
    ·exact HA.out.box 2 rfl
    clear hK K
    try simp only [Act.put, gA, gZ, gS, sA, sZ, sS]
    refine rD 28 rfl (fun K hK => ?_)
    go_simp
    refine (son_any _ (HA.out.cell 2 rfl 1 rfl) (HA.out.lt 2 rfl)).mono ?_
    rintro en wz ⟨rfl, rfl⟩
    refine hK.out _ _ ?_ (fun hH4 => ?_)
    ·exact HA.out.box 2 rfl
    clear hK K
    try simp only [Act.put, gA, gZ, gS, sA, sZ, sS]
    refine tD 29 38 (.agg #[.int .i64 1, .int .i64 1, .int .i64 0, .int .i64 0, .int .i64 0, .bool true, .bool false, .bool false, .int .i64 0, .int .i64 0, .int .i64 0, .int .i64 0, .int .i64 0, .int .i64 0]) rfl rfl [(12, .int .i64 1), (17, .int .i64 1), (21, .int .i64 0), (27, .int .i64 0), (33, .int .i64 0), (37, .bool true)] hH4 ?_
    dsimp only [sZ, sS]
  case' g2 =>
   go_simp
   have HA := Zh (H1.out.drew.allocAt w1.heap.size [.int .i64 0, .int .i64 0, .int .i64 0, .int .i64 0, .int .i64 0, .bool false, .bool false, .bool false, .int .i64 0, .int .i64 0, .int .i64 0, .int .i64 0, .int .i64 0, .int .i64 0] 58 rfl)
   refine hK.out _ _ ?_ (fun hH1 => ?_)
   ·exact HA.out.box 2 rfl
   clear hK K
   try simp only [Act.put, gA, gZ, gS, sA, sZ, sS]
   refine rD 18 rfl (fun K hK => ?_)
   go_simp
   refine (aapplied_any _ (HA.out.cell 8 rfl 1 rfl) (HA.out.lt 8 rfl)).mono ?_
   rintro en wz ⟨rfl, rfl⟩
   refine hK.out _ _ ?_ (fun hH2 => ?_)
   ·exact HA.out.box 2 rfl
   clear hK K
   try simp only [Act.put, gA, gZ, gS, sA, sZ, sS]
   refine rD 24 rfl (fun K hK => ?_)
   go_simp
   refine (sacked_any _ (HA.out.cell 7 rfl 1 rfl) (HA.out.lt 7 rfl)).mono ?_
   rintro en wz ⟨rfl, rfl⟩
   refine hK.out _ _ ?_ (fun hH3 => ?_)
   ·exact HA.out.box 2 rfl
   clear hK K
   try simp only [Act.put, gA, gZ, gS, sA, sZ, sS]
   refine rD 28 rfl (fun K hK => ?_)
   go_simp
   refine (son_any _ (HA.out.cell 2 rfl 1 rfl) (HA.out.lt 2 rfl)).mono ?_
   rintro en wz ⟨rfl, rfl⟩
   refine hK.out _ _ ?_ (fun hH4 => ?_)
   ·exact HA.out.box 2 rfl
   clear hK K
   try simp only [Act.put, gA, gZ, gS, sA, sZ, sS]
   refine tD 29 38 (.agg #[.int .i64 1, .int .i64 1, .int .i64 0, .int .i64 0, .int .i64 0, .bool true, .bool false, .bool false, .int .i64 0, .int .i64 0, .int .i64 0, .int .i64 0, .int .i64 0, .int .i64 0]) rfl rfl [(12, .int .i64 1), (17, .int .i64 1), (21, .int .i64 0), (27, .int .i64 0), (33, .int .i64 0), (37, .bool true)] hH4 ?_
   dsimp only [sZ, sS]
  all_goals
   skip
   refine rD 31 rfl (fun K hK => ?_)
   refine sep_storeRow HA.out 0 rfl _ _ _ [.int .i64 1, .int .i64 1, .int .i64 0, .int .i64 0, .int .i64 0, .bool true, .bool false, .bool false, .int .i64 0, .int .i64 0, .int .i64 0, .int .i64 0, .int .i64 0, .int .i64 0] ?_
   have H2 := Zh (HA.out.setRow 0 rfl [.int .i64 1, .int .i64 1, .int .i64 0, .int .i64 0, .int .i64 0, .bool true, .bool false, .bool false, .int .i64 0, .int .i64 0, .int .i64 0, .int .i64 0, .int .i64 0, .int .i64 0])
   refine hK.out _ _ ?_ (fun hH5 => ?_)
   ·exact H2.out.box 2 rfl
   clear hK K
   refine wpAnyH_done (by kernel_rfl) ?_ _
   go_wp2_with fail
   go_meet
   exact ⟨w1.heap.size, rfl, H2⟩
 case rest =>
  obtain ⟨B, rfl, HB⟩ := hcut
  clear H1
  generalize hwc : wc = w2 at *
  clear hwc
  have q8 := HB.out.cell 2 rfl 8 rfl; have q9 := HB.out.cell 2 rfl 9 rfl; have q10 := HB.out.cell 2 rfl 10 rfl; have q11 := HB.out.cell 2 rfl 11 rfl; have q12 := HB.out.cell 2 rfl 12 rfl; have q13 := HB.out.cell 2 rfl 13 rfl; have q14 := HB.out.cell 2 rfl 14 rfl; have q15 := HB.out.cell 2 rfl 15 rfl; have q16 := HB.out.cell 2 rfl 16 rfl; have q17 := HB.out.cell 2 rfl 17 rfl; have ql := HB.out.lt 2 rfl
  go_wp2_with fail
  clear q8 q9 q10 q11 q12 q13 q14 q15 q16 q17 ql
  have HB0 := Zh (show Sep W NoF (.box B (stV wt 0) 58 :: .box R [.int .i64 0, .int .i64 0, .int .i64 0, .int .i64 0, .int .i64 0, .bool false, .bool false, .bool false, .int .i64 0, .int .i64 0, .int .i64 0, .int .i64 0, .int .i64 0, .int .i64 0] 58 :: suB s up dn ca cc 1 (ptrV sh) (ptrV ap) (ptrV a) 1 1 10 wt (ptrV b) (ptrV ck) (ptrV rg) :: Asn.clk ck ⟨0, 0, 2, false⟩ :: rgB rg p 10 2 1 1 10 1 :: stB p N :: Asn.disk N (dkL fl) G :: Asn.ship sh ⟨1, 0⟩ :: Asn.appl ap ⟨1, 0⟩ :: (clB a M Pc ++ Z)) w2 from HB.out)
  clear HB
  go_loopw [43] (fun v43 wr => ∃ K : Nat, v43 = .int .i64 K ∧ K ≤ 2 ∧ Hid (Sep W NoF (.box B (stV wt K) 58 :: .box R [.int .i64 0, .int .i64 0, .int .i64 0, .int .i64 0, .int .i64 0, .bool false, .bool false, .bool false, .int .i64 0, .int .i64 0, .int .i64 0, .int .i64 0, .int .i64 0, .int .i64 0] 58 :: suB s up dn ca cc 1 (ptrV sh) (ptrV ap) (ptrV a) 1 1 10 wt (ptrV b) (ptrV ck) (ptrV rg) :: Asn.clk ck ⟨0, 0, 2, false⟩ :: rgB rg p 10 2 1 1 10 1 :: stB p N :: Asn.disk N (dkL fl) G :: Asn.ship sh ⟨1, 0⟩ :: Asn.appl ap ⟨1, 0⟩ :: (clB a M Pc ++ Z)) wr)) (fun v43 _ => (2 - intOf v43).toNat)
  case atStart => exact ⟨0, rfl, by decide, HB0⟩
  case round =>
   clear HB0
   obtain ⟨K, rfl, hK, HS⟩ := hrel
   rcases (show K = 0 ∨ K = 1 ∨ K = 2 by omega) with rfl | rfl | rfl
   ·have H3 := Zh (HS.out.allocAt wr.heap.size [ptrV a, .int .i64 1, .int .i64 1, .int .i64 10, .bool wt] 76 rfl)
    go_upto_region 7 with fail
    obtain ⟨w3, hw3⟩ : ∃ w3, wr.alloc (.cells #[ptrV a, .int .i64 1, .int .i64 1, .int .i64 10, .bool wt] 76) = w3 := ⟨_, rfl⟩
    have hz3 : wr.alloc (.cells #[.pointer (some ⟨a, 0, none⟩), .int .i64 1, .int .i64 1, .int .i64 10, .bool wt] 76) = w3 := hw3
    first | rw [hz3] | rw [hw3]
    clear hz3
    have H4 := Zh (show Sep W NoF (.box wr.heap.size [ptrV a, .int .i64 1, .int .i64 1, .int .i64 10, .bool wt] 76 :: .box B (stV wt 0) 58 :: .box R [.int .i64 0, .int .i64 0, .int .i64 0, .int .i64 0, .int .i64 0, .bool false, .bool false, .bool false, .int .i64 0, .int .i64 0, .int .i64 0, .int .i64 0, .int .i64 0, .int .i64 0] 58 :: suB s up dn ca cc 1 (ptrV sh) (ptrV ap) (ptrV a) 1 1 10 wt (ptrV b) (ptrV ck) (ptrV rg) :: Asn.clk ck ⟨0, 0, 2, false⟩ :: rgB rg p 10 2 1 1 10 1 :: stB p N :: Asn.disk N (dkL fl) G :: Asn.ship sh ⟨1, 0⟩ :: Asn.appl ap ⟨1, 0⟩ :: (clB a M Pc ++ Z)) w3 by rw [← hw3]; exact H3.out)
    clear H3 hw3 HS
    generalize wr.heap.size = X at *
    have x1 := H4.out.cell 0 rfl 1 rfl; have x2 := H4.out.cell 0 rfl 2 rfl; have x3 := H4.out.cell 0 rfl 3 rfl; have x4 := H4.out.cell 0 rfl 4 rfl; have xl := H4.out.lt 0 rfl
    have b6 := H4.out.cell 1 rfl 6 rfl; have b8 := H4.out.cell 1 rfl 8 rfl; have b9 := H4.out.cell 1 rfl 9 rfl; have b10 := H4.out.cell 1 rfl 10 rfl; have bl := H4.out.lt 1 rfl
    have f6 := H4.out.free 1 rfl 6; have f8 := H4.out.free 1 rfl 8; have f9 := H4.out.free 1 rfl 9; have f10 := H4.out.free 1 rfl 10
    have hxb := H4.out.ne 0 1 rfl rfl (by decide)
    go_region
    have H5 := Zh ((((H4.out.set 1 rfl 6 (.bool wt)).set 0 rfl 8 (.int .i64 1)).set 0 rfl 9 (.int .i64 1)).set 0 rfl 10 (.int .i64 10))
    clear x1 x2 x3 x4 xl b6 b8 b9 b10 bl f6 f8 f9 f10 hxb
    go_wp2_with fail
    go_roundw
    case rel => exact ⟨1, rfl, by decide, Zh ((show Sep W NoF (.box B (stV wt 1) 58 :: .box X [ptrV a, .int .i64 1, .int .i64 1, .int .i64 10, .bool wt] 76 :: .box R [.int .i64 0, .int .i64 0, .int .i64 0, .int .i64 0, .int .i64 0, .bool false, .bool false, .bool false, .int .i64 0, .int .i64 0, .int .i64 0, .int .i64 0, .int .i64 0, .int .i64 0] 58 :: suB s up dn ca cc 1 (ptrV sh) (ptrV ap) (ptrV a) 1 1 10 wt (ptrV b) (ptrV ck) (ptrV rg) :: Asn.clk ck ⟨0, 0, 2, false⟩ :: rgB rg p 10 2 1 1 10 1 :: stB p N :: Asn.disk N (dkL fl) G :: Asn.ship sh ⟨1, 0⟩ :: Asn.appl ap ⟨1, 0⟩ :: (clB a M Pc ++ Z)) _ from H5.out.drew).drop 1)⟩
    case measure => simp [intOf]
   ·have H3 := Zh (HS.out.allocAt wr.heap.size [ptrV b, .int .i64 0, .int .i64 0, .int .i64 0, .bool false] 76 rfl)
    go_upto_region 7 with fail
    obtain ⟨w3, hw3⟩ : ∃ w3, wr.alloc (.cells #[ptrV b, .int .i64 0, .int .i64 0, .int .i64 0, .bool false] 76) = w3 := ⟨_, rfl⟩
    have hz3 : wr.alloc (.cells #[.pointer (some ⟨b, 0, none⟩), .int .i64 0, .int .i64 0, .int .i64 0, .bool false] 76) = w3 := hw3
    first | rw [hz3] | rw [hw3]
    clear hz3
    have H4 := Zh (show Sep W NoF (.box wr.heap.size [ptrV b, .int .i64 0, .int .i64 0, .int .i64 0, .bool false] 76 :: .box B (stV wt 1) 58 :: .box R [.int .i64 0, .int .i64 0, .int .i64 0, .int .i64 0, .int .i64 0, .bool false, .bool false, .bool false, .int .i64 0, .int .i64 0, .int .i64 0, .int .i64 0, .int .i64 0, .int .i64 0] 58 :: suB s up dn ca cc 1 (ptrV sh) (ptrV ap) (ptrV a) 1 1 10 wt (ptrV b) (ptrV ck) (ptrV rg) :: Asn.clk ck ⟨0, 0, 2, false⟩ :: rgB rg p 10 2 1 1 10 1 :: stB p N :: Asn.disk N (dkL fl) G :: Asn.ship sh ⟨1, 0⟩ :: Asn.appl ap ⟨1, 0⟩ :: (clB a M Pc ++ Z)) w3 by rw [← hw3]; exact H3.out)
    clear H3 hw3 HS
    generalize wr.heap.size = X at *
    have x1 := H4.out.cell 0 rfl 1 rfl; have x2 := H4.out.cell 0 rfl 2 rfl; have x3 := H4.out.cell 0 rfl 3 rfl; have x4 := H4.out.cell 0 rfl 4 rfl; have xl := H4.out.lt 0 rfl
    have b6 := H4.out.cell 1 rfl 7 rfl; have b8 := H4.out.cell 1 rfl 11 rfl; have b9 := H4.out.cell 1 rfl 12 rfl; have b10 := H4.out.cell 1 rfl 13 rfl; have bl := H4.out.lt 1 rfl
    have f6 := H4.out.free 1 rfl 7; have f8 := H4.out.free 1 rfl 11; have f9 := H4.out.free 1 rfl 12; have f10 := H4.out.free 1 rfl 13
    have hxb := H4.out.ne 0 1 rfl rfl (by decide)
    go_region
    have H5 := Zh ((((H4.out.set 1 rfl 7 (.bool false)).set 0 rfl 11 (.int .i64 0)).set 0 rfl 12 (.int .i64 0)).set 0 rfl 13 (.int .i64 0))
    clear x1 x2 x3 x4 xl b6 b8 b9 b10 bl f6 f8 f9 f10 hxb
    go_wp2_with fail
    go_roundw
    case rel => exact ⟨2, rfl, by decide, Zh ((show Sep W NoF (.box B (stV wt 2) 58 :: .box X [ptrV b, .int .i64 0, .int .i64 0, .int .i64 0, .bool false] 76 :: .box R [.int .i64 0, .int .i64 0, .int .i64 0, .int .i64 0, .int .i64 0, .bool false, .bool false, .bool false, .int .i64 0, .int .i64 0, .int .i64 0, .int .i64 0, .int .i64 0, .int .i64 0] 58 :: suB s up dn ca cc 1 (ptrV sh) (ptrV ap) (ptrV a) 1 1 10 wt (ptrV b) (ptrV ck) (ptrV rg) :: Asn.clk ck ⟨0, 0, 2, false⟩ :: rgB rg p 10 2 1 1 10 1 :: stB p N :: Asn.disk N (dkL fl) G :: Asn.ship sh ⟨1, 0⟩ :: Asn.appl ap ⟨1, 0⟩ :: (clB a M Pc ++ Z)) _ from H5.out.drew).drop 1)⟩
    case measure => simp [intOf]
   ·have H3 := Zh (show Sep W NoF (.box B (stV wt 2) 58 :: .box R [.int .i64 0, .int .i64 0, .int .i64 0, .int .i64 0, .int .i64 0, .bool false, .bool false, .bool false, .int .i64 0, .int .i64 0, .int .i64 0, .int .i64 0, .int .i64 0, .int .i64 0] 58 :: suB s up dn ca cc 1 (ptrV sh) (ptrV ap) (ptrV a) 1 1 10 wt (ptrV b) (ptrV ck) (ptrV rg) :: Asn.clk ck ⟨0, 0, 2, false⟩ :: rgB rg p 10 2 1 1 10 1 :: stB p N :: Asn.disk N (dkL fl) G :: Asn.ship sh ⟨1, 0⟩ :: Asn.appl ap ⟨1, 0⟩ :: (clB a M Pc ++ Z)) wr from HS.out)
    clear HS
    have hiz : (Tryz.prog.info? 58).map (·.size) = some (stV wt 2).length := by kernel_rfl
    go_wp2_with (first | (refine Sep.loadB H3.out 0 rfl rfl 58 (.tmp 3) rfl rfl _ Tryz.underlying58 rfl hiz ?_) | (refine Sep.storeB H3.out 1 rfl rfl 58 (.tmp 2) (.tmp 58) rfl (stV wt 2) rfl rfl hiz rfl rfl ?_))
    have H4 := H3.out.setRow 1 rfl (stV wt 2)
    refine bodyPost_ret (v := .agg (stV wt 2).toArray) (box_result (by first | rfl | kernel_rfl) (H4.box 0 rfl) _ rfl _ Tryz.underlying58 rfl hiz) rfl ?_
    exact ⟨rfl, fl, G, Pc, HFL.out, HOK.out, (H4.drop 1).tail⟩
end SL
end Go.Proofs.YtelneaokoiojkaaGreatDoor
