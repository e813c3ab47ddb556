/- Proved here: a part of the proof (30 of 33). -/
import Derived.Test.YtdknbacbcnfonaaGreatDoorJ27
import Derived.Test.YtdknbacbcnfonaaGreatDoorJ2
import Derived.Lib.IfaceNeq
import Derived.Deep.DeepCutAuto
import Derived.Deep.CutBlock
import Derived.Test.YtdknbacbcnfonaaGreatDoorJ26
import Derived.Test.YtdknbacbcnfonaaGreatDoorJ17
import Derived.Test.YtdknbacbcnfonaaGreatDoorJ32
set_option linter.unusedSimpArgs false
set_option linter.unusedVariables false
set_option maxRecDepth 100000
namespace Go.Proofs.YtdknbacbcnfonaaGreatDoor
open Go.RowKit
namespace SL
open DK SH SQ
@[go_sem] theorem neq_err (w : World) (a b : Int) : (binOp .neq 34 (.iface 55 (.int .i64 a)) (.iface 55 (.int .i64 b))).run Tryz.prog w = .ok (.bool (!(a == b))) w := Go.Lib.run_neq_iface_int w a b undErr (by kernel_rfl) Tryz.underlying55
@[go_sem] theorem neq_nilerr (w : World) (u : TypeId) (x : Value) : (binOp .neq 34 .nilIface (.iface u x)).run Tryz.prog w = .ok (.bool true) w := by
 have h : ∀ d : Nat, (Op.equalIn (d + 1) 34 .nilIface (.iface u x)).run Tryz.prog w = .ok false w := fun d => by simp [Op.equalIn, run_underlying undErr]
 simp only [binOp]
 simp [Op.equal, Op.maxDepth, h 9999]
def putA (e a : Int) (x : C) : Ac := if x.k = 1 then ⟨2, e, a, x.d⟩ else ⟨3, e, a, []⟩
/-- a cell is put into a unit -/
def Cl.putC (e a : Int) (x : C) (M : Cl) (u : Int) : Nat × Cl :=
 if x.k = 1 ∧ (M.do u.toNat (putA e a x)).1 = 8 ∧ ((M.do u.toNat (putA e a x)).2.2.readU u.toNat e a).1 = 0 ∧ ((M.do u.toNat (putA e a x)).2.2.readU u.toNat e a).2 = x then (0, (M.do u.toNat (putA e a x)).2.2)
 else ((M.do u.toNat (putA e a x)).1, (M.do u.toNat (putA e a x)).2.2)
theorem do_was_on {M : Cl} {u : Nat} {x : Ac} (h : (M.do u x).1 ≠ 14) (hu : u < M.us.length) : ∃ D S, (M.do u x).2.2.us[u]? = some ⟨D, some S⟩ := by
 obtain ⟨⟨D, s⟩, hx⟩ : ∃ x, M.us[u]? = some x := ⟨M.us[u], List.getElem?_eq_getElem hu⟩
 cases s with
 | none => rw [do_off x hx] at h; exact absurd rfl h
 | some S =>
  rw [do_on x hx]
  exact ⟨_, _, by show (M.us.set u _)[u]? = _; rw [List.getElem?_set_self hu]⟩
/-- a unit's shelf, where the cluster has it -/
theorem ClAt.shelf {c : Nat} {M : Cl} {J : CJ} {L : List Asn} {W w : World} (h : ClAt c M J L W w) {u : Nat} (hu : u < M.us.length) : ∃ g n cap Q, w.cell? ⟨c, 1, none⟩ = some (.slice (some ⟨g, 0, none⟩) n cap) ∧ u < n ∧ g < w.heap.size ∧ w.cell? ⟨g, u, none⟩ = some (optV Q) ∧
  (Q = none → ∃ D, M.us[u]? = some ⟨D, none⟩) ∧ (∀ q, Q = some q → ∃ D S, M.us[u]? = some ⟨D, some S⟩ ∧ ∀ (e a : Int) (wq : World), Below w.heap.size w wq → Calls Tryz.prog 58 #[ptrV q, .int .i64 e, .int .i64 a] wq (ReadR (readS S D e a).1 (readS S D e a).2 wq)) := by
 obtain ⟨P, rfl, hP, H⟩ := h
 obtain ⟨y, hy, hus, ⟨g, n, cap, hsv, hun, hgl, hgc⟩, _⟩ := cl_at hP H hu
 have c1 := H.cell 0 rfl 1 rfl
 rw [hsv] at c1
 refine ⟨g, n, cap, y.Q, c1, hun, hgl, hgc, fun hq => ?_, fun q hq => ?_⟩
 ·have hoff := cl_off hy hq H
  exact ⟨y.x.d, by rw [hus]; cases hyx : y.x with | mk D s => rw [hyx] at hoff; simp only at hoff; rw [hoff]⟩
 ·obtain ⟨S, hS, hsh, _⟩ := cl_on hP hy hq H
  refine ⟨y.x.d, S, by rw [hus]; cases hyx : y.x with | mk D s => rw [hyx] at hS; simp only at hS; rw [hS], fun e a wq hb => kread_any e a wq (hsh.below hb)⟩
theorem optV_on {Q : Option Nat} {M : Cl} {u : Nat} {D : Dk} {S : Sf} (h : M.us[u]? = some ⟨D, some S⟩) (h0 : Q = none → ∃ D, M.us[u]? = some ⟨D, none⟩) : ∃ q, Q = some q := by
 cases Q with
 | some q => exact ⟨q, rfl⟩
 | none => obtain ⟨D', h2⟩ := h0 rfl; rw [h] at h2; cases h2
set_option maxHeartbeats 8000000 in
theorem sput_any {c : Nat} {M : Cl} {J : CJ} {L : List Asn} {W : World} (u : Int) (e a : Int) (x : C) (xa : Option Addr) (xc : Nat) (w : World) (hp : Pow W) (h : ClAt c M J L W w) (hu : 0 ≤ u ∧ u < (M.us.length : Int)) (hok : M.ok) (hB : ∀ M' w', ClAt c M' J L W w' → Bytes w' (.slice xa x.d.length xc) x.d) :
  Calls Tryz.prog 60 #[ptrV c, .int .i64 u, .int .i64 e, .int .i64 a, .agg #[.int .i64 x.k, .slice xa x.d.length xc]] w fun en w' => en = .returned (errV (Cl.putC e a x M u).1) ∧ ClAt c (Cl.putC e a x M u).2 J L W w' := by
 obtain ⟨u, rfl⟩ : ∃ k : Nat, u = k := ⟨u.toNat, by omega⟩
 have hun : u < M.us.length := by omega
 have HB := Lib.hid' hB
 have hF : Cl.putC e a x M (u : Int) = if x.k = 1 ∧ (M.do u (putA e a x)).1 = 8 ∧ ((M.do u (putA e a x)).2.2.readU u e a).1 = 0 ∧ ((M.do u (putA e a x)).2.2.readU u e a).2 = x then (0, (M.do u (putA e a x)).2.2) else ((M.do u (putA e a x)).1, (M.do u (putA e a x)).2.2) := rfl
 by_cases hk : x.k = 1
 rotate_left
 ·have HF := Zh (hF.trans (if_neg (fun h => hk h.1)))
  have hA : putA e a x = ⟨3, e, a, []⟩ := if_neg hk
  rw [hA] at HF
  have h2 := Zh ((h.allocB w.heap.size [.int .i64 x.k, .slice xa x.d.length xc] 39 rfl).allocB (w.heap.size + 1) [.int .i64 3, .int .i64 e, .int .i64 a, .slice none 0 0] 68 (by simp))
  have HD := Zh (do_any u ⟨3, e, a, []⟩ none 0 _ hp h2.out hun hok (SlV.of_own (own_nil _ 0 0 0)))
  rw [show ac9V (⟨3, e, a, []⟩ : Ac) none 0 = .agg #[.int .i64 3, .int .i64 e, .int .i64 a, .slice none 0 0] from rfl] at HD
  have x0 := h2.out.side.cell 1 rfl 0 rfl; have xl := h2.out.side.lt 1 rfl
  have a0 := h2.out.side.cell 0 rfl 0 rfl; have a1 := h2.out.side.cell 0 rfl 1 rfl; have a2 := h2.out.side.cell 0 rfl 2 rfl; have a3 := h2.out.side.cell 0 rfl 3 rfl; have al := h2.out.side.lt 0 rfl
  have hkb : (x.k == 1) = false := by simpa using hk
  have hkn : (x.k != 1) = true := by simpa using hk
  generalize x.k = xk at *
  generalize M.do u ⟨3, e, a, []⟩ = r at *
  obtain ⟨z, n, M2⟩ := r
  have HK := Lib.hid' hk
  clear hF hA h hB hok hk h2 hp
  go_enter Tryz.func60, Tryz.ntmps60
  go_upto_region 2 with fail
  generalize (w.alloc _).alloc _ = w2 at *
  go_wp2_with fail
  refine HD.out.mono ?_
  rintro en w3 ⟨rfl, h3⟩
  have H3 := Lib.hid' h3
  have b0 := h3.side.cell 1 rfl 0 rfl; have bl := h3.side.lt 1 rfl
  clear h3 HD a0 a1 a2 a3 al x0 xl
  rw [show errV z = errV z from rfl]
  by_cases hz : z = 0
  ·subst hz
   rw [errV_0]
   go_wp2_with fail
   go_ret
   rw [HF.out]
   exact ⟨rfl, H3.out.sub ((List.Sublist.refl L).cons _ |>.cons _)⟩
  by_cases hz8 : z = 8
  ·subst hz8
   rw [errV_pos (by decide)]
   go_wp2_with fail
   go_ret
   rw [HF.out]
   exact ⟨rfl, H3.out.sub ((List.Sublist.refl L).cons _ |>.cons _)⟩
  ·have HZ := Lib.hid' hz
   rw [errV_pos hz]
   go_wp2_with fail
   go_ret
   rw [HF.out]
   exact ⟨by rw [errV_pos HZ.out]; rfl, H3.out.sub ((List.Sublist.refl L).cons _ |>.cons _)⟩
 ·have hA : putA e a x = ⟨2, e, a, x.d⟩ := if_pos hk
  rw [hA] at hF
  have h2 := (h.allocB w.heap.size [.int .i64 x.k, .slice xa x.d.length xc] 39 rfl).allocB (w.heap.size + 1) [.int .i64 3, .int .i64 e, .int .i64 a, .slice none 0 0] 68 (by simp)
  have HX := Zh (show ∀ wq, ClAt c M J (.box (w.heap.size + 1) [.int .i64 2, .int .i64 e, .int .i64 a, .slice xa x.d.length xc] 68 :: .box w.heap.size [.int .i64 x.k, .slice xa x.d.length xc] 39 :: L) W wq → Calls Tryz.prog 28 #[ptrV c, .int .i64 u, ac9V ⟨2, e, a, x.d⟩ xa xc] wq (ClR c (M.do u ⟨2, e, a, x.d⟩).2.2 J (.tuple #[.int .i64 (M.do u ⟨2, e, a, x.d⟩).2.1, errV (M.do u ⟨2, e, a, x.d⟩).1]) (.box (w.heap.size + 1) [.int .i64 2, .int .i64 e, .int .i64 a, .slice xa x.d.length xc] 68 :: .box w.heap.size [.int .i64 x.k, .slice xa x.d.length xc] 39 :: L) W) from
   fun wq hq => do_any u ⟨2, e, a, x.d⟩ xa xc wq hp hq hun hok (hB _ _ (hq.sub ((List.Sublist.refl L).cons _ |>.cons _))))
  have HON := Zh (fun (h14 : (M.do u ⟨2, e, a, x.d⟩).1 ≠ 14) => do_was_on h14 hun)
  have HLEN := Zh (Cl.do_len M u ⟨2, e, a, x.d⟩).1
  have HUN := Lib.hid' hun
  rw [show ac9V (⟨2, e, a, x.d⟩ : Ac) xa xc = .agg #[.int .i64 2, .int .i64 e, .int .i64 a, .slice xa x.d.length xc] from rfl] at HX
  obtain ⟨xk, xd⟩ := x
  obtain rfl : xk = 1 := hk
  simp only at hF HX HON HLEN HB h2 ⊢
  have HF := Lib.hid' hF
  have H2 := Lib.hid' h2
  have x0 := h2.side.cell 1 rfl 0 rfl; have x1 := h2.side.cell 1 rfl 1 rfl; have xl := h2.side.lt 1 rfl
  have a0 := h2.side.cell 0 rfl 0 rfl; have a1 := h2.side.cell 0 rfl 1 rfl; have a2 := h2.side.cell 0 rfl 2 rfl; have a3 := h2.side.cell 0 rfl 3 rfl; have al := h2.side.lt 0 rfl
  clear hF hA h hB hok h2 hp hun hu
  generalize M.do u ⟨2, e, a, xd⟩ = r at *
  obtain ⟨z, n, M2⟩ := r
  simp only at HX HON HLEN HF
  go_enter Tryz.func60, Tryz.ntmps60
  go_upto_region 2 with fail
  generalize hw2 : (w.alloc _).alloc _ = w2 at *
  clear hw2
  go_upto_region 3 with fail
  have fz0 := H2.out.side.free 0 rfl 0; have fz3a := H2.out.side.free 0 rfl 3
  refine startD (S := (fun w' => w'.cell? ⟨w.heap.size, 1, none⟩ = some (.slice xa xd.length xc))) (by kernel_rfl) x1 (fun hH0 => ?_)
  simp only [List.length_cons, List.length_nil, Nat.reduceAdd, List.replicate_succ, List.replicate_zero]
  refine tD 0 22 (.pointer (some ⟨w.heap.size, 1, none⟩)) rfl rfl [(9, .pointer (some ⟨w.heap.size, 0, none⟩))] hH0 ?_
  dsimp only [sZ, sS]
  refine tD 1 23 (.slice xa xd.length xc) rfl rfl [(22, .pointer (some ⟨w.heap.size, 1, none⟩))] hH0 ?_
  dsimp only [sZ, sS]
  refine tD 2 24 (.pointer (some ⟨(w.heap.size + 1), 0, none⟩)) rfl rfl [(11, .pointer (some ⟨(w.heap.size + 1), 0, none⟩))] hH0 ?_
  dsimp only [sZ, sS]
  refine rD 3 rfl (fun K hK => ?_)
  go_simp
  have H3 := Zh (H2.out.setB 0 (.int .i64 2))
  simp only [List.set_cons_zero, List.set_cons_succ] at H3
  have fz3 := H3.out.side.free 0 rfl 3
  refine hK.out _ _ ?_ (fun hH1 => ?_)
  ·exact (H3.out.below (Below.refl _ _).drew).side.cell 1 rfl 1 rfl
  clear hK K
  try simp only [Act.put, gA, gZ, gS, sA, sZ, sS]
  refine tD 4 25 (.pointer (some ⟨(w.heap.size + 1), 3, none⟩)) rfl rfl [(11, .pointer (some ⟨(w.heap.size + 1), 0, none⟩))] hH1 ?_
  dsimp only [sZ, sS]
  refine rD 5 rfl (fun K hK => ?_)
  go_simp
  have H4 := Zh (H3.out.setB 3 (.slice xa xd.length xc))
  simp only [List.set_cons_zero, List.set_cons_succ] at H4
  refine hK.out _ _ ?_ (fun hH2 => ?_)
  ·exact (H4.out.below (Below.refl _ _).drew).side.cell 1 rfl 1 rfl
  clear hK K
  refine wpAnyH_done (by kernel_rfl) ?_ _
  clear H3 fz0 fz3 fz3a x0 x1 xl a0 a1 a2 a3 al H2
  have H5 := Zh (H4.out.below (Below.refl _ _).drew)
  clear H4
  have H4 := H5
  clear H5
  have b0 := H4.out.side.cell 1 rfl 0 rfl; have b1 := H4.out.side.cell 1 rfl 1 rfl; have bl := H4.out.side.lt 1 rfl
  have a0 := H4.out.side.cell 0 rfl 0 rfl; have a1 := H4.out.side.cell 0 rfl 1 rfl; have a2 := H4.out.side.cell 0 rfl 2 rfl; have a3 := H4.out.side.cell 0 rfl 3 rfl; have al := H4.out.side.lt 0 rfl
  have HD := Zh (HX.out _ H4.out)
  generalize World.drew _ = w3 at *
  clear H4 HX
  go_wp2_with fail
  refine HD.out.mono ?_
  clear HD
  rintro en w4 ⟨rfl, h4⟩
  have HS4 := Zh (h4.sub (L' := L) ((List.Sublist.refl L).cons _ |>.cons _))
  have H4 := Lib.hid' h4
  clear a0 a1 a2 a3 al b0 b1 bl
  have b0 := h4.side.cell 1 rfl 0 rfl; have b1 := h4.side.cell 1 rfl 1 rfl; have bl := h4.side.lt 1 rfl
  clear h4
  simp only
  by_cases hz : z = 0
  ·have HF2 := Zh (HF.out.trans (if_neg (by rw [hz]; simp)))
   subst hz
   rw [errV_0]
   go_wp2_with fail
   go_ret
   rw [HF2.out]
   exact ⟨rfl, HS4.out⟩
  by_cases hz8 : z = 8
  rotate_left
  ·have HF2 := Zh (HF.out.trans (if_neg (fun h => hz8 h.2.1)))
   have HZ := Lib.hid' hz
   rw [errV_pos hz]
   go_wp2_with fail
   go_ret
   rw [HF2.out]
   exact ⟨by rw [errV_pos HZ.out]; rfl, HS4.out⟩
  subst hz8
  obtain ⟨D, S, hon⟩ := HON.out (by decide)
  obtain ⟨g, gn, gcap, Q, c1, hgn, hgl, hgc, hq0, hq1⟩ := H4.out.shelf (u := u) (by rw [HLEN.out]; exact HUN.out)
  obtain ⟨q, rfl⟩ := optV_on hon hq0
  obtain ⟨D', S', hon2, hrd⟩ := hq1 q rfl
  have HRU := Zh (show M2.readU u e a = readS S' D' e a from readU_on e a hon2)
  have HRD := Zh (hrd e a w4 (Below.refl _ _))
  rw [← HRU.out] at HRD
  have hcl := H4.out.c2.2
  have hgc2 : w4.cell? ⟨g, u, none⟩ = some (ptrV q) := hgc
  clear hon hq0 hq1 hon2 hrd hgc HON HLEN HUN hz HRU
  rw [errV_pos (by decide)]
  generalize M2.readU u e a = rd at *
  obtain ⟨y, cd⟩ := rd
  go_wp2_with fail
  refine HRD.out.mono ?_
  clear HRD
  rintro en w5 ⟨ra, rc, rfl, hro, hb5⟩
  have HS5 := Zh (HS4.out.below hb5)
  have H5 := Zh (H4.out.below hb5)
  have HRO := Zh (show Bytes w5 (.slice ra cd.d.length rc) cd.d from SlV.of_own hro)
  clear hro hb5 HS4 H4 hgc2 hcl c1 b0 b1 bl
  have b0 := H5.out.side.cell 1 rfl 0 rfl; have b1 := H5.out.side.cell 1 rfl 1 rfl; have bl := H5.out.side.lt 1 rfl
  simp only
  have hb6 : Below w5.heap.size w5 (w5.alloc (.cells #[.int .i64 cd.k, .slice ra cd.d.length rc] 39)) := by go_grown
  by_cases hy : y = 0
  rotate_left
  ·have HF2 := Zh (HF.out.trans (if_neg (fun h => hy h.2.2.1)))
   have HZ := Lib.hid' hy
   rw [errV_pos hy]
   clear hy
   go_wp2_with fail
   go_ret
   rw [HF2.out]
   exact ⟨rfl, HS5.out.below hb6⟩
  subst hy
  rw [errV_0]
  have hbx := HB.out _ _ (HS5.out.below hb6)
  have HSM := Zh (same_any (.agg #[.int .i64 cd.k, .slice ra cd.d.length rc]) (.agg #[.int .i64 1, .slice xa xd.length xc]) cd ⟨1, xd⟩ _ ⟨ra, rc, rfl, SlV.below HRO.out (Nat.le_refl _) hb6⟩ ⟨xa, xc, rfl, hbx⟩)
  clear hbx
  go_wp2_with fail
  refine HSM.out.mono ?_
  rintro en w6 ⟨rfl, hb7⟩
  have HS6 := Zh ((HS5.out.below hb6).below hb7)
  clear hb7 hb6 HSM b0 b1 bl
  by_cases hs : cd = ⟨1, xd⟩
  ·have HF2 := Zh (HF.out.trans (if_pos (by simp [hs])))
   rw [show decide (cd = (⟨1, xd⟩ : C)) = true from decide_eq_true hs]
   clear hs
   go_wp2_with fail
   go_ret
   rw [HF2.out]
   exact ⟨rfl, HS6.out⟩
  ·have HF2 := Zh (HF.out.trans (if_neg (fun h => hs h.2.2.2)))
   rw [show decide (cd = (⟨1, xd⟩ : C)) = false from decide_eq_false hs]
   clear hs
   go_wp2_with fail
   go_ret
   rw [HF2.out]
   exact ⟨rfl, HS6.out⟩
end SL
end Go.Proofs.YtdknbacbcnfonaaGreatDoor

namespace Go.Proofs.YtdknbacbcnfonaaGreatDoor
open Go.RowKit
namespace SL
open DK SH SQ
def Cl.raise (M : Cl) (n : Int) : Nat × Cl := ((M.q.raise M.p.e n).1, { M with q := (M.q.raise M.p.e n).2 })
set_option maxHeartbeats 4000000 in
theorem craise_any {c : Nat} {M : Cl} {J : CJ} {L : List Asn} {W : World} (n : Int) (w : World) (h : ClAt c M J L W w) :
  Calls Tryz.prog 36 #[ptrV c, .int .i64 n] w fun e w' => e = .returned (errV (M.raise n).1) ∧ ClAt c (M.raise n).2 J L W w' := by
 obtain ⟨b, K, hb4, hsq, _, hback⟩ := h.seqd
 obtain ⟨hc2, hl2⟩ := h.c2
 have HSQ := Lib.hid' hsq
 have HBK := Lib.hid' hback
 have HF := Zh (show M.raise n = ((M.q.raise M.p.e n).1, { M with q := (M.q.raise M.p.e n).2 }) from rfl)
 clear hsq hback h
 go_enter Tryz.func36, Tryz.ntmps36
 go_upto_region 1 with fail
 refine startD (S := (fun w' => w'.cell? ⟨c, 2, none⟩ = some (.int .i64 M.p.e) ∧ w'.cell? ⟨c, 4, none⟩ = some (ptrV b) ∧ c < w'.heap.size)) (by kernel_rfl) ⟨hc2, hb4, hl2⟩ (fun hH0 => ?_)
 simp only [List.length_cons, List.length_nil, Nat.reduceAdd, List.replicate_succ, List.replicate_zero]
 refine tD 0 5 (.pointer (some ⟨c, 0, none⟩)) rfl rfl [(0, .pointer (some ⟨c, 0, none⟩))] hH0 ?_
 dsimp only [sZ, sS]
 refine tD 1 6 (.pointer (some ⟨c, 0, none⟩)) rfl rfl [(5, .pointer (some ⟨c, 0, none⟩))] hH0 ?_
 dsimp only [sZ, sS]
 refine tD 2 7 (.pointer (some ⟨c, 4, none⟩)) rfl rfl [(6, .pointer (some ⟨c, 0, none⟩))] hH0 ?_
 dsimp only [sZ, sS]
 refine tD 3 8 (ptrV b) rfl rfl [(7, .pointer (some ⟨c, 4, none⟩))] hH0 ?_
 dsimp only [sZ, sS]
 refine tD 4 9 (.pointer (some ⟨c, 0, none⟩)) rfl rfl [(0, .pointer (some ⟨c, 0, none⟩))] hH0 ?_
 dsimp only [sZ, sS]
 refine tD 5 10 (.pointer (some ⟨c, 0, none⟩)) rfl rfl [(9, .pointer (some ⟨c, 0, none⟩))] hH0 ?_
 dsimp only [sZ, sS]
 refine tD 6 11 (.pointer (some ⟨c, 2, none⟩)) rfl rfl [(10, .pointer (some ⟨c, 0, none⟩))] hH0 ?_
 dsimp only [sZ, sS]
 refine tD 7 12 (.pointer (some ⟨c, 2, none⟩)) rfl rfl [(11, .pointer (some ⟨c, 2, none⟩))] hH0 ?_
 dsimp only [sZ, sS]
 refine tD 8 13 (.int .i64 M.p.e) rfl rfl [(12, .pointer (some ⟨c, 2, none⟩))] hH0 ?_
 dsimp only [sZ, sS]
 refine tD 9 14 (.int .i64 n) rfl rfl [(1, .int .i64 n)] hH0 ?_
 dsimp only [sZ, sS]
 refine rD 10 rfl (fun K hK => ?_)
 go_simp
 refine (SQ.raise_any M.p.e n HSQ.out.drew).mono ?_
 rintro e w2 ⟨rfl, hs2⟩
 obtain ⟨h2, hb42⟩ := HBK.out _ _ hs2
 have H2 := Lib.hid' h2
 have HF2 : w2.cell? ⟨c, 2, none⟩ = some (.int .i64 M.p.e) ∧ w2.cell? ⟨c, 4, none⟩ = some (ptrV b) ∧ c < w2.heap.size := ⟨h2.c2.1, hb42, h2.c2.2⟩
 clear hs2 h2 hb42
 refine hK.out _ _ ?_ (fun hH1 => ?_)
 ·exact HF2
 clear hK K
 try simp only [Act.put, gA, gZ, gS, sA, sZ, sS]
 refine tD 11 4 (errV (M.q.raise M.p.e n).1) rfl rfl [(15, errV (M.q.raise M.p.e n).1)] hH1 ?_
 dsimp only [sZ, sS]
 refine wpAnyH_done (by kernel_rfl) ?_ _
 clear HF2 hb4 hc2
 go_wp2_with fail
 go_ret
 rw [HF.out]
 exact ⟨rfl, H2.out⟩
set_option maxHeartbeats 4000000 in
theorem ctail_any {c : Nat} {M : Cl} {J : CJ} {L : List Asn} {W : World} (w : World) (h : ClAt c M J L W w) :
  Calls Tryz.prog 9 #[ptrV c] w fun e w' => e = .returned (.tuple #[.int .i64 M.tail.2, errV M.tail.1]) ∧ ClAt c M J L W w' := by
 obtain ⟨b, K, hb4, hsq, _, hback⟩ := h.seqd
 obtain ⟨hc2, hl2⟩ := h.c2
 have HSQ := Lib.hid' hsq
 have H := Lib.hid' h
 have HF := Zh (show M.tail = M.q.tail M.p.e from rfl)
 clear hsq hback h
 go_enter Tryz.func9, Tryz.ntmps9
 go_upto_region 3 with fail
 refine startD (S := (fun w' => w'.cell? ⟨c, 2, none⟩ = some (.int .i64 M.p.e) ∧ w'.cell? ⟨c, 4, none⟩ = some (ptrV b) ∧ c < w'.heap.size)) (by kernel_rfl) ⟨hc2, hb4, hl2⟩ (fun hH0 => ?_)
 simp only [List.length_cons, List.length_nil, Nat.reduceAdd, List.replicate_succ, List.replicate_zero]
 refine tD 0 7 (.pointer (some ⟨c, 0, none⟩)) rfl rfl [(0, .pointer (some ⟨c, 0, none⟩))] hH0 ?_
 dsimp only [sZ, sS]
 refine tD 1 8 (.pointer (some ⟨c, 0, none⟩)) rfl rfl [(7, .pointer (some ⟨c, 0, none⟩))] hH0 ?_
 dsimp only [sZ, sS]
 refine tD 2 9 (.pointer (some ⟨c, 4, none⟩)) rfl rfl [(8, .pointer (some ⟨c, 0, none⟩))] hH0 ?_
 dsimp only [sZ, sS]
 refine tD 3 10 (ptrV b) rfl rfl [(9, .pointer (some ⟨c, 4, none⟩))] hH0 ?_
 dsimp only [sZ, sS]
 refine tD 4 11 (.pointer (some ⟨c, 0, none⟩)) rfl rfl [(0, .pointer (some ⟨c, 0, none⟩))] hH0 ?_
 dsimp only [sZ, sS]
 refine tD 5 12 (.pointer (some ⟨c, 0, none⟩)) rfl rfl [(11, .pointer (some ⟨c, 0, none⟩))] hH0 ?_
 dsimp only [sZ, sS]
 refine tD 6 13 (.pointer (some ⟨c, 2, none⟩)) rfl rfl [(12, .pointer (some ⟨c, 0, none⟩))] hH0 ?_
 dsimp only [sZ, sS]
 refine tD 7 14 (.pointer (some ⟨c, 2, none⟩)) rfl rfl [(13, .pointer (some ⟨c, 2, none⟩))] hH0 ?_
 dsimp only [sZ, sS]
 refine tD 8 15 (.int .i64 M.p.e) rfl rfl [(14, .pointer (some ⟨c, 2, none⟩))] hH0 ?_
 dsimp only [sZ, sS]
 refine rD 9 rfl (fun K hK => ?_)
 go_simp
 refine (SQ.tail_any M.p.e HSQ.out.drew 0 rfl).mono ?_
 rintro e w2 ⟨rfl, hs2⟩
 subst hs2
 refine hK.out _ _ ?_ (fun hH1 => ?_)
 ·exact ⟨hc2, hb4, hl2⟩
 clear hK K
 try simp only [Act.put, gA, gZ, gS, sA, sZ, sS]
 refine tD 10 17 (.int .i64 (M.q.tail M.p.e).2) rfl rfl [(16, .tuple #[.int .i64 (M.q.tail M.p.e).2, errV (M.q.tail M.p.e).1])] hH1 ?_
 dsimp only [sZ, sS]
 refine tD 11 18 (errV (M.q.tail M.p.e).1) rfl rfl [(16, .tuple #[.int .i64 (M.q.tail M.p.e).2, errV (M.q.tail M.p.e).1])] hH1 ?_
 dsimp only [sZ, sS]
 refine tD 12 2 (.int .i64 (M.q.tail M.p.e).2) rfl rfl [(17, .int .i64 (M.q.tail M.p.e).2)] hH1 ?_
 dsimp only [sZ, sS]
 refine tD 13 3 (errV (M.q.tail M.p.e).1) rfl rfl [(18, errV (M.q.tail M.p.e).1)] hH1 ?_
 dsimp only [sZ, sS]
 refine wpAnyH_done (by kernel_rfl) ?_ _
 clear hb4 hc2
 go_wp2_with fail
 go_ret2
 rw [HF.out]
 exact ⟨rfl, H.out.below (by go_grown)⟩
/-- a cell, or an act, is spread over units -/
def Cl.putS (a : Int) (x : C) (M : Cl) (u : Int) : Nat × Cl := Cl.putC M.p.e a x M u
abbrev intB (N : Nat) (a : Int) : Asn := .box N [.int .i64 a] 3
abbrev cellB1 (N : Nat) (x : C) (xa : Option Addr) (xc : Nat) : Asn := .box N [.int .i64 x.k, .slice xa x.d.length xc] 39
theorem putC_len (e a : Int) (x : C) (M : Cl) (u : Int) : (Cl.putC e a x M u).2 = (M.do u.toNat (putA e a x)).2.2 := by unfold Cl.putC; split <;> rfl
theorem putC_ok {M : Cl} (h : M.ok) (e a : Int) (x : C) (u : Int) : (Cl.putC e a x M u).2.ok := by rw [putC_len]; exact h.do _ _
set_option maxHeartbeats 4000000 in
theorem spread1_any {c N1 N2 N3 : Nat} {M : Cl} {J : CJ} {L : List Asn} {W : World} (u a : Int) (x : C) (xa : Option Addr) (xc : Nat) (w : World) (hp : Pow W) (h : ClAt c M J (cellB1 N3 x xa xc :: intB N2 a :: ptrB N1 c :: L) W w) (hu : 0 ≤ u ∧ u < (M.us.length : Int)) (hok : M.ok) (hB : ∀ M' w', ClAt c M' J L W w' → Bytes w' (.slice xa x.d.length xc) x.d) :
  Calls Tryz.prog 59 #[.int .i64 u, ptrV N1, ptrV N2, ptrV N3] w fun e w' => e = .returned (errV (Cl.putS a x M u).1) ∧ ClAt c (Cl.putS a x M u).2 J (cellB1 N3 x xa xc :: intB N2 a :: ptrB N1 c :: L) W w' := by
 have HP := Zh (fun (wq : World) (hq : ClAt c M J (cellB1 N3 x xa xc :: intB N2 a :: ptrB N1 c :: L) W wq) => sput_any u M.p.e a x xa xc wq hp hq hu hok (fun M' w' h' => hB M' w' (h'.sub (((List.Sublist.refl L).cons _ |>.cons _) |>.cons _))))
 have H := Lib.hid' h
 have hs := h.side
 have HFX := Zh (show ∀ (M' : Cl) (wq : World), ClAt c M' J (cellB1 N3 x xa xc :: intB N2 a :: ptrB N1 c :: L) W wq → wq.cell? ⟨N1, 0, none⟩ = some (ptrV c) ∧ wq.cell? ⟨N2, 0, none⟩ = some (.int .i64 a) ∧ wq.cell? ⟨N3, 0, none⟩ = some (.int .i64 x.k) ∧ wq.cell? ⟨N3, 1, none⟩ = some (.slice xa x.d.length xc) ∧ wq.cell? ⟨c, 2, none⟩ = some (.int .i64 M'.p.e) ∧ N1 < wq.heap.size ∧ N2 < wq.heap.size ∧ N3 < wq.heap.size ∧ c < wq.heap.size from
  fun M' wq hq => ⟨hq.side.cell 2 rfl 0 rfl, hq.side.cell 1 rfl 0 rfl, hq.side.cell 0 rfl 0 rfl, hq.side.cell 0 rfl 1 rfl, hq.c2.1, hq.side.lt 2 rfl, hq.side.lt 1 rfl, hq.side.lt 0 rfl, hq.c2.2⟩)
 have hF := HFX.out M w h
 have hpe := Zh (show (Cl.putC M.p.e a x M u).2.p.e = M.p.e by rw [putC_len, (Cl.do_len _ _ _).2.1])
 have HPS := Zh (show Cl.putS a x M u = Cl.putC M.p.e a x M u from rfl)
 rw [HPS.out]
 clear h hs hok hB hu hp HPS
 go_enter Tryz.func59, Tryz.ntmps59
 go_upto_region 1 with fail
 refine startD (S := (fun w' => w'.cell? ⟨N1, 0, none⟩ = some (ptrV c) ∧ w'.cell? ⟨N2, 0, none⟩ = some (.int .i64 a) ∧ w'.cell? ⟨N3, 0, none⟩ = some (.int .i64 x.k) ∧ w'.cell? ⟨N3, 1, none⟩ = some (.slice xa x.d.length xc) ∧ w'.cell? ⟨c, 2, none⟩ = some (.int .i64 M.p.e) ∧ N1 < w'.heap.size ∧ N2 < w'.heap.size ∧ N3 < w'.heap.size ∧ c < w'.heap.size)) (by kernel_rfl) hF (fun hH0 => ?_)
 simp only [List.length_cons, List.length_nil, Nat.reduceAdd, List.replicate_succ, List.replicate_zero]
 refine tD 0 6 (.pointer (some ⟨c, 0, none⟩)) rfl rfl [(1, .pointer (some ⟨N1, 0, none⟩))] hH0 ?_
 dsimp only [sZ, sS]
 refine tD 1 7 (.int .i64 u) rfl rfl [(0, .int .i64 u)] hH0 ?_
 dsimp only [sZ, sS]
 refine tD 2 8 (.pointer (some ⟨c, 0, none⟩)) rfl rfl [(1, .pointer (some ⟨N1, 0, none⟩))] hH0 ?_
 dsimp only [sZ, sS]
 refine tD 3 9 (.pointer (some ⟨c, 0, none⟩)) rfl rfl [(8, .pointer (some ⟨c, 0, none⟩))] hH0 ?_
 dsimp only [sZ, sS]
 refine tD 4 10 (.pointer (some ⟨c, 2, none⟩)) rfl rfl [(9, .pointer (some ⟨c, 0, none⟩))] hH0 ?_
 dsimp only [sZ, sS]
 refine tD 5 11 (.pointer (some ⟨c, 2, none⟩)) rfl rfl [(10, .pointer (some ⟨c, 2, none⟩))] hH0 ?_
 dsimp only [sZ, sS]
 refine tD 6 12 (.int .i64 M.p.e) rfl rfl [(11, .pointer (some ⟨c, 2, none⟩))] hH0 ?_
 dsimp only [sZ, sS]
 refine tD 7 13 (.int .i64 a) rfl rfl [(2, .pointer (some ⟨N2, 0, none⟩))] hH0 ?_
 dsimp only [sZ, sS]
 refine tD 8 14 (.agg #[.int .i64 x.k, .slice xa x.d.length xc]) rfl rfl [(3, .pointer (some ⟨N3, 0, none⟩))] hH0 ?_
 dsimp only [sZ, sS]
 refine rD 9 rfl (fun K hK => ?_)
 go_simp
 refine (HP.out _ (H.out.below (Below.refl _ _).drew)).mono ?_
 rintro e w2 ⟨rfl, h2⟩
 have H2 := Lib.hid' h2
 have HF2 := HFX.out _ _ h2
 rw [hpe.out] at HF2
 clear h2
 refine hK.out _ _ ?_ (fun hH1 => ?_)
 ·exact HF2
 clear hK K
 try simp only [Act.put, gA, gZ, gS, sA, sZ, sS]
 refine tD 10 5 (errV (Cl.putC M.p.e a x M u).1) rfl rfl [(15, errV (Cl.putC M.p.e a x M u).1)] hH1 ?_
 dsimp only [sZ, sS]
 refine wpAnyH_done (by kernel_rfl) ?_ _
 clear HF2 hF
 go_wp2_with fail
 go_ret
 exact ⟨rfl, H2.out⟩
theorem cf_spread (args : Array Value) (w : World) : (callFunc 59 args).run Tryz.prog w = .ok (.enter 59 args) w := by kernel_rfl
def Cl.spread (l : List Int) (a : Int) (x : C) (M : Cl) : Nat × Cl := if (allC (Cl.putS a x) l M).1 ≠ 0 then allC (Cl.putS a x) l M else (allC (Cl.putS a x) l M).2.raise (a + 1)
/-- what stays as it is while cells are put -/
structure Stay (M M' : Cl) : Prop where
 us : M'.us.length = M.us.length
 p : M'.p = M.p
 q : M'.q = M.q
theorem Stay.refl (M : Cl) : Stay M M := ⟨rfl, rfl, rfl⟩
theorem Stay.do {M M' : Cl} (h : Stay M M') (u : Nat) (x : Ac) : Stay M (M'.do u x).2.2 := by
 have := Cl.do_len M' u x
 exact ⟨this.1.trans h.us, this.2.1.trans h.p, this.2.2.trans h.q⟩
theorem Stay.put {M M' : Cl} (h : Stay M M') (e a : Int) (x : C) (u : Int) : Stay M (Cl.putC e a x M' u).2 := by rw [putC_len]; exact h.do _ _
set_option maxHeartbeats 4000000 in
theorem spread_any {c : Nat} {M : Cl} {J : CJ} {L : List Asn} {W : World} (l : List Int) (ua : Option Addr) (uc : Nat) (a : Int) (x : C) (xa : Option Addr) (xc : Nat) (w : World) (hp : Pow W) (h : ClAt c M J L W w) (hok : M.ok) (hl : l.length ≤ 1048576) (hu : ∀ u ∈ l, 0 ≤ u ∧ u < (M.us.length : Int))
  (ha0 : 0 ≤ a) (ha : a < 1048576) (hZ : ∀ M' w', ClAt c M' J L W w' → Zs w' (.slice ua l.length uc) l) (hB : ∀ M' w', ClAt c M' J L W w' → Bytes w' (.slice xa x.d.length xc) x.d) :
  Calls Tryz.prog 33 #[ptrV c, .slice ua l.length uc, .int .i64 a, .agg #[.int .i64 x.k, .slice xa x.d.length xc]] w fun e w' => e = .returned (errV (M.spread l a x).1) ∧ ClAt c (M.spread l a x).2 J L W w' := by
 have h3 := ((h.allocB w.heap.size [ptrV c] 32 rfl).allocB (w.heap.size + 1) [.int .i64 a] 3 (by simp)).allocB (w.heap.size + 2) [.int .i64 x.k, .slice xa x.d.length xc] 39 (by simp)
 have hsub : List.Sublist L (cellB1 (w.heap.size + 2) x xa xc :: intB (w.heap.size + 1) a :: ptrB w.heap.size c :: L) := ((List.Sublist.refl L).cons _ |>.cons _) |>.cons _
 obtain ⟨w3, hw3⟩ : ∃ w3, ((w.alloc (.cells #[ptrV c] 32)).alloc (.cells #[.int .i64 a] 3)).alloc (.cells #[.int .i64 x.k, .slice xa x.d.length xc] 39) = w3 := ⟨_, rfl⟩
 have h3' : ClAt c M J (cellB1 (w.heap.size + 2) x xa xc :: intB (w.heap.size + 1) a :: ptrB w.heap.size c :: L) W w3 := by rw [← hw3]; exact h3
 have HF := Zh (show M.spread l a x = if (allC (Cl.putS a x) l M).1 ≠ 0 then allC (Cl.putS a x) l M else (allC (Cl.putS a x) l M).2.raise (a + 1) from rfl)
 clear h h3
 obtain ⟨N1, hN1⟩ : ∃ n, n = w.heap.size := ⟨_, rfl⟩
 obtain ⟨N2, hN2⟩ : ∃ n, n = w.heap.size + 1 := ⟨_, rfl⟩
 obtain ⟨N3, hN3⟩ : ∃ n, n = w.heap.size + 2 := ⟨_, rfl⟩
 rw [← hN3, ← hN2, ← hN1] at h3' hsub
 have HI := Zh (show ClAt c M J (cellB1 N3 x xa xc :: intB N2 a :: ptrB N1 c :: L) W w3 ∧ M.ok ∧ Stay M M from ⟨h3', hok, Stay.refl M⟩)
 have HDO := Zh (show DoesU 59 #[ptrV N1, ptrV N2, ptrV N3] (Cl.putS a x) (fun (s : Cl) (w : World) => ClAt c s J (cellB1 N3 x xa xc :: intB N2 a :: ptrB N1 c :: L) W w ∧ s.ok ∧ Stay M s) l from fun s v w hv hI => by
  refine (spread1_any (N1 := N1) (N2 := N2) (N3 := N3) v a x xa xc w hp hI.1 (by rw [hI.2.2.us]; exact hu v hv) hI.2.1 hB).mono ?_
  rintro e w' ⟨rfl, h'⟩
  exact ⟨rfl, h', putC_ok hI.2.1 _ _ _ _, hI.2.2.put _ _ _ _⟩)
 have HALL := Zh (all_any 59 #[ptrV N1, ptrV N2, ptrV N3] (Cl.putS a x) (fun (s : Cl) (w : World) => ClAt c s J (cellB1 N3 x xa xc :: intB N2 a :: ptrB N1 c :: L) W w ∧ s.ok ∧ Stay M s) l ua uc M w3 hl (fun s w hI => hZ _ _ (hI.1.sub hsub)) cf_spread HDO.out HI.out)
 have HSUB := Lib.hid' hsub
 clear hok hp hu hZ hB h3' HI HDO hl hsub
 generalize allC (Cl.putS a x) l M = r at *
 obtain ⟨z, M2⟩ := r
 go_enter Tryz.func33, Tryz.ntmps33
 go_upto_region 1 with fail
 try rw [hw3]
 rw [← hN3, ← hN2, ← hN1]
 clear hw3 hN1 hN2 hN3
 go_wp2_with fail
 refine HALL.out.mono ?_
 rintro e w4 ⟨rfl, h4, hok4, hst⟩
 simp only at h4 ⊢
 have H4 := Lib.hid' h4
 have hn1 := h4.side.cell 2 rfl 0 rfl
 have hn2 := h4.side.cell 1 rfl 0 rfl
 have hl1 := h4.side.lt 2 rfl
 have hl2 := h4.side.lt 1 rfl
 clear h4 hok4 hst HALL
 by_cases hz : z = 0
 ·subst hz
  have HR := Zh (HF.out.trans (if_neg (by simp)))
  have HRA := Zh (craise_any (a + 1) w4 H4.out)
  rw [errV_0]
  clear HF H4
  go_wp2_with fail
  refine HRA.out.mono ?_
  clear HRA
  rintro e w5 ⟨rfl, h5⟩
  go_wp2_with fail
  go_ret
  rw [HR.out]
  exact ⟨rfl, h5.sub HSUB.out⟩
 ·have HR := Zh (HF.out.trans (if_pos hz))
  have HZ := Lib.hid' hz
  rw [errV_pos hz]
  clear HF hz
  go_wp2_with fail
  go_ret
  rw [HR.out]
  exact ⟨by rw [errV_pos HZ.out]; rfl, H4.out.sub HSUB.out⟩
/-- units are trimmed -/
def Cl.trimS (e b : Int) (M : Cl) (u : Int) : Nat × Cl := ((M.do u.toNat ⟨4, e, b, []⟩).1, (M.do u.toNat ⟨4, e, b, []⟩).2.2)
set_option maxHeartbeats 4000000 in
theorem trim1_any {c N1 N2 N3 : Nat} {M : Cl} {J : CJ} {L : List Asn} {W : World} (u e b : Int) (w : World) (hp : Pow W) (h : ClAt c M J (intB N3 b :: intB N2 e :: ptrB N1 c :: L) W w) (hu : 0 ≤ u ∧ u < (M.us.length : Int)) (hok : M.ok) :
  Calls Tryz.prog 61 #[.int .i64 u, ptrV N1, ptrV N2, ptrV N3] w fun en w' => en = .returned (errV (Cl.trimS e b M u).1) ∧ ClAt c (Cl.trimS e b M u).2 J (intB N3 b :: intB N2 e :: ptrB N1 c :: L) W w' := by
 obtain ⟨k, rfl⟩ : ∃ k : Nat, u = k := ⟨u.toNat, by omega⟩
 have HD := Zh (do_any k ⟨4, e, b, []⟩ none 0 w hp h (by omega) hok (SlV.of_own (own_nil _ 0 0 0)))
 have hs := h.side
 have c0 := hs.cell 2 rfl 0 rfl; have c1 := hs.cell 1 rfl 0 rfl; have c2 := hs.cell 0 rfl 0 rfl
 have l0 := hs.lt 2 rfl; have l1 := hs.lt 1 rfl; have l2 := hs.lt 0 rfl
 have HW := Zh (show Cl.trimS e b M (k : Int) = ((M.do k ⟨4, e, b, []⟩).1, (M.do k ⟨4, e, b, []⟩).2.2) from rfl)
 rw [show ac9V (⟨4, e, b, []⟩ : Ac) none 0 = .agg #[.int .i64 4, .int .i64 e, .int .i64 b, .slice none 0 0] from rfl] at HD
 clear h hu hok hs hp
 go_enter Tryz.func61, Tryz.ntmps61
 go_wp2_with fail
 refine HD.out.mono ?_
 rintro en w2 ⟨rfl, h2⟩
 go_wp2_with fail
 go_ret
 rw [HW.out]
 exact ⟨rfl, h2⟩
theorem cf_trim (args : Array Value) (w : World) : (callFunc 61 args).run Tryz.prog w = .ok (.enter 61 args) w := by kernel_rfl
set_option maxHeartbeats 4000000 in
theorem trimAll_any {c : Nat} {M : Cl} {J : CJ} {L : List Asn} {W : World} (l : List Int) (ua : Option Addr) (uc : Nat) (e b : Int) (w : World) (hp : Pow W) (h : ClAt c M J L W w) (hok : M.ok) (hl : l.length ≤ 1048576) (hu : ∀ u ∈ l, 0 ≤ u ∧ u < (M.us.length : Int))
  (hZ : ∀ M' w', ClAt c M' J L W w' → Zs w' (.slice ua l.length uc) l) :
  Calls Tryz.prog 35 #[ptrV c, .slice ua l.length uc, .int .i64 e, .int .i64 b] w fun en w' => en = .returned (errV (allC (Cl.trimS e b) l M).1) ∧ ClAt c (allC (Cl.trimS e b) l M).2 J L W w' ∧ (allC (Cl.trimS e b) l M).2.ok ∧ Stay M (allC (Cl.trimS e b) l M).2 := by
 have h3 := ((h.allocB w.heap.size [ptrV c] 32 rfl).allocB (w.heap.size + 1) [.int .i64 e] 3 (by simp)).allocB (w.heap.size + 2) [.int .i64 b] 3 (by simp)
 have hsub : List.Sublist L (intB (w.heap.size + 2) b :: intB (w.heap.size + 1) e :: ptrB w.heap.size c :: L) := ((List.Sublist.refl L).cons _ |>.cons _) |>.cons _
 obtain ⟨w3, hw3⟩ : ∃ w3, ((w.alloc (.cells #[ptrV c] 32)).alloc (.cells #[.int .i64 e] 3)).alloc (.cells #[.int .i64 b] 3) = w3 := ⟨_, rfl⟩
 have h3' : ClAt c M J (intB (w.heap.size + 2) b :: intB (w.heap.size + 1) e :: ptrB w.heap.size c :: L) W w3 := by rw [← hw3]; exact h3
 clear h h3
 obtain ⟨N1, hN1⟩ : ∃ n, n = w.heap.size := ⟨_, rfl⟩
 obtain ⟨N2, hN2⟩ : ∃ n, n = w.heap.size + 1 := ⟨_, rfl⟩
 obtain ⟨N3, hN3⟩ : ∃ n, n = w.heap.size + 2 := ⟨_, rfl⟩
 rw [← hN3, ← hN2, ← hN1] at h3' hsub
 have HI := Zh (show ClAt c M J (intB N3 b :: intB N2 e :: ptrB N1 c :: L) W w3 ∧ M.ok ∧ Stay M M from ⟨h3', hok, Stay.refl M⟩)
 have HDO := Zh (show DoesU 61 #[ptrV N1, ptrV N2, ptrV N3] (Cl.trimS e b) (fun (s : Cl) (w : World) => ClAt c s J (intB N3 b :: intB N2 e :: ptrB N1 c :: L) W w ∧ s.ok ∧ Stay M s) l from fun s v w hv hI => by
  refine (trim1_any (N1 := N1) (N2 := N2) (N3 := N3) v e b w hp hI.1 (by rw [hI.2.2.us]; exact hu v hv) hI.2.1).mono ?_
  rintro e w' ⟨rfl, h'⟩
  exact ⟨rfl, h', hI.2.1.do _ _, hI.2.2.do _ _⟩)
 have HALL := Zh (all_any 61 #[ptrV N1, ptrV N2, ptrV N3] (Cl.trimS e b) (fun (s : Cl) (w : World) => ClAt c s J (intB N3 b :: intB N2 e :: ptrB N1 c :: L) W w ∧ s.ok ∧ Stay M s) l ua uc M w3 hl (fun s w hI => hZ _ _ (hI.1.sub hsub)) cf_trim HDO.out HI.out)
 have HSUB := Lib.hid' hsub
 clear hok hp hu hZ h3' HI HDO hl hsub
 generalize allC (Cl.trimS e b) l M = r at *
 go_enter Tryz.func35, Tryz.ntmps35
 go_upto_region 1 with fail
 try rw [hw3]
 rw [← hN3, ← hN2, ← hN1]
 clear hw3 hN1 hN2 hN3
 go_wp2_with fail
 refine HALL.out.mono ?_
 rintro en w4 ⟨rfl, h4, hok4, hst⟩
 have H4 := Lib.hid' h4
 have HK := Zh (And.intro hok4 hst)
 clear h4 hok4 hst HALL
 go_wp2_with fail
 go_ret
 exact ⟨rfl, H4.out.sub HSUB.out, HK.out⟩
end SL
end Go.Proofs.YtdknbacbcnfonaaGreatDoor

namespace Go.Proofs.YtdknbacbcnfonaaGreatDoor
open Go.RowKit
namespace SL
open DK SH SQ
theorem ClAt.belowRow {c : Nat} {M : Cl} {J : CJ} {L : List Asn} {W w w' : World} (h : ClAt c M J L W w) {e size n : Nat} {v : Value} {xs : List Value} (hb : Below w.heap.size w w') (ho : w'.ownsRow w.heap.size e size v n xs) : ClAt c M J (.row e size v n xs :: L) W w' := by
 obtain ⟨P, hJ, hP, H⟩ := h
 refine ⟨P, hJ, hP, (H.belowRow hb ho).perm ?_⟩
 have e1 : ∀ L, clL c M P L = (clK c M P ++ (Asn.pool P.Z P.vs :: P.Us.map (unA P.vs))) ++ L := fun L => by unfold clL; simp
 rw [e1 L, e1 (_ :: L)]
 exact List.perm_middle.symm
def Cl.putAt (M : Cl) (a : Int) (x : C) : Nat × Cl := if inB a 1048575 = false then (1, M) else if x.check ≠ 0 then (x.check, M) else if x.k ≠ 1 ∧ x.k ≠ 2 then (2, M) else M.spread (M.home a) a x
def fillTo (M : Cl) (a : Int) (rd : Nat × C) (u : Int) (r : List Int) : Nat × Cl :=
 if rd.1 ≠ 0 then (rd.1, M) else if rd.2.k = 3 then (9, M) else if rd.2.k ≠ 1 then M.spread (u :: r) a ⟨2, []⟩ else
 if (M.spread r a rd.2).1 ≠ 0 then M.spread r a rd.2 else (8, (M.spread r a rd.2).2)
def Cl.fill (M : Cl) (a : Int) : Nat × Cl := if inB a 1048575 = false then (1, M) else match M.home a with
 | [] => (0, M)
 | u :: r => fillTo M a (M.readU u.toNat M.p.e a) u r
theorem inB_iff {a m : Int} : inB a m = true ↔ 0 ≤ a ∧ a ≤ m := by unfold inB; simp
/-- a chain that is an address's home -/
theorem home_facts {M : Cl} (hok : M.ok) {l : List Int} (hm : l ∈ M.p.cs) : 1 ≤ l.length ∧ l.length ≤ 4 ∧ ∀ u ∈ l, 0 ≤ u ∧ u < (M.us.length : Int) :=
 ⟨((pj_ok hok.proj).each _ hm).1, ((pj_ok hok.proj).each _ hm).2, fun u hu => hok.there u (mem_all hm hu)⟩
set_option maxHeartbeats 8000000 in
theorem Put_any {c : Nat} {M : Cl} {J : CJ} {L : List Asn} {W : World} (a : Int) (x : C) (xa : Option Addr) (xc : Nat) (w : World) (hp : Pow W) (h : ClAt c M J L W w) (hok : M.ok) (hB : ∀ M' w', ClAt c M' J L W w' → Bytes w' (.slice xa x.d.length xc) x.d) :
  Calls Tryz.prog 12 #[ptrV c, .int .i64 a, .agg #[.int .i64 x.k, .slice xa x.d.length xc]] w fun e w' => e = .returned (errV (M.putAt a x).1) ∧ ClAt c (M.putAt a x).2 J L W w' := by
 have HP := Lib.hid' hp
 have HB := Lib.hid' hB
 have HOK := Lib.hid' hok
 have H1 := Zh (h.allocB w.heap.size [.int .i64 x.k, .slice xa x.d.length xc] 39 rfl)
 have HF := Zh (show M.putAt a x = if inB a 1048575 = false then (1, M) else if x.check ≠ 0 then (x.check, M) else if x.k ≠ 1 ∧ x.k ≠ 2 then (2, M) else M.spread (M.home a) a x from rfl)
 have hl0 : w.heap.size < (w.alloc (.cells #[.int .i64 x.k, .slice xa x.d.length xc] 39)).heap.size := by simp
 clear hp hB hok h
 have b0 := H1.out.side.cell 0 rfl 0 rfl; have b1 := H1.out.side.cell 0 rfl 1 rfl
 have HX := Zh (show Bytes (w.alloc (.cells #[.int .i64 x.k, .slice xa x.d.length xc] 39)) (.slice xa x.d.length xc) x.d from HB.out _ _ (ClAt.less (K := [_]) H1.out))
 have HCK := Zh (check_any (.agg #[.int .i64 x.k, .slice xa x.d.length xc]) x _ ⟨xa, xc, rfl, HX.out⟩)
 obtain ⟨w1, hw1⟩ : ∃ w1, w.alloc (.cells #[.int .i64 x.k, .slice xa x.d.length xc] 39) = w1 := ⟨_, rfl⟩
 have e0 : w.alloc (.cells [Value.int .i64 x.k, .slice xa x.d.length xc].toArray 39) = w1 := hw1
 rw [e0] at H1 b0 b1
 rw [hw1] at hl0 HX HCK
 clear e0
 go_enter Tryz.func12, Tryz.ntmps12
 go_upto_region 1 with fail
 try rw [hw1]
 clear hw1
 go_wp2_with fail
 refine (in2_any a 1048575 _).mono ?_
 rintro en wz ⟨rfl, rfl⟩
 go_wp2_with fail
 refine (ask_any c _ _).mono ?_
 rintro en wz ⟨rfl, rfl⟩
 by_cases hin : inB a 1048575 = true
 rotate_left
 ·have hin0 : inB a 1048575 = false := by simpa using hin
  have HR := Zh (HF.out.trans (if_pos hin0))
  rw [if_neg hin, errV_pos (by decide)]
  clear hin hin0
  go_wp2_with fail
  go_ret
  rw [HR.out]
  exact ⟨rfl, ClAt.less (K := [_]) H1.out⟩
 have HF1 := Zh (HF.out.trans (if_neg (by rw [hin]; decide)))
 rw [if_pos hin, errV_0]
 have HA := Zh (inB_iff.1 hin)
 clear hin HF
 go_wp2_with fail
 refine HCK.out.mono ?_
 clear HCK
 rintro en w2 ⟨rfl, hb2⟩
 have H2 := Zh (H1.out.below hb2)
 clear b0 b1 hl0 hb2 HX H1
 have b0 := H2.out.side.cell 0 rfl 0 rfl; have b1 := H2.out.side.cell 0 rfl 1 rfl; have hl0 := H2.out.side.lt 0 rfl
 by_cases hck : x.check = 0
 rotate_left
 ·have HR := Zh (HF1.out.trans (if_pos hck))
  have HZ := Lib.hid' hck
  rw [errV_pos hck]
  clear hck
  go_wp2_with fail
  go_ret
  rw [HR.out]
  exact ⟨by rw [errV_pos HZ.out]; rfl, ClAt.less (K := [_]) H2.out⟩
 have HF2 := Zh (HF1.out.trans (if_neg (by simp [hck])))
 rw [hck, errV_0]
 clear hck HF1
 go_upto_region 7 with fail
 go_cut [28] (fun v28 wc => v28 = .bool (decide (x.k ≠ 1 ∧ x.k ≠ 2)) ∧ wc = w2)
 case first =>
  by_cases hk1 : x.k = 1
  ·have hkb : (x.k != 1) = false := by simp [hk1]
   have hd : decide (x.k ≠ 1 ∧ x.k ≠ 2) = false := by simp [hk1]
   have HD := Lib.hid' hd
   clear hk1 hd
   go_wp2_with fail
   go_meet
   exact ⟨by rw [HD.out], rfl⟩
  ·have hkb : (x.k != 1) = true := by simpa using hk1
   have hd : decide (x.k ≠ 1 ∧ x.k ≠ 2) = (x.k != 2) := by rw [Bool.eq_iff_iff]; simp [hk1]
   have HD := Lib.hid' hd
   clear hk1 hd
   go_wp2_with fail
   go_meet
   exact ⟨by rw [HD.out], rfl⟩
 case rest =>
 obtain ⟨rfl, rfl⟩ := hcut
 by_cases hk : x.k ≠ 1 ∧ x.k ≠ 2
 ·have HR := Zh (HF2.out.trans (if_pos hk))
  rw [decide_eq_true hk]
  clear hk
  go_wp2_with fail
  go_ret
  rw [HR.out]
  exact ⟨rfl, ClAt.less (K := [_]) H2.out⟩
 have HR := Zh (HF2.out.trans (if_neg hk))
 rw [decide_eq_false hk]
 clear hk HF2
 go_upto_region 9 with fail
 refine startD (S := (fun w' => w'.cell? ⟨w.heap.size, 0, none⟩ = some (.int .i64 x.k) ∧ w'.cell? ⟨w.heap.size, 1, none⟩ = some (.slice xa x.d.length xc) ∧ w.heap.size < w'.heap.size)) (by kernel_rfl) ⟨b0, b1, hl0⟩ (fun hH0 => ?_)
 simp only [List.length_cons, List.length_nil, Nat.reduceAdd, List.replicate_succ, List.replicate_zero]
 refine tD 0 30 (.pointer (some ⟨c, 0, none⟩)) rfl rfl [(0, .pointer (some ⟨c, 0, none⟩))] hH0 ?_
 dsimp only [sZ, sS]
 refine tD 1 31 (.pointer (some ⟨c, 0, none⟩)) rfl rfl [(0, .pointer (some ⟨c, 0, none⟩))] hH0 ?_
 dsimp only [sZ, sS]
 refine tD 2 32 (.int .i64 a) rfl rfl [(1, .int .i64 a)] hH0 ?_
 dsimp only [sZ, sS]
 refine tD 4 34 (.int .i64 a) rfl rfl [(1, .int .i64 a)] hH0 ?_
 dsimp only [sZ, sS]
 refine tD 5 35 (.agg #[.int .i64 x.k, .slice xa x.d.length xc]) rfl rfl [(5, .pointer (some ⟨w.heap.size, 0, none⟩))] hH0 ?_
 dsimp only [sZ, sS]
 refine rD 3 rfl (fun K hK => ?_)
 go_simp
 refine (home_any a _ (H2.out.below (Below.refl _ _).drew) HOK.out HA.out.1).mono ?_
 rintro e w3 ⟨⟨⟨l, ya, yc⟩, hy, rfl, hyh⟩, hb3⟩
 have H3 := Zh ((H2.out.below (Below.refl _ _).drew).below hb3)
 have HY := Lib.hid' hy
 have HYH := Zh (show l = M.home a from hyh)
 have HHF := Zh (home_facts HOK.out (show l ∈ M.p.cs by rw [← show J.Ks.map (·.1) = M.p.cs from H2.out.csOf]; exact List.mem_map_of_mem (f := (·.1)) hy))
 rw [show chV (l, ya, yc) = .slice ya l.length yc from rfl]
 clear hy hyh hb3
 refine hK.out _ _ ?_ (fun hH1 => ?_)
 ·exact ⟨H3.out.side.cell 0 rfl 0 rfl, H3.out.side.cell 0 rfl 1 rfl, H3.out.side.lt 0 rfl⟩
 clear hK K
 try simp only [Act.put, gA, gZ, gS, sA, sZ, sS]
 refine rD 6 rfl (fun K hK => ?_)
 go_simp
 refine (spread_any (L := cellB1 w.heap.size x xa xc :: L) l ya yc a x xa xc _ HP.out H3.out HOK.out (by have := HHF.out.2.1; omega) HHF.out.2.2 HA.out.1 (by have := HA.out.2; omega) (fun M' w' h' => h'.chain HY.out) (fun M' w' h' => HB.out _ _ (ClAt.less (K := [_]) h'))).mono ?_
 rintro e w4 ⟨rfl, h4⟩
 rw [HYH.out] at h4 ⊢
 have H4 := Lib.hid' h4
 clear h4
 refine hK.out _ _ ?_ (fun hH2 => ?_)
 ·exact ⟨H4.out.side.cell 0 rfl 0 rfl, H4.out.side.cell 0 rfl 1 rfl, H4.out.side.lt 0 rfl⟩
 clear hK K
 try simp only [Act.put, gA, gZ, gS, sA, sZ, sS]
 refine tD 7 6 (errV (M.spread (M.home a) a x).1) rfl rfl [(36, errV (M.spread (M.home a) a x).1)] hH2 ?_
 dsimp only [sZ, sS]
 refine wpAnyH_done (by kernel_rfl) ?_ _
 clear b0 b1 hl0
 go_wp2_with fail
 go_ret
 rw [HR.out]
 exact ⟨rfl, ClAt.less (K := [_]) H4.out⟩
set_option maxHeartbeats 8000000 in
theorem Fill_any {c : Nat} {M : Cl} {J : CJ} {L : List Asn} {W : World} (a : Int) (w : World) (hp : Pow W) (h : ClAt c M J L W w) (hok : M.ok) :
  Calls Tryz.prog 11 #[ptrV c, .int .i64 a] w fun e w' => e = .returned (errV (M.fill a).1) ∧ ClAt c (M.fill a).2 J L W w' := by
 have HP := Lib.hid' hp
 have HOK := Lib.hid' hok
 have H1 := Lib.hid' h
 have HF := Zh (show M.fill a = if inB a 1048575 = false then (1, M) else match M.home a with
  | [] => (0, M)
  | u :: r => fillTo M a (M.readU u.toNat M.p.e a) u r from rfl)
 clear hp hok h
 go_enter Tryz.func11, Tryz.ntmps11
 go_wp2_with fail
 refine (in2_any a 1048575 _).mono ?_
 rintro en wz ⟨rfl, rfl⟩
 go_wp2_with fail
 refine (ask_any c _ _).mono ?_
 rintro en wz ⟨rfl, rfl⟩
 by_cases hin : inB a 1048575 = true
 rotate_left
 ·have hin0 : inB a 1048575 = false := by simpa using hin
  have HR := Zh (HF.out.trans (if_pos hin0))
  rw [if_neg hin, errV_pos (by decide)]
  clear hin hin0
  go_wp2_with fail
  go_ret
  rw [HR.out]
  exact ⟨rfl, H1.out⟩
 have HF1 := Zh (HF.out.trans (if_neg (by rw [hin]; decide)))
 rw [if_pos hin, errV_0]
 have HA := Zh (inB_iff.1 hin)
 clear hin HF
 go_wp2_with fail
 refine (home_any a _ H1.out HOK.out HA.out.1).mono ?_
 rintro e w2 ⟨⟨⟨l, ya, yc⟩, hy, rfl, hyh⟩, hb2⟩
 have H2 := Zh (H1.out.below hb2)
 have HY := Lib.hid' hy
 have HHF := Zh (home_facts HOK.out (show l ∈ M.p.cs by rw [← show J.Ks.map (·.1) = M.p.cs from H1.out.csOf]; exact List.mem_map_of_mem (f := (·.1)) hy))
 obtain ⟨u, r, rfl⟩ : ∃ u r, l = u :: r := by
  have := HHF.out.1
  cases l with
  | nil => simp at this
  | cons u r => exact ⟨u, r, rfl⟩
 have HHM := Zh (show M.home a = u :: r from hyh.symm)
 have HF2 := Zh (HF1.out.trans (by rw [HHM.out] : _ = fillTo M a (M.readU u.toNat M.p.e a) u r))
 obtain ⟨gb, go, hya, hgb, hgc⟩ := (H2.out.chain hy).at (k := 0) (by simp)
 have hgc2 : w2.cell? ⟨gb, go, none⟩ = some (.int .i64 u) := hgc
 simp only at hya
 subst hya
 rw [show chV (u :: r, some ⟨gb, go, none⟩, yc) = .slice (some ⟨gb, go, none⟩) (r.length + 1) yc from rfl]
 have hu0 := HHF.out.2.2 u List.mem_cons_self
 obtain ⟨k, rfl⟩ : ∃ k : Nat, u = k := ⟨u.toNat, by omega⟩
 have HRD := Zh (read_any k a w2 H2.out (by omega))
 rw [show ((k : Nat) : Int).toNat = k from rfl] at HF2
 have hlr : r.length ≤ 3 := by have := HHF.out.2.1; simp at this; omega
 clear hb2 hy hyh hgc HF1 H1 hu0
 generalize M.readU k M.p.e a = rd at *
 obtain ⟨z, x⟩ := rd
 go_wp2_with fail
 refine HRD.out.mono ?_
 clear HRD
 rintro en w3 ⟨xa, xc, rfl, ho, hb3⟩
 simp only at ho ⊢
 have H3 := Zh (H2.out.belowRow hb3 ho)
 have hx3 := bytes_len (show Bytes w3 (.slice xa x.d.length xc) x.d from SlV.of_own ho)
 have H4 := Zh (H3.out.allocB w3.heap.size [.int .i64 x.k, .slice xa x.d.length xc] 39 rfl)
 clear ho hb3 H2 hgc2 hgb
 by_cases hz : z = 0
 rotate_left
 ·have HR := Zh (HF2.out.trans (by unfold fillTo; rw [if_pos hz] : _ = (z, M)))
  have HZ := Lib.hid' hz
  rw [errV_pos hz]
  clear hz
  go_wp2_with fail
  go_ret
  rw [HR.out]
  exact ⟨by rw [errV_pos HZ.out]; rfl, ClAt.less (K := [_, _]) H4.out⟩
 subst hz
 rw [errV_0]
 have HF3 := Zh (HF2.out.trans (by unfold fillTo; rw [if_neg (by simp)] : _ = if x.k = 3 then (9, M) else if x.k ≠ 1 then M.spread ((k : Int) :: r) a ⟨2, []⟩ else if (M.spread r a x).1 ≠ 0 then M.spread r a x else (8, (M.spread r a x).2)))
 clear HF2
 have b0 := H4.out.side.cell 0 rfl 0 rfl; have b1 := H4.out.side.cell 0 rfl 1 rfl; have bl := H4.out.side.lt 0 rfl
 have e0 : w3.alloc (.cells [Value.int .i64 x.k, .slice xa x.d.length xc].toArray 39) = w3.alloc (.cells #[.int .i64 x.k, .slice xa x.d.length xc] 39) := rfl
 rw [e0] at H4 b0 b1 bl
 clear e0
 go_upto_region 6 with fail
 generalize w3.alloc (.cells #[.int .i64 x.k, .slice xa x.d.length xc] 39) = w4 at *
 generalize w3.heap.size = N at *
 by_cases hk3 : x.k = 3
 ·have HR := Zh (HF3.out.trans (if_pos hk3))
  have hkb : (x.k == 3) = true := by simpa using hk3
  clear hk3
  go_wp2_with fail
  go_ret
  rw [HR.out]
  exact ⟨rfl, ClAt.less (K := [_, _]) H4.out⟩
 have HF4 := Zh (HF3.out.trans (if_neg hk3))
 have hkb3 : (x.k == 3) = false := by simpa using hk3
 clear hk3 HF3
 by_cases hk1 : x.k = 1
 rotate_left
 ·have HR := Zh (HF4.out.trans (if_pos hk1))
  have hkb : (x.k != 1) = true := by simpa using hk1
  have HSP := Zh (spread_any ((k : Int) :: r) (some ⟨gb, go, none⟩) yc a ⟨2, []⟩ none 0 _ HP.out H4.out HOK.out (by have := HHF.out.2.1; omega) HHF.out.2.2 HA.out.1 (by have := HA.out.2; omega) (fun M' w' h' => h'.chain HY.out) (fun M' w' h' => SlV.of_own (own_nil _ 0 0 0)))
  have HSP : Hid (Calls Tryz.prog 33 #[ptrV c, .slice (some ⟨gb, go, none⟩) (r.length + 1) yc, .int .i64 a, .agg #[.int .i64 2, .slice none 0 0]] w4 fun e w' => e = .returned (errV (M.spread ((k : Int) :: r) a ⟨2, []⟩).1) ∧ ClAt c (M.spread ((k : Int) :: r) a ⟨2, []⟩).2 J _ W w') := HSP
  clear hk1
  go_wp2_with fail
  refine HSP.out.mono ?_
  clear HSP
  rintro en w5 ⟨rfl, h5⟩
  go_wp2_with fail
  go_ret
  rw [HR.out]
  exact ⟨rfl, ClAt.less (K := [_, _]) h5⟩
 have HR := Zh (HF4.out.trans (if_neg (fun h => h hk1)))
 have hkb : (x.k != 1) = false := by simp [hk1]
 clear hk1 HF4
 have HZS := Zh (fun (s : Cl) (w : World) (hI : ClAt c s J (cellB1 N x xa xc :: .row 5 1 (.slice xa x.d.length xc) x.d.length (byteVs x.d) :: L) W w) => zs_tail (hI.chain HY.out))
 have hcap : r.length + 1 ≤ yc := (HZS.out _ _ H4.out).1
 have HBX := Zh (fun (s : Cl) (w : World) (hI : ClAt c s J (cellB1 N x xa xc :: .row 5 1 (.slice xa x.d.length xc) x.d.length (byteVs x.d) :: L) W w) => show Bytes w (.slice xa x.d.length xc) x.d from SlV.of_own (hI.side.row 1 rfl))
 go_upto_region 12 with fail
 by_cases hy1 : yc = 1
 ·subst hy1
  obtain rfl : r = [] := List.eq_nil_of_length_eq_zero (by omega)
  refine startD (S := (fun w' => w'.cell? ⟨N, 0, none⟩ = some (.int .i64 x.k) ∧ w'.cell? ⟨N, 1, none⟩ = some (.slice xa x.d.length xc) ∧ N < w'.heap.size)) (by kernel_rfl) ⟨b0, b1, bl⟩ (fun hH0 => ?_)
  simp only [List.length_cons, List.length_nil, Nat.reduceAdd, List.replicate_succ, List.replicate_zero]
  refine tD 0 47 (.pointer (some ⟨c, 0, none⟩)) rfl rfl [(0, .pointer (some ⟨c, 0, none⟩))] hH0 ?_
  dsimp only [sZ, sS]
  refine tD 1 48 (.slice (some ⟨gb, go, none⟩) (0 + 1) 1) rfl rfl [(6, .slice (some ⟨gb, go, none⟩) (0 + 1) 1)] hH0 ?_
  dsimp only [sZ, sS]
  refine tE 2 49 (.slice (some ⟨gb, go, none⟩) 0 0) rfl rfl [(48, .slice (some ⟨gb, go, none⟩) (0 + 1) 1)] hH0 ?_ ?_
  ·intro w hSw; go_simp; (try (intro h; exfalso; omega))
  dsimp only [sZ, sS]
  refine tD 3 50 (.int .i64 a) rfl rfl [(1, .int .i64 a)] hH0 ?_
  dsimp only [sZ, sS]
  refine tD 4 51 (.agg #[.int .i64 x.k, .slice xa x.d.length xc]) rfl rfl [(7, .pointer (some ⟨N, 0, none⟩))] hH0 ?_
  dsimp only [sZ, sS]
  refine rD 5 rfl (fun K hK => ?_)
  go_simp
  refine (spread_any ([] : List Int) (some ⟨gb, go, none⟩) 0 a x xa xc _ HP.out (H4.out.below (Below.refl _ _).drew) HOK.out (by simp) (fun v hv => by cases hv) HA.out.1 (by have := HA.out.2; omega) (fun M' w' h' => (HZS.out _ _ h').2.1 rfl) (fun M' w' h' => HBX.out M' w' h')).mono ?_
  rintro e w5 ⟨rfl, h5⟩
  have H5 := Lib.hid' h5
  clear h5
  refine hK.out _ _ ?_ (fun hH1 => ?_)
  ·exact ⟨H5.out.side.cell 0 rfl 0 rfl, H5.out.side.cell 0 rfl 1 rfl, H5.out.side.lt 0 rfl⟩
  clear hK K
  try simp only [Act.put, gA, gZ, gS, sA, sZ, sS]
  refine tD 6 9 (errV (M.spread [] a x).1) rfl rfl [(52, errV (M.spread [] a x).1)] hH1 ?_
  dsimp only [sZ, sS]
  refine wpAnyH_done (by kernel_rfl) ?_ _
  clear b0 b1 bl
  generalize M.spread [] a x = sp at *
  obtain ⟨zs, Ms⟩ := sp
  simp only at H5 ⊢
  by_cases hzs : zs = 0
  ·have HR2 := Zh (HR.out.trans (if_neg (by simp [hzs])))
   subst hzs
   rw [errV_0]
   go_wp2_with fail
   go_ret
   rw [HR2.out]
   exact ⟨rfl, ClAt.less (K := [_, _]) H5.out⟩
  ·have HR2 := Zh (HR.out.trans (if_pos hzs))
   have HZ := Lib.hid' hzs
   rw [errV_pos hzs]
   clear hzs
   go_wp2_with fail
   go_ret
   rw [HR2.out]
   exact ⟨by rw [errV_pos HZ.out]; rfl, ClAt.less (K := [_, _]) H5.out⟩
 ·have hyc : ¬ yc = 1 := hy1
  refine startD (S := (fun w' => w'.cell? ⟨N, 0, none⟩ = some (.int .i64 x.k) ∧ w'.cell? ⟨N, 1, none⟩ = some (.slice xa x.d.length xc) ∧ N < w'.heap.size)) (by kernel_rfl) ⟨b0, b1, bl⟩ (fun hH0 => ?_)
  simp only [List.length_cons, List.length_nil, Nat.reduceAdd, List.replicate_succ, List.replicate_zero]
  refine tD 0 47 (.pointer (some ⟨c, 0, none⟩)) rfl rfl [(0, .pointer (some ⟨c, 0, none⟩))] hH0 ?_
  dsimp only [sZ, sS]
  refine tD 1 48 (.slice (some ⟨gb, go, none⟩) (r.length + 1) yc) rfl rfl [(6, .slice (some ⟨gb, go, none⟩) (r.length + 1) yc)] hH0 ?_
  dsimp only [sZ, sS]
  refine tE 2 49 (.slice (some ⟨gb, go + 1, none⟩) r.length (yc - 1)) rfl rfl [(48, .slice (some ⟨gb, go, none⟩) (r.length + 1) yc)] hH0 ?_ ?_
  ·intro w hSw; go_simp; (try (intro h; exfalso; omega))
  dsimp only [sZ, sS]
  refine tD 3 50 (.int .i64 a) rfl rfl [(1, .int .i64 a)] hH0 ?_
  dsimp only [sZ, sS]
  refine tD 4 51 (.agg #[.int .i64 x.k, .slice xa x.d.length xc]) rfl rfl [(7, .pointer (some ⟨N, 0, none⟩))] hH0 ?_
  dsimp only [sZ, sS]
  refine rD 5 rfl (fun K hK => ?_)
  go_simp
  refine (spread_any r (some ⟨gb, go + 1, none⟩) (yc - 1) a x xa xc _ HP.out (H4.out.below (Below.refl _ _).drew) HOK.out (by omega) (fun v hv => HHF.out.2.2 v (List.mem_cons_of_mem _ hv)) HA.out.1 (by have := HA.out.2; omega) (fun M' w' h' => (HZS.out _ _ h').2.2) (fun M' w' h' => HBX.out M' w' h')).mono ?_
  rintro e w5 ⟨rfl, h5⟩
  have H5 := Lib.hid' h5
  clear h5
  refine hK.out _ _ ?_ (fun hH1 => ?_)
  ·exact ⟨H5.out.side.cell 0 rfl 0 rfl, H5.out.side.cell 0 rfl 1 rfl, H5.out.side.lt 0 rfl⟩
  clear hK K
  try simp only [Act.put, gA, gZ, gS, sA, sZ, sS]
  refine tD 6 9 (errV (M.spread r a x).1) rfl rfl [(52, errV (M.spread r a x).1)] hH1 ?_
  dsimp only [sZ, sS]
  refine wpAnyH_done (by kernel_rfl) ?_ _
  clear b0 b1 bl
  generalize M.spread r a x = sp at *
  obtain ⟨zs, Ms⟩ := sp
  simp only at H5 ⊢
  by_cases hzs : zs = 0
  ·have HR2 := Zh (HR.out.trans (if_neg (by simp [hzs])))
   subst hzs
   rw [errV_0]
   go_wp2_with fail
   go_ret
   rw [HR2.out]
   exact ⟨rfl, ClAt.less (K := [_, _]) H5.out⟩
  ·have HR2 := Zh (HR.out.trans (if_pos hzs))
   have HZ := Lib.hid' hzs
   rw [errV_pos hzs]
   clear hzs
   go_wp2_with fail
   go_ret
   rw [HR2.out]
   exact ⟨by rw [errV_pos HZ.out]; rfl, ClAt.less (K := [_, _]) H5.out⟩
end SL
end Go.Proofs.YtdknbacbcnfonaaGreatDoor

namespace Go.Proofs.YtdknbacbcnfonaaGreatDoor
open Go.RowKit
namespace SL
open DK SH SQ
def Cl.units (M : Cl) : List Int := unitsOf M.p.all
def Cl.trim (M : Cl) (b : Int) : Nat × Cl := if inB b 1048576 = false then (1, M) else if (allC (Cl.trimS M.p.e b) M.units M).1 ≠ 0 then allC (Cl.trimS M.p.e b) M.units M else (allC (Cl.trimS M.p.e b) M.units M).2.raise b
theorem ClAt.chs {c : Nat} {M : Cl} {J : CJ} {L : List Asn} {W w : World} (h : ClAt c M J L W w) : Chs w J.a J.c J.Ks ∧ flatC J.Ks = M.p.all ∧ w.cell? ⟨c, 3, none⟩ = some (.slice J.a J.Ks.length J.c) := by
 have hch := fun y hy => h.chain (y := y) hy
 have hcs := h.csOf
 obtain ⟨P, rfl, hP, H⟩ := h
 exact ⟨⟨SlV.of_own (H.row 4 rfl), hch⟩, by unfold flatC Pj.all; rw [hcs], H.cell 0 rfl 3 rfl⟩
theorem flat_le {X : List (List Int)} (h : ∀ x ∈ X, x.length ≤ 4) : X.flatten.length ≤ 4 * X.length := by
 induction X with
 | nil => simp
 | cons x X ih =>
  rw [List.flatten_cons, List.length_append, List.length_cons]
  have h1 := h x List.mem_cons_self
  have h2 := ih (fun y hy => h y (List.mem_cons_of_mem _ hy))
  omega
theorem all_len {p : Pj} (h : PjOk p) : p.all.length ≤ 16 := by
 have h1 := flat_le (X := p.cs) (fun x hx => (h.each x hx).2)
 have h2 := h.n.2
 unfold Pj.all
 omega
theorem units_facts {M : Cl} (hok : M.ok) : M.units.length ≤ 16 ∧ ∀ u ∈ M.units, 0 ≤ u ∧ u < (M.us.length : Int) :=
 ⟨Nat.le_trans (unitsOf_len _) (all_len (pj_ok hok.proj)), fun u hu => hok.there u ((unitsOf_mem u _).1 hu)⟩
theorem unitsR_any {c : Nat} {M : Cl} {J : CJ} {L : List Asn} {W : World} (w : World) (h : ClAt c M J L W w) (hok : M.ok) :
  Calls Tryz.prog 19 #[.agg #[.int .i64 M.p.e, .slice J.a J.Ks.length J.c]] w fun e w' => ∃ ua uc, e = .returned (.slice ua M.units.length uc) ∧ ClAt c M J (.row 3 1 (.slice ua M.units.length uc) M.units.length (zVs M.units) :: L) W w' := by
 obtain ⟨h1, h2, _⟩ := h.chs
 have h3 := punits_any M.p.e J.a J.c J.Ks w h1 (by rw [h2]; have := all_len (pj_ok hok.proj); omega)
 rw [show pjV M.p.e J.a J.c J.Ks = .agg #[.int .i64 M.p.e, .slice J.a J.Ks.length J.c] from rfl] at h3
 refine h3.mono ?_
 intro e w' hE
 obtain ⟨ua, uc, rfl, ho, hb⟩ := hE
 rw [h2] at ho ⊢
 exact ⟨ua, uc, rfl, h.belowRow hb ho⟩
set_option maxHeartbeats 8000000 in
theorem Trim_any {c : Nat} {M : Cl} {J : CJ} {L : List Asn} {W : World} (a : Int) (w : World) (hp : Pow W) (h : ClAt c M J L W w) (hok : M.ok) :
  Calls Tryz.prog 13 #[ptrV c, .int .i64 a] w fun e w' => e = .returned (errV (M.trim a).1) ∧ ClAt c (M.trim a).2 J L W w' := by
 have HP := Lib.hid' hp
 have HOK := Lib.hid' hok
 have H1 := Lib.hid' h
 have HF := Zh (show M.trim a = if inB a 1048576 = false then (1, M) else if (allC (Cl.trimS M.p.e a) M.units M).1 ≠ 0 then allC (Cl.trimS M.p.e a) M.units M else (allC (Cl.trimS M.p.e a) M.units M).2.raise a from rfl)
 have HUF := Zh (units_facts hok)
 clear hp hok h
 go_enter Tryz.func13, Tryz.ntmps13
 go_wp2_with fail
 refine (in2_any a 1048576 _).mono ?_
 rintro en wz ⟨rfl, rfl⟩
 go_wp2_with fail
 refine (ask_any c _ _).mono ?_
 rintro en wz ⟨rfl, rfl⟩
 by_cases hin : inB a 1048576 = true
 rotate_left
 ·have hin0 : inB a 1048576 = false := by simpa using hin
  have HR := Zh (HF.out.trans (if_pos hin0))
  rw [if_neg hin, errV_pos (by decide)]
  clear hin hin0
  go_wp2_with fail
  go_ret
  rw [HR.out]
  exact ⟨rfl, H1.out⟩
 have HF1 := Zh (HF.out.trans (if_neg (by rw [hin]; decide)))
 rw [if_pos hin, errV_0]
 clear hin HF
 go_upto_region 4 with fail
 have c2 := H1.out.c2.1; have cl := H1.out.c2.2; have c3 := H1.out.chs.2.2
 refine startD (S := (fun w' => w'.cell? ⟨c, 2, none⟩ = some (.int .i64 M.p.e) ∧ w'.cell? ⟨c, 3, none⟩ = some (.slice J.a J.Ks.length J.c) ∧ c < w'.heap.size)) (by kernel_rfl) ⟨c2, c3, cl⟩ (fun hH0 => ?_)
 simp only [List.length_cons, List.length_nil, Nat.reduceAdd, List.replicate_succ, List.replicate_zero]
 refine tD 0 14 (.pointer (some ⟨c, 0, none⟩)) rfl rfl [(0, .pointer (some ⟨c, 0, none⟩))] hH0 ?_
 dsimp only [sZ, sS]
 refine tD 1 15 (.pointer (some ⟨c, 0, none⟩)) rfl rfl [(0, .pointer (some ⟨c, 0, none⟩))] hH0 ?_
 dsimp only [sZ, sS]
 refine tD 2 16 (.pointer (some ⟨c, 0, none⟩)) rfl rfl [(15, .pointer (some ⟨c, 0, none⟩))] hH0 ?_
 dsimp only [sZ, sS]
 refine tD 3 17 (.pointer (some ⟨c, 2, none⟩)) rfl rfl [(16, .pointer (some ⟨c, 0, none⟩))] hH0 ?_
 dsimp only [sZ, sS]
 refine tD 4 18 (.agg #[.int .i64 M.p.e, .slice J.a J.Ks.length J.c]) rfl rfl [(17, .pointer (some ⟨c, 2, none⟩))] hH0 ?_
 dsimp only [sZ, sS]
 refine tD 6 20 (.pointer (some ⟨c, 0, none⟩)) rfl rfl [(0, .pointer (some ⟨c, 0, none⟩))] hH0 ?_
 dsimp only [sZ, sS]
 refine tD 7 21 (.pointer (some ⟨c, 0, none⟩)) rfl rfl [(20, .pointer (some ⟨c, 0, none⟩))] hH0 ?_
 dsimp only [sZ, sS]
 refine tD 8 22 (.pointer (some ⟨c, 2, none⟩)) rfl rfl [(21, .pointer (some ⟨c, 0, none⟩))] hH0 ?_
 dsimp only [sZ, sS]
 refine tD 9 23 (.pointer (some ⟨c, 2, none⟩)) rfl rfl [(22, .pointer (some ⟨c, 2, none⟩))] hH0 ?_
 dsimp only [sZ, sS]
 refine tD 10 24 (.int .i64 M.p.e) rfl rfl [(23, .pointer (some ⟨c, 2, none⟩))] hH0 ?_
 dsimp only [sZ, sS]
 refine tD 11 25 (.int .i64 a) rfl rfl [(1, .int .i64 a)] hH0 ?_
 dsimp only [sZ, sS]
 refine rD 5 rfl (fun K hK => ?_)
 go_simp
 refine (unitsR_any _ (H1.out.below (Below.refl _ _).drew) HOK.out).mono ?_
 rintro e w2 ⟨ua, uc, rfl, h2⟩
 have H2 := Lib.hid' h2
 clear h2
 refine hK.out _ _ ?_ (fun hH1 => ?_)
 ·exact ⟨H2.out.c2.1, H2.out.chs.2.2, H2.out.c2.2⟩
 clear hK K
 try simp only [Act.put, gA, gZ, gS, sA, sZ, sS]
 refine rD 12 rfl (fun K hK => ?_)
 go_simp
 refine (trimAll_any M.units ua uc M.p.e a _ HP.out H2.out HOK.out (by have := HUF.out.1; omega) HUF.out.2 (fun M' w' h' => SlV.of_own (h'.side.row 0 rfl))).mono ?_
 rintro e w4 ⟨rfl, h4, hok4, hst⟩
 have H4 := Lib.hid' h4
 have HS := Lib.hid' hst
 clear h4 hok4 hst
 refine hK.out _ _ ?_ (fun hH2 => ?_)
 ·exact ⟨by have := H4.out.c2.1; rw [HS.out.p] at this; exact this, H4.out.chs.2.2, H4.out.c2.2⟩
 clear hK K
 try simp only [Act.put, gA, gZ, gS, sA, sZ, sS]
 refine tD 13 6 (errV (allC (Cl.trimS M.p.e a) M.units M).1) rfl rfl [(26, errV (allC (Cl.trimS M.p.e a) M.units M).1)] hH2 ?_
 dsimp only [sZ, sS]
 refine wpAnyH_done (by kernel_rfl) ?_ _
 clear c2 cl c3
 generalize allC (Cl.trimS M.p.e a) M.units M = r at *
 obtain ⟨z, M2⟩ := r
 simp only at H4 ⊢
 by_cases hz : z = 0
 ·have HR := Zh (HF1.out.trans (if_neg (by simp [hz])))
  subst hz
  rw [errV_0]
  have HRA := Zh (craise_any a w4 H4.out)
  clear HF1
  go_wp2_with fail
  refine HRA.out.mono ?_
  clear HRA
  rintro en w5 ⟨rfl, h5⟩
  go_wp2_with fail
  go_ret
  rw [HR.out]
  exact ⟨rfl, ClAt.less (K := [_]) h5⟩
 ·have HR := Zh (HF1.out.trans (if_pos hz))
  have HZ := Lib.hid' hz
  rw [errV_pos hz]
  clear hz HF1
  go_wp2_with fail
  go_ret
  rw [HR.out]
  exact ⟨by rw [errV_pos HZ.out]; rfl, ClAt.less (K := [_]) H4.out⟩
end SL
end Go.Proofs.YtdknbacbcnfonaaGreatDoor

namespace Go.Proofs.YtdknbacbcnfonaaGreatDoor
open Go.RowKit
namespace SL
open DK SH SQ
theorem namesOf_mem {L : Fl} : ∀ n ∈ namesOf L, n ∈ L.map (·.1) := fun n hn => (List.mem_mergeSort.1 hn)
theorem Sd.openS {D : Dk} (h : Sd D) : Sd (openS D).2.2 := by
 have h1 : Sd (openD (namesOf D.shown) D).2 := h.open namesOf_mem ((namesOf_perm D.shown).nodup_iff.2 h.goodH.nodup)
 unfold SH.openS
 split
 ·exact h1
 ·split
  ·exact h1
  ·split
   ·exact h1
   ·exact h1
/-- a unit's disk by itself, the rest beside it; and back -/
theorem cl_disk {c : Nat} {M : Cl} {P : ClP} {L : List Asn} {W w : World} {u : Nat} {y : UnP} (hP : ClOK M P) (hu : P.Us[u]? = some y) (H : Sep W NoF (clL c M P L) w) :
  ∃ G1 K, Sep W NoF (Asn.disk y.N y.x.d G1 :: (K ++ Asn.pool P.Z P.vs :: clR c M P u L)) w ∧
   (∀ D' G' w', Sep W NoF (Asn.disk y.N D' G' :: (K ++ Asn.pool P.Z P.vs :: clR c M P u L)) w' → ClAt c (M.put u ⟨D', y.x.s⟩) P.J L W w') := by
 have H1 := cl_pull hu H
 obtain ⟨K, hI, H2⟩ := H1.unpack
 obtain ⟨N, Q, ⟨D, s⟩, G⟩ := y
 cases Q with
 | none =>
  cases s with
  | some S => exact (show False from hI).elim
  | none =>
   obtain ⟨G1, rfl⟩ : ∃ G1, K = [Asn.disk N D G1] := hI
   refine ⟨G1, [], H2, fun D' G' w' h => ?_⟩
   have h4 : Sep W NoF ([Asn.disk N D' G'] ++ (Asn.pool P.Z P.vs :: clR c M P u L)) w' := h
   obtain ⟨G6, h5⟩ := Sep.pack (I := unI N none ⟨D', none⟩ P.vs) _ h4 ⟨G', rfl⟩
   obtain ⟨h7, h8⟩ := cl_push (us := P.vs) (x := ⟨D', none⟩) hu hP (fun _ h => h) h5
   exact ⟨P.put u _ _ _, rfl, h7, h8⟩
 | some q =>
  cases s with
  | none => exact (show False from hI).elim
  | some S =>
   obtain ⟨us, G1, G2, hs, rfl⟩ : ∃ us G1 G2, (∀ y ∈ us, y ∈ P.vs) ∧ K = [Asn.disk N D G1, Asn.shelf q N S us G2] := hI
   refine ⟨G1, [Asn.shelf q N S us G2], H2, fun D' G' w' h => ?_⟩
   have h4 : Sep W NoF ([Asn.disk N D' G', Asn.shelf q N S us G2] ++ (Asn.pool P.Z P.vs :: clR c M P u L)) w' := h
   obtain ⟨G6, h5⟩ := Sep.pack (I := unI N (some q) ⟨D', some S⟩ P.vs) _ h4 ⟨us, G', G2, hs, rfl⟩
   obtain ⟨h7, h8⟩ := cl_push (us := P.vs) (x := ⟨D', some S⟩) hu hP (fun _ h => h) h5
   exact ⟨P.put u _ _ _, rfl, h7, h8⟩
/-- a unit put back with another shelf, or none: its cell in the row of shelves is set -/
theorem cl_pushQ {b : Nat} {dv : Value} {g n cap : Nat} {c : Nat} {M : Cl} {Us : List UnP} {J : CJ} {Z0 : Nat → Prop} {vs : PoolL} {L : List Asn} {W w : World} {u : Nat} {y : UnP} {x : Un} {G Z : Nat → Prop} {us : PoolL} (Q' : Option Nat) (hu : Us[u]? = some y) (hn : n = Us.length) (hP : ClOK M ⟨b, dv, .slice (some ⟨g, 0, none⟩) n cap, Us, J, Z0, vs⟩) (hs : ∀ z ∈ vs, z ∈ us)
  (H : Sep W NoF (unA us ⟨y.N, Q', x, G⟩ :: Asn.pool Z us :: clR c M ⟨b, dv, .slice (some ⟨g, 0, none⟩) n cap, Us, J, Z0, vs⟩ u L) w) : ClAt c (M.put u x) J L W (w.setCell ⟨g, u, none⟩ (optV Q')) := by
 subst hn
 have hl : u < Us.length := (List.getElem?_eq_some_iff.1 hu).1
 have h0 := H.storeRow 5 (e := 80) (size := 1) (g := g) (c := cap) (n := Us.length) (xs := Us.map (fun y => optV y.Q)) rfl u [optV Q'] (by simp; omega)
 have hset : (Us.map (fun y => optV y.Q)).take u ++ [optV Q'] ++ (Us.map (fun y => optV y.Q)).drop (u + [optV Q'].length) = (Us.set u ⟨y.N, Q', x, G⟩).map (fun y => optV y.Q) := by
  rw [List.map_set, List.set_eq_take_append_cons_drop, if_pos (by rw [List.length_map]; exact hl)]
  simp
 rw [hset] at h0
 have hN : (Us.set u ⟨y.N, Q', x, G⟩).map (fun y => ptrV y.N) = Us.map (fun y => ptrV y.N) := by
  rw [List.map_set]
  refine set_same ?_
  rw [List.getElem?_map, hu]; rfl
 have hw : w.setCells g u [optV Q'] = w.setCell ⟨g, u, none⟩ (optV Q') := rfl
 rw [hw] at h0
 refine ⟨⟨b, dv, .slice (some ⟨g, 0, none⟩) Us.length cap, Us.set u ⟨y.N, Q', x, G⟩, J, Z, us⟩, rfl, ⟨?_, hP.cs⟩, ?_⟩
 ·show (Us.set u _).map (·.x) = M.us.set u x
  rw [List.map_set, hP.us]
 ·unfold clL
  show Sep W NoF (clK c (M.put u x) ⟨b, dv, .slice (some ⟨g, 0, none⟩) Us.length cap, Us.set u ⟨y.N, Q', x, G⟩, J, Z, us⟩ ++ (Asn.pool Z us :: ((Us.set u ⟨y.N, Q', x, G⟩).map (unA us) ++ L))) _
  rw [map_push (unA us) hl]
  have hK : clK c (M.put u x) ⟨b, dv, .slice (some ⟨g, 0, none⟩) Us.length cap, Us.set u ⟨y.N, Q', x, G⟩, J, Z, us⟩ = [.box c [dv, .slice (some ⟨g, 0, none⟩) Us.length cap, .int .i64 M.p.e, .slice J.a J.Ks.length J.c, ptrV b] 64, Asn.seq b M.q, .row 78 1 dv Us.length (Us.map (fun y => ptrV y.N)),
    .row 80 1 (.slice (some ⟨g, 0, none⟩) Us.length cap) Us.length ((Us.set u ⟨y.N, Q', x, G⟩).map (fun y => optV y.Q)), .row 41 1 (.slice J.a J.Ks.length J.c) J.Ks.length (J.Ks.map chV), Asn.all (J.Ks.map chA)] := by
   unfold clK Cl.put
   simp only [hN, List.length_set]
  rw [hK]
  generalize hB : Asn.box c [dv, .slice (some ⟨g, 0, none⟩) Us.length cap, .int .i64 M.p.e, .slice J.a J.Ks.length J.c, ptrV b] 64 = B at *
  have h1 : Sep W NoF ((Asn.row 80 1 (.slice (some ⟨g, 0, none⟩) Us.length cap) Us.length ((Us.set u ⟨y.N, Q', x, G⟩).map (fun y => optV y.Q)) :: unA us ⟨y.N, Q', x, G⟩ :: Asn.pool Z us :: B :: Asn.seq b M.q :: .row 78 1 dv Us.length (Us.map (fun y => ptrV y.N)) ::
    .row 41 1 (.slice J.a J.Ks.length J.c) J.Ks.length (J.Ks.map chV) :: [Asn.all (J.Ks.map chA)]) ++ ((Us.take u).map (unA vs) ++ ((Us.drop (u + 1)).map (unA vs) ++ L))) (w.setCell ⟨g, u, none⟩ (optV Q')) := by
   rw [← hB]; exact h0
  have h2 := Sep.convAll _ _ (fun y _ => unA_more hs y) h1
  rw [← List.append_assoc] at h2
  have h4 := Sep.convAll _ _ (fun y _ => unA_more hs y) h2
  refine h4.perm ?_
  generalize (Us.take u).map (unA us) = X1
  generalize (Us.drop (u + 1)).map (unA us) = X2
  generalize unA us ⟨y.N, Q', x, G⟩ = A
  generalize Asn.pool Z us = Pl
  generalize Asn.seq b M.q = Sq
  generalize Asn.row 80 1 (.slice (some ⟨g, 0, none⟩) Us.length cap) Us.length _ = R3
  generalize Asn.row 78 1 dv Us.length _ = R2
  generalize Asn.row 41 1 (.slice J.a J.Ks.length J.c) J.Ks.length _ = R4
  generalize Asn.all (J.Ks.map chA) = R5
  have p1 : ([R3, A, Pl, B, Sq, R2, R4, R5] ++ X1 ++ (X2 ++ L)).Perm (A :: ([R3, Pl, B, Sq, R2, R4, R5] ++ X1 ++ (X2 ++ L))) := List.Perm.swap _ _ _
  have p2 : ([B, Sq, R2, R3, R4, R5] ++ (Pl :: (X1 ++ A :: X2 ++ L))).Perm (A :: ([B, Sq, R2, R3, R4, R5] ++ (Pl :: (X1 ++ (X2 ++ L))))) := by
   have e1 : [B, Sq, R2, R3, R4, R5] ++ (Pl :: (X1 ++ A :: X2 ++ L)) = ([B, Sq, R2, R3, R4, R5] ++ (Pl :: X1)) ++ (A :: (X2 ++ L)) := by simp
   have e2 : A :: ([B, Sq, R2, R3, R4, R5] ++ (Pl :: (X1 ++ (X2 ++ L)))) = A :: (([B, Sq, R2, R3, R4, R5] ++ (Pl :: X1)) ++ (X2 ++ L)) := by simp
   rw [e1, e2]
   exact List.perm_middle
  refine p1.trans (List.Perm.trans ?_ p2.symm)
  refine List.Perm.cons _ ?_
  have e3 : [R3, Pl, B, Sq, R2, R4, R5] ++ X1 ++ (X2 ++ L) = [R3, Pl, B, Sq, R2, R4, R5] ++ (X1 ++ (X2 ++ L)) := by simp
  have e4 : [B, Sq, R2, R3, R4, R5] ++ (Pl :: (X1 ++ (X2 ++ L))) = [B, Sq, R2, R3, R4, R5, Pl] ++ (X1 ++ (X2 ++ L)) := by simp
  rw [e3, e4]
  refine List.Perm.append_right _ ?_
  have q1 : [R3, Pl, B, Sq, R2, R4, R5].Perm (Pl :: [R3, B, Sq, R2, R4, R5]) := List.Perm.swap _ _ _
  have q2 : [B, Sq, R2, R3, R4, R5, Pl].Perm (Pl :: [B, Sq, R2, R3, R4, R5]) := List.perm_append_comm (l₁ := [B, Sq, R2, R3, R4, R5]) (l₂ := [Pl])
  have q3 : [B, Sq, R2, R3, R4, R5].Perm (R3 :: [B, Sq, R2, R4, R5]) := List.perm_middle (l₁ := [B, Sq, R2])
  exact q1.trans ((q3.symm.cons _).trans q2.symm)
end SL
end Go.Proofs.YtdknbacbcnfonaaGreatDoor

namespace Go.Proofs.YtdknbacbcnfonaaGreatDoor
open Go.RowKit
namespace SL
open DK SH SQ
def Cl.has (M : Cl) (u : Int) : Nat := if inB u ((M.us.length : Int) - 1) = true then 0 else 1
theorem has_zero {M : Cl} {u : Int} (h : M.has u = 0) : 0 ≤ u ∧ u < (M.us.length : Int) := by
 unfold Cl.has at h
 split at h
 ·rename_i h1; have := inB_iff.1 h1; omega
 ·cases h
theorem has_cases (M : Cl) (u : Int) : M.has u = 0 ∨ M.has u = 1 := by unfold Cl.has; split; exact .inl rfl; exact .inr rfl
/-- where the cluster has a unit's disk, and its shelf -/
theorem ClAt.rows {c : Nat} {M : Cl} {J : CJ} {L : List Asn} {W w : World} (h : ClAt c M J L W w) : ∃ a k, w.cell? ⟨c, 0, none⟩ = some (.slice a M.us.length k) ∧ c < w.heap.size := by
 obtain ⟨P, rfl, hP, H⟩ := h
 have h0 := H.row 2 rfl
 have hl : P.Us.length = M.us.length := by rw [← hP.us, List.length_map]
 obtain ⟨a, k, hv, _⟩ := SlV.of_own h0
 have c0 := H.cell 0 rfl 0 rfl
 rw [hv, hl] at c0
 exact ⟨a, k, c0, H.lt 0 rfl⟩
set_option maxHeartbeats 2000000 in
theorem has_any {c : Nat} {M : Cl} {J : CJ} {L : List Asn} {W : World} (u : Int) (w : World) (h : ClAt c M J L W w) (hm : M.us.length ≤ 8) :
  Calls Tryz.prog 37 #[ptrV c, .int .i64 u] w fun e w' => e = .returned (errV (M.has u)) ∧ w = w' := by
 obtain ⟨a, k, c0, hl⟩ := h.rows
 have HF := Zh (show M.has u = if inB u ((M.us.length : Int) - 1) = true then 0 else 1 from rfl)
 clear h
 generalize M.us.length = n at *
 go_enter Tryz.func37, Tryz.ntmps37
 go_wp2_with fail
 refine (in2_any u ((n : Int) - 1) _).mono ?_
 rintro en wz ⟨rfl, rfl⟩
 by_cases hin : inB u ((n : Int) - 1) = true
 ·rw [if_pos hin] at HF
  rw [hin]
  clear hin
  go_wp2_with fail
  go_ret
  rw [HF.out]
  exact ⟨rfl, rfl⟩
 ·rw [if_neg hin] at HF
  rw [show inB u ((n : Int) - 1) = false by simpa using hin]
  clear hin
  go_wp2_with fail
  go_ret
  rw [HF.out]
  exact ⟨rfl, rfl⟩
theorem own_free {w : World} {e n : Nat} {v : Value} {xs : List Value} {g cap n' : Nat} (h : w.ownsRow 0 e 1 v n xs) (hv : v = .slice (some ⟨g, 0, none⟩) n' cap) (j : Nat) : w.frozen? ⟨g, j, none⟩ = false := by
 obtain ⟨hl, h2⟩ := h
 rcases h2 with ⟨rfl, rfl⟩ | ⟨g, cap, cur, rfl, hg, hh, _⟩
 ·cases hv
 ·cases hv
  exact frozen_of_row _ _ _ _ _ hh
theorem slv_old {W w wq : World} {G : Nat → Prop} {a : Option Addr} {n c : Nat} {xs : List Value} (hk : SlV W (.slice a n c) n xs) (hw : SlV w (.slice a n c) n xs) (hf : Fr G w wq) (hG : ∀ b, G b → W.heap.size ≤ b) : SlV wq (.slice a n c) n xs := by
 by_cases hx : xs = []
 ·subst hx
  obtain ⟨a', cap, he, h1, h2, h3, _⟩ := hk
  exact ⟨a', cap, he, h1, h2, h3, by simp⟩
 ·obtain ⟨b, off, ha, hb, _⟩ := SlV.addr hk hx
  refine SlV.fr hw hf ?_
  intro p n' c' hv hg
  have h1 := hG _ hg
  simp only [Value.slice.injEq] at hv
  rw [ha] at hv
  simp only [Option.some.injEq] at hv
  rw [← hv.1] at h1
  simp only at h1
  omega
def Cl.kill (M : Cl) (u : Int) (ks : List Bool) : Nat × Cl := if M.has u ≠ 0 then (M.has u, M) else match M.us[u.toNat]? with
 | some x => (0, M.put u.toNat ⟨cutD x.d ks, none⟩)
 | none => (0, M)
theorem keep_skip {A B : Asn} {K R : List Asn} : List.Sublist (A :: B :: R) (A :: (K ++ B :: R)) := (List.sublist_append_right K (B :: R)).cons_cons A
set_option maxHeartbeats 8000000 in
theorem Kill_any {c : Nat} {M : Cl} {J : CJ} {L : List Asn} {W : World} (u : Int) (ks : List Bool) (ka : Option Addr) (kc : Nat) (w : World) (h : ClAt c M J L W w) (hok : M.ok) (hk : SlV W (.slice ka ks.length kc) ks.length (bools ks)) :
  Calls Tryz.prog 14 #[ptrV c, .int .i64 u, .slice ka ks.length kc] w fun e w' => e = .returned (errV (M.kill u ks).1) ∧ ClAt c (M.kill u ks).2 J L W w' := by
 have HH := Zh (has_any u w h hok.many)
 have HF := Zh (show M.kill u ks = if M.has u ≠ 0 then (M.has u, M) else match M.us[u.toNat]? with
  | some x => (0, M.put u.toNat ⟨cutD x.d ks, none⟩)
  | none => (0, M) from rfl)
 have H0 := Lib.hid' h
 rcases has_cases M u with hz | hz
 rotate_left
 ·have HR := Zh (HF.out.trans (if_pos (by rw [hz]; decide)))
  rw [hz] at HH HR
  clear hz h hok hk HF
  go_enter Tryz.func14, Tryz.ntmps14
  go_wp2_with fail
  refine HH.out.mono ?_
  rintro en wz ⟨rfl, rfl⟩
  rw [errV_pos (by decide)]
  go_wp2_with fail
  go_ret
  rw [HR.out]
  exact ⟨rfl, H0.out⟩
 have hu := has_zero hz
 obtain ⟨k, rfl⟩ : ∃ k : Nat, u = k := ⟨u.toNat, by omega⟩
 obtain ⟨⟨b, dv, sv, Us, J', Z0, vs⟩, rfl, hP, H⟩ := h
 obtain ⟨y, hy, hus, ⟨g, n, cap, hsv, hun, hgl, hgc⟩, ⟨gd, nd, cd, hdv, hdn, hdl, hdc⟩⟩ := cl_at hP H (u := k) (by omega)
 simp only at hsv hdv hy
 subst hsv hdv
 have hnn : n = Us.length := by
  obtain ⟨_, _, he, _⟩ := SlV.of_own (H.row 3 rfl)
  simp only [Value.slice.injEq] at he
  exact he.2.1
 obtain ⟨G1, K, H1, hback⟩ := cl_disk hP hy H
 have HR := Zh (HF.out.trans ((if_neg (by rw [hz]; decide)).trans (by rw [Int.toNat_natCast, hus] : _ = (0, M.put k ⟨cutD y.x.d ks, none⟩))))
 have hd := (hok.disk _ (List.mem_of_getElem? hus))
 have HC := Zh (cut_any7 (m := 1024) ks ka kc w (H1.at 0 rfl) hd.ok (by have := hd.pendLen; omega) (SlV.below hk (Nat.le_refl _) H1.toBelow) (fun wq hf => slv_old hk (SlV.below hk (Nat.le_refl _) H1.toBelow) hf (fun b hg => by
  rcases H1.new _ List.mem_cons_self _ hg with h2 | h2
  ·exact h2
  ·exact h2.elim)))
 have c0 := H.cell 0 rfl 0 rfl; have cl := H.lt 0 rfl
 have HP := Lib.hid' hP
 have HY := Lib.hid' hy
 have H1h := Lib.hid' H1
 rw [hz] at HH
 clear hk hd hus hback H0 hok hP hy H H1 HF hgc hgl hz
 go_enter Tryz.func14, Tryz.ntmps14
 go_wp2_with fail
 refine HH.out.mono ?_
 rintro en wz ⟨rfl, rfl⟩
 rw [errV_0]
 go_wp2_with fail
 refine HC.out.mono ?_
 clear HC HH
 rintro en w2 ⟨rfl, G', k2⟩
 have H2 := Zh ((H1h.out.call1 rfl k2).keepOnly keep_skip)
 clear k2 c0 cl hdl hdc H1h
 have c1 := H2.out.cell 2 rfl 1 rfl; have cl := H2.out.lt 2 rfl
 obtain ⟨g', cap', hgg, hgl, hgc⟩ := own_at (H2.out.row 5 rfl) (j := k) (u := optV y.Q) (by rw [List.getElem?_map, HY.out]; rfl)
 have hfz := own_free (H2.out.row 5 rfl) rfl k
 simp only [Value.slice.injEq, Option.some.injEq, Addr.mk.injEq, and_true] at hgg
 obtain ⟨rfl, _, rfl⟩ := hgg
 have hgc2 : w2.cell? ⟨g, k, none⟩ = some (optV y.Q) := hgc
 have c12 : w2.cell? ⟨c, 1, none⟩ = some (.slice (some ⟨g, 0, none⟩) n cap) := c1
 clear c1 hgc
 go_wp2_with fail
 go_ret
 rw [HR.out]
 refine ⟨rfl, ?_⟩
 obtain ⟨G6, h5⟩ := Sep.pack (I := unI y.N none ⟨cutD y.x.d ks, none⟩ vs) [_] (show Sep W NoF ([_] ++ _) _ from H2.out) ⟨G', rfl⟩
 exact cl_pushQ none HY.out hnn HP.out (fun _ h => h) h5
def startU (M : Cl) (k : Nat) (D : Dk) : Nat × Cl := if (openS (upD D)).1 ≠ 0 then ((openS (upD D)).1, M.put k ⟨(openS (upD D)).2.2, none⟩) else (0, M.put k ⟨(openS (upD D)).2.2, some (openS (upD D)).2.1⟩)
def Cl.start (M : Cl) (u : Int) : Nat × Cl := if M.has u ≠ 0 then (M.has u, M) else match M.us[u.toNat]? with
 | some ⟨D, none⟩ => startU M u.toNat D
 | some ⟨_, some _⟩ => (13, M)
 | none => (0, M)
theorem unI_none {N : Nat} {Q : Option Nat} {D : Dk} {vs : PoolL} {K : List Asn} (h : unI N Q ⟨D, none⟩ vs K) : Q = none := by
 cases Q with
 | none => rfl
 | some q => exact (show False from h).elim
@[go_sem] theorem neq_shelf_nil (w : World) : (binOp .neq 80 (.pointer none) (.pointer none)).run Tryz.prog w = .ok (.bool false) w := by kernel_rfl
@[go_sem] theorem neq_shelf_ptr (b : Nat) (w : World) : (binOp .neq 80 (ptrV b) (.pointer none)).run Tryz.prog w = .ok (.bool true) w := by kernel_rfl
set_option maxHeartbeats 8000000 in
theorem Start_any {c : Nat} {M : Cl} {J : CJ} {L : List Asn} {W : World} (u : Int) (w : World) (hp : Pow W) (h : ClAt c M J L W w) (hok : M.ok) :
  Calls Tryz.prog 15 #[ptrV c, .int .i64 u] w fun e w' => e = .returned (errV (M.start u).1) ∧ ClAt c (M.start u).2 J L W w' := by
 have HH := Zh (has_any u w h hok.many)
 have HF := Zh (show M.start u = if M.has u ≠ 0 then (M.has u, M) else match M.us[u.toNat]? with
  | some ⟨D, none⟩ => startU M u.toNat D
  | some ⟨_, some _⟩ => (13, M)
  | none => (0, M) from rfl)
 have H0 := Lib.hid' h
 rcases has_cases M u with hz | hz
 rotate_left
 ·have HR := Zh (HF.out.trans (if_pos (by rw [hz]; decide)))
  rw [hz] at HH HR
  clear hz h hok HF
  go_enter Tryz.func15, Tryz.ntmps15
  go_wp2_with fail
  refine HH.out.mono ?_
  rintro en wz ⟨rfl, rfl⟩
  rw [errV_pos (by decide)]
  go_wp2_with fail
  go_ret
  rw [HR.out]
  exact ⟨rfl, H0.out⟩
 have hu := has_zero hz
 obtain ⟨k, rfl⟩ : ∃ k : Nat, u = k := ⟨u.toNat, by omega⟩
 obtain ⟨⟨b, dv, sv, Us, J', Z0, vs⟩, rfl, hP, H⟩ := h
 obtain ⟨y, hy, hus, ⟨g, n, cap, hsv, hun, hgl, hgc⟩, ⟨gd, nd, cd, hdv, hdn, hdl, hdc⟩⟩ := cl_at hP H (u := k) (by omega)
 simp only at hsv hdv hy
 subst hsv hdv
 have hnn : n = Us.length := by
  obtain ⟨_, _, he, _⟩ := SlV.of_own (H.row 3 rfl)
  simp only [Value.slice.injEq] at he
  exact he.2.1
 have c0 := H.cell 0 rfl 0 rfl; have c1 := H.cell 0 rfl 1 rfl; have cl := H.lt 0 rfl
 have hd := (hok.disk _ (List.mem_of_getElem? hus))
 rw [hz] at HH
 obtain ⟨N, Q, ⟨D, s⟩, G⟩ := y
 simp only at hus hgc hdc hd
 cases s with
 | some S =>
  obtain ⟨q, rfl⟩ : ∃ q, Q = some q := by
   cases Q with
   | some q => exact ⟨q, rfl⟩
   | none =>
    have h2 := cl_off hy rfl H
    cases h2
  have HR := Zh (HF.out.trans ((if_neg (by rw [hz]; decide)).trans (by rw [Int.toNat_natCast, hus] : _ = (13, M))))
  have hgc2 : w.cell? ⟨g, k, none⟩ = some (ptrV q) := hgc
  have c12 : w.cell? ⟨c, 1, none⟩ = some (.slice (some ⟨g, 0, none⟩) n cap) := c1
  clear hz HF hok hP H hy hus hgc hdc hd c1
  go_enter Tryz.func15, Tryz.ntmps15
  go_wp2_with fail
  refine HH.out.mono ?_
  rintro en wz ⟨rfl, rfl⟩
  rw [errV_0]
  go_wp2_with fail
  go_ret
  rw [HR.out]
  exact ⟨rfl, H0.out⟩
 | none =>
  have HR := Zh (HF.out.trans ((if_neg (by rw [hz]; decide)).trans (by rw [Int.toNat_natCast, hus] : _ = startU M k D)))
  obtain ⟨K, hI, H2⟩ := (cl_pull hy H).unpack
  obtain rfl := unI_none hI
  obtain ⟨G1, rfl⟩ : ∃ G1, K = [Asn.disk N D G1] := hI
  have H1h := Zh (show Sep W NoF (Asn.disk N D G1 :: Asn.pool Z0 vs :: clR c M ⟨b, .slice (some ⟨gd, 0, none⟩) nd cd, .slice (some ⟨g, 0, none⟩) n cap, Us, J', Z0, vs⟩ k L) w from H2)
  have HC := Zh (start_any (m := 1024) w (H1h.out.at 0 rfl) hd.ok (by have := hd.pendLen; omega))
  have hup := Sd.up hd
  have hgc2 : w.cell? ⟨g, k, none⟩ = some (.pointer none) := hgc
  have c12 : w.cell? ⟨c, 1, none⟩ = some (.slice (some ⟨g, 0, none⟩) n cap) := c1
  have c02 : w.cell? ⟨c, 0, none⟩ = some (.slice (some ⟨gd, 0, none⟩) nd cd) := c0
  obtain ⟨D1, hD1⟩ : ∃ D1, upD D = D1 := ⟨_, rfl⟩
  rw [hD1] at hup HC
  have HUD := Lib.hid' hD1
  have HUP := Lib.hid' hup
  have HPO := Lib.hid' hP
  have HY := Lib.hid' hy
  have HPW := Lib.hid' hp
  have HNN := Lib.hid' hnn
  clear hz HF hok hP H hy hus hgc hd c1 c0 H2 hup hp hnn H0 hD1
  go_enter Tryz.func15, Tryz.ntmps15
  go_wp2_with fail
  refine HH.out.mono ?_
  rintro en wz ⟨rfl, rfl⟩
  rw [errV_0]
  go_wp2_with fail
  refine HC.out.mono ?_
  clear HC HH
  rintro en w2 ⟨rfl, G', k2⟩
  have H2 := Zh (H1h.out.call1 rfl k2)
  clear k2 c02 c12 cl hdc hgc2 H1h hgl hdl
  have c1 := H2.out.cell 2 rfl 0 rfl; have cl := H2.out.lt 2 rfl
  obtain ⟨g', cap', hgg, hdl, hgc⟩ := own_at (H2.out.row 4 rfl) (j := k) (u := ptrV N) (by rw [List.getElem?_map, HY.out]; rfl)
  simp only [Value.slice.injEq, Option.some.injEq, Addr.mk.injEq, and_true] at hgg
  obtain ⟨rfl, _, rfl⟩ := hgg
  have hgc2 : w2.cell? ⟨gd, k, none⟩ = some (ptrV N) := hgc
  have c02 : w2.cell? ⟨c, 0, none⟩ = some (.slice (some ⟨gd, 0, none⟩) nd cd) := c1
  clear c1 hgc
  have HO := Zh (shopen_any (m := 1024) w2 (H2.out.at 0 rfl) (HPW.out.below H2.out.toBelow) HUP.out.ok (by decide) (by have := HUP.out.pendLen; omega) (pow_kept HPW.out H2.out rfl))
  go_wp2_with fail
  refine HO.out.mono ?_
  clear HO hgc2 c02 hdl cl
  rintro en w3 hE
  rcases hE with ⟨h0, rfl, G2, k3⟩ | ⟨h0, q, us, rfl, k3⟩
  ·have HR2 := Zh (HR.out.trans (show startU M k D = ((openS D1).1, M.put k ⟨(openS D1).2.2, none⟩) from by unfold startU; rw [HUD.out, if_pos h0]))
   have H3 := Zh (H2.out.call1 rfl k3)
   have HZ := Lib.hid' h0
   rw [errV_pos h0]
   clear h0 k3 H2
   go_wp2_with fail
   go_ret
   rw [HR2.out]
   refine ⟨by rw [errV_pos HZ.out]; rfl, ?_⟩
   obtain ⟨G6, h5⟩ := Sep.pack (I := unI N none ⟨(openS D1).2.2, none⟩ vs) [_] (show Sep W NoF ([_] ++ _) _ from H3.out) ⟨G2, rfl⟩
   obtain ⟨h7, h8⟩ := cl_push (us := vs) (x := ⟨(openS D1).2.2, none⟩) HY.out HPO.out (fun _ h => h) h5
   exact ⟨_, rfl, h7, h8⟩
  ·have HR2 := Zh (HR.out.trans (show startU M k D = (0, M.put k ⟨(openS D1).2.2, some (openS D1).2.1⟩) from by unfold startU; rw [HUD.out, if_neg (by rw [h0]; simp)]))
   obtain ⟨G2, G3, Z, k4⟩ := k3
   have H3 := Zh (show Sep W NoF (Asn.disk N (openS D1).2.2 G2 :: Asn.shelf q N (openS D1).2.1 us G3 :: Asn.pool Z us :: Asn.pool Z0 vs :: clR c M ⟨b, .slice (some ⟨gd, 0, none⟩) nd cd, .slice (some ⟨g, 0, none⟩) n cap, Us, J', Z0, vs⟩ k L) w3 from H2.out.call1 rfl k4)
   clear h0 k4 H2
   have c1 := H3.out.cell 4 rfl 1 rfl; have cl := H3.out.lt 4 rfl
   obtain ⟨g', cap', hgg, hgl, hgc⟩ := own_at (H3.out.row 7 rfl) (j := k) (u := .pointer none) (by rw [List.getElem?_map, HY.out]; rfl)
   have hfz := own_free (H3.out.row 7 rfl) rfl k
   simp only [Value.slice.injEq, Option.some.injEq, Addr.mk.injEq, and_true] at hgg
   obtain ⟨rfl, _, rfl⟩ := hgg
   have hgc2 : w3.cell? ⟨g, k, none⟩ = some (.pointer none) := hgc
   have c12 : w3.cell? ⟨c, 1, none⟩ = some (.slice (some ⟨g, 0, none⟩) n cap) := c1
   clear c1 hgc
   go_wp2_with fail
   go_ret
   rw [HR2.out]
   refine ⟨rfl, ?_⟩
   have h4 : Sep W NoF (Asn.pool Z us :: Asn.pool Z0 vs :: ([Asn.disk N (openS D1).2.2 G2, Asn.shelf q N (openS D1).2.1 us G3] ++ clR c M ⟨b, .slice (some ⟨gd, 0, none⟩) nd cd, .slice (some ⟨g, 0, none⟩) n cap, Us, J', Z0, vs⟩ k L)) w3 := by
    refine H3.out.perm ?_
    exact (List.perm_middle (l₁ := [_, _])).trans (List.Perm.cons _ (List.perm_middle (l₁ := [_, _])))
   have h5 := h4.poolJoin
   have h6 : Sep W NoF ([Asn.disk N (openS D1).2.2 G2, Asn.shelf q N (openS D1).2.1 us G3] ++ (Asn.pool (fun b => Z b ∨ Z0 b) (us ++ vs) :: clR c M ⟨b, .slice (some ⟨gd, 0, none⟩) nd cd, .slice (some ⟨g, 0, none⟩) n cap, Us, J', Z0, vs⟩ k L)) w3 := h5.perm (List.perm_middle (l₁ := [_, _])).symm
   obtain ⟨G6, h7⟩ := Sep.pack (I := unI N (some q) ⟨(openS D1).2.2, some (openS D1).2.1⟩ (us ++ vs)) _ h6 ⟨us, G2, G3, fun _ h => List.mem_append_left _ h, rfl⟩
   exact cl_pushQ (some q) HY.out HNN.out HPO.out (fun _ h => List.mem_append_right _ h) h7
def Cl.fuse (M : Cl) (u n : Int) : Nat × Cl := if M.has u ≠ 0 then (M.has u, M) else if n < 0 then (1, M) else match M.us[u.toNat]? with
 | some x => (0, M.put u.toNat ⟨{ x.d with fuse := n }, x.s⟩)
 | none => (0, M)
theorem fuse_neg (N : Nat) (x : Int) (w : World) (hx : x < 0) : Calls Tryz.prog 41 #[ptrV N, .int .i64 x] w fun e w' => e = .returned (errV 1) ∧ w = w' := by
 go_enter Tryz.func41, Tryz.ntmps41
 go_wp2_with fail
 go_ret
 exact ⟨rfl, rfl⟩
set_option maxHeartbeats 8000000 in
theorem Fuse_any {c : Nat} {M : Cl} {J : CJ} {L : List Asn} {W : World} (u x : Int) (w : World) (h : ClAt c M J L W w) (hok : M.ok) :
  Calls Tryz.prog 16 #[ptrV c, .int .i64 u, .int .i64 x] w fun e w' => e = .returned (errV (M.fuse u x).1) ∧ ClAt c (M.fuse u x).2 J L W w' := by
 have HH := Zh (has_any u w h hok.many)
 have HF := Zh (show M.fuse u x = if M.has u ≠ 0 then (M.has u, M) else if x < 0 then (1, M) else match M.us[u.toNat]? with
  | some y => (0, M.put u.toNat ⟨{ y.d with fuse := x }, y.s⟩)
  | none => (0, M) from rfl)
 have H0 := Lib.hid' h
 rcases has_cases M u with hz | hz
 rotate_left
 ·have HR := Zh (HF.out.trans (if_pos (by rw [hz]; decide)))
  rw [hz] at HH HR
  clear hz h hok HF
  go_enter Tryz.func16, Tryz.ntmps16
  go_wp2_with fail
  refine HH.out.mono ?_
  rintro en wz ⟨rfl, rfl⟩
  rw [errV_pos (by decide)]
  go_wp2_with fail
  go_ret
  rw [HR.out]
  exact ⟨rfl, H0.out⟩
 have hu := has_zero hz
 obtain ⟨k, rfl⟩ : ∃ k : Nat, u = k := ⟨u.toNat, by omega⟩
 obtain ⟨⟨b, dv, sv, Us, J', Z0, vs⟩, rfl, hP, H⟩ := h
 obtain ⟨y, hy, hus, _, ⟨gd, nd, cd, hdv, hdn, hdl, hdc⟩⟩ := cl_at hP H (u := k) (by omega)
 simp only at hdv hy
 subst hdv
 obtain ⟨G1, K, H1, hback⟩ := cl_disk hP hy H
 have HF1 := Zh (HF.out.trans (if_neg (by rw [hz]; decide)))
 have c0 := H.cell 0 rfl 0 rfl; have cl := H.lt 0 rfl
 have c02 : w.cell? ⟨c, 0, none⟩ = some (.slice (some ⟨gd, 0, none⟩) nd cd) := c0
 rw [hz] at HH
 have HBK := Lib.hid' hback
 have H1h := Lib.hid' H1
 clear hok hback hP hy H H1 HF hz c0
 by_cases hx : x < 0
 ·have HR := Zh (HF1.out.trans (if_pos hx))
  have HC := Zh (fuse_neg y.N x w hx)
  clear HF1 hus hx
  go_enter Tryz.func16, Tryz.ntmps16
  go_wp2_with fail
  refine HH.out.mono ?_
  rintro en wz ⟨rfl, rfl⟩
  rw [errV_0]
  go_wp2_with fail
  refine HC.out.mono ?_
  rintro en wz ⟨rfl, rfl⟩
  go_wp2_with fail
  go_ret
  rw [HR.out]
  exact ⟨rfl, H0.out⟩
 ·have HR := Zh (HF1.out.trans ((if_neg hx).trans (by rw [Int.toNat_natCast, hus] : _ = (0, M.put k ⟨{ y.x.d with fuse := x }, y.x.s⟩))))
  have HC := Zh (fuse_any x w (H1h.out.at 0 rfl) (by omega))
  clear HF1 hus hx H0
  go_enter Tryz.func16, Tryz.ntmps16
  go_wp2_with fail
  refine HH.out.mono ?_
  rintro en wz ⟨rfl, rfl⟩
  rw [errV_0]
  go_wp2_with fail
  refine HC.out.mono ?_
  rintro en w2 ⟨rfl, G', k2⟩
  have H2 := Zh (H1h.out.call1 rfl k2)
  clear k2 hdc c02 cl hdl H1h HC HH
  go_wp2_with fail
  go_ret
  rw [HR.out]
  exact ⟨rfl, HBK.out _ _ _ H2.out⟩
end SL
end Go.Proofs.YtdknbacbcnfonaaGreatDoor

namespace Go.Proofs.YtdknbacbcnfonaaGreatDoor
namespace SL
open DK SH SQ
/-- what stays of a cluster while its sequencer only rises -/
structure Up (M M' : Cl) : Prop where
 us : M'.us.length = M.us.length
 p : M'.p = M.p
 qe : M'.q.e = M.q.e
 qn : M.q.n ≤ M'.q.n
 ok : M'.ok
theorem Up.refl {M : Cl} (h : M.ok) : Up M M := ⟨rfl, rfl, rfl, Int.le_refl _, h⟩
theorem Up.trans {M N K : Cl} (h : Up M N) (g : Up N K) : Up M K := ⟨g.us.trans h.us, g.p.trans h.p, g.qe.trans h.qe, Int.le_trans h.qn g.qn, g.ok⟩
theorem Up.of {M M' : Cl} (h : Stay M M') (hok : M'.ok) : Up M M' := ⟨h.us, h.p, by rw [h.q], by rw [h.q]; exact Int.le_refl _, hok⟩
theorem raise_up {M : Cl} (h : M.ok) (n : Int) : Up M (M.raise n).2 := by
 refine ⟨rfl, rfl, ?_, ?_, h.seqTo h.seq.raise⟩
 ·show (M.q.raise M.p.e n).2.e = M.q.e
  unfold Q.raise; split <;> rfl
 ·show M.q.n ≤ (M.q.raise M.p.e n).2.n
  unfold Q.raise
  split
  ·exact Int.le_refl _
  ·show M.q.n ≤ (if n ≤ M.q.n then M.q.n else n)
   split <;> omega
theorem allS_stay {M : Cl} (hok : M.ok) {f : Cl → Int → Nat × Cl} (hf : ∀ s u, (Stay M s ∧ s.ok) → (Stay M (f s u).2 ∧ (f s u).2.ok)) (l : List Int) : Stay M (allC f l M).2 ∧ (allC f l M).2.ok :=
 allC_inv (I := fun s => Stay M s ∧ s.ok) (fun s u _ h => hf s u h) ⟨Stay.refl M, hok⟩
theorem spread_up {M : Cl} (h : M.ok) (l : List Int) (a : Int) (x : C) : Up M (M.spread l a x).2 := by
 have h1 := allS_stay h (f := Cl.putS a x) (fun s u hs => ⟨hs.1.put _ _ _ _, putC_ok hs.2 _ _ _ _⟩) l
 unfold Cl.spread
 split
 ·exact Up.of h1.1 h1.2
 ·exact (Up.of h1.1 h1.2).trans (raise_up h1.2 _)
theorem putAt_up {M : Cl} (h : M.ok) (a : Int) (x : C) : Up M (M.putAt a x).2 := by
 unfold Cl.putAt
 split
 ·exact Up.refl h
 ·split
  ·exact Up.refl h
  ·split
   ·exact Up.refl h
   ·exact spread_up h _ _ _
theorem fill_up {M : Cl} (h : M.ok) (a : Int) : Up M (M.fill a).2 := by
 unfold Cl.fill
 split
 ·exact Up.refl h
 ·split
  ·exact Up.refl h
  ·unfold fillTo
   split
   ·exact Up.refl h
   ·split
    ·exact Up.refl h
    ·split
     ·exact spread_up h _ _ _
     ·split
      ·exact spread_up h _ _ _
      ·exact spread_up h _ _ _
theorem trim_up {M : Cl} (h : M.ok) (b : Int) : Up M (M.trim b).2 := by
 have h1 := allS_stay h (f := Cl.trimS M.p.e b) (fun s u hs => ⟨hs.1.do _ _, hs.2.do _ _⟩) M.units
 unfold Cl.trim
 split
 ·exact Up.refl h
 ·split
  ·exact Up.of h1.1 h1.2
  ·exact (Up.of h1.1 h1.2).trans (raise_up h1.2 _)
theorem put_up {M : Cl} (h : M.ok) (u : Nat) {x : Un} (hx : Sd x.d) : Up M (M.put u x) := ⟨List.length_set .., rfl, rfl, Int.le_refl _, h.put u hx⟩
theorem kill_up {M : Cl} (h : M.ok) (u : Int) (ks : List Bool) : Up M (M.kill u ks).2 := by
 unfold Cl.kill
 split
 ·exact Up.refl h
 ·split
  ·rename_i x hx
   exact put_up h _ ((h.disk _ (List.mem_of_getElem? hx)).toSw.cut ks)
  ·exact Up.refl h
theorem start_up {M : Cl} (h : M.ok) (u : Int) : Up M (M.start u).2 := by
 unfold Cl.start
 split
 ·exact Up.refl h
 ·split
  ·rename_i D hx
   have h1 := Sd.openS (Sd.up (h.disk _ (List.mem_of_getElem? hx)))
   unfold startU
   split
   ·exact put_up h _ h1
   ·exact put_up h _ h1
  ·exact Up.refl h
  ·exact Up.refl h
theorem fuse_up {M : Cl} (h : M.ok) (u n : Int) (hn : n < 9223372036854775808) : Up M (M.fuse u n).2 := by
 unfold Cl.fuse
 split
 ·exact Up.refl h
 ·split
  ·exact Up.refl h
  ·split
   ·rename_i h0 x hx
    exact put_up h _ (Sd.fused (h.disk _ (List.mem_of_getElem? hx)) ⟨by omega, hn⟩)
   ·exact Up.refl h
theorem take_up (M : Cl) (h : M.ok) : Up M { M with q := (M.q.take M.p.e 1).2.2 } := by
 refine ⟨rfl, rfl, ?_, ?_, h.seqTo h.seq.take⟩
 ·show (M.q.take M.p.e 1).2.2.e = M.q.e
  unfold Q.take; split; rfl; split <;> rfl
 ·show M.q.n ≤ (M.q.take M.p.e 1).2.2.n
  unfold Q.take
  split
  ·exact Int.le_refl _
  ·split
   ·exact Int.le_refl _
   ·show M.q.n ≤ M.q.n + 1; omega
theorem write_up {M : Cl} (h : M.ok) (x : Ac) (u : Int) : Up M (Cl.write x M u).2 := Up.of ((Stay.refl M).do _ _) (h.do _ _)
/-- one try: the sequencer rises, and an address that is told lies between -/
theorem try_up {M : Cl} (h : M.ok) (d : List UInt8) : Up M (M.try d).2.2.2 ∧ ((M.try d).1 = false → (M.try d).2.1 = 0 → M.q.n ≤ (M.try d).2.2.1 ∧ (M.try d).2.2.1 < (M.try d).2.2.2.q.n) := by
 have h1 := take_up M h
 cases htk : M.q.take M.p.e 1 with
 | mk z r =>
 obtain ⟨a, q2⟩ := r
 rw [htk] at h1
 by_cases hz : z = 0
 rotate_left
 ·rw [try_seq htk hz]
  exact ⟨h1, fun _ h0 => absurd h0 hz⟩
 subst hz
 obtain ⟨ha, hq2, hle⟩ := take_zero htk
 have ha0 : 0 ≤ a := by have := h.seq.n; omega
 obtain ⟨i, hi, _, hg⟩ := home_at (M := M) (pj_ok h.proj) ha0
 have hl := ((pj_ok h.proj).each _ (List.mem_of_getElem? hg)).1
 cases hh : M.home a with
 | nil => rw [hh] at hl; simp at hl
 | cons u r =>
 have hw := write_up h1.ok ⟨2, M.p.e, a, d⟩ u
 have hq : (Cl.write ⟨2, M.p.e, a, d⟩ { M with q := q2 } u).2.q.n = q2.n := by
  rw [show (Cl.write ⟨2, M.p.e, a, d⟩ { M with q := q2 } u).2 = (({ M with q := q2 } : Cl).do u.toNat ⟨2, M.p.e, a, d⟩).2.2 from rfl, (Cl.do_len _ _ _).2.2]
 by_cases h8 : (Cl.write ⟨2, M.p.e, a, d⟩ { M with q := q2 } u).1 = 8 ∨ (Cl.write ⟨2, M.p.e, a, d⟩ { M with q := q2 } u).1 = 9
 ·rw [try_again htk hh h8]
  exact ⟨h1.trans hw, fun h _ => by cases h⟩
 by_cases he : (Cl.write ⟨2, M.p.e, a, d⟩ { M with q := q2 } u).1 = 0
 rotate_left
 ·rw [try_err htk hh h8 he]
  exact ⟨h1.trans hw, fun _ h0 => absurd h0 he⟩
 have hst := allS_stay hw.ok (f := Cl.write ⟨2, M.p.e, a, d⟩) (fun s u hs => ⟨hs.1.do _ _, hs.2.do _ _⟩) r
 have hup := (h1.trans hw).trans (Up.of hst.1 hst.2)
 rw [try_rest htk hh he]
 split
 ·rename_i h0
  exact ⟨hup, fun _ h => absurd h h0⟩
 ·refine ⟨hup, fun _ _ => ⟨?_, ?_⟩⟩
  ·show M.q.n ≤ a; omega
  ·show a < (allC (Cl.write ⟨2, M.p.e, a, d⟩) r (Cl.write ⟨2, M.p.e, a, d⟩ { M with q := q2 } u).2).2.q.n
   rw [hst.1.q, hq, hq2]
   show a < M.q.n + 1
   omega
theorem appendF_up (d : List UInt8) : ∀ (k : Nat) {M : Cl}, M.ok → Up M (M.appendF d k).2.2 ∧ ((M.appendF d k).1 = 0 → M.q.n ≤ (M.appendF d k).2.1 ∧ (M.appendF d k).2.1 < (M.appendF d k).2.2.q.n)
 | 0, M, h => ⟨Up.refl h, fun h => by cases h⟩
 | k + 1, M, h => by
  have ht := try_up h d
  unfold Cl.appendF
  split
  ·have hr := appendF_up d k ht.1.ok
   exact ⟨ht.1.trans hr.1, fun h0 => ⟨Int.le_trans ht.1.qn (hr.2 h0).1, (hr.2 h0).2⟩⟩
  ·rename_i hf
   exact ⟨ht.1, fun h0 => ht.2 (by simpa using hf) h0⟩
theorem append_up {M : Cl} (h : M.ok) (d : List UInt8) : Up M (M.append d).2.2 ∧ ((M.append d).1 = 0 → M.q.n ≤ (M.append d).2.1 ∧ (M.append d).2.1 < (M.append d).2.2.q.n) := by
 unfold Cl.append
 split
 ·exact ⟨Up.refl h, fun h => by cases h⟩
 ·exact appendF_up d _ h
/-- between two acts: the sequencer is of the projection's epoch, the last address lies below it -/
structure Ris (M : Cl) (last : Int) : Prop where
 ok : M.ok
 e : M.q.e = M.p.e
 lo : -1 ≤ last
 hi : last < M.q.n
theorem Ris.up {M M' : Cl} {last : Int} (h : Ris M last) (g : Up M M') : Ris M' last := ⟨g.ok, by rw [g.qe, g.p]; exact h.e, h.lo, Int.lt_of_lt_of_le h.hi g.qn⟩
theorem Ris.tail {M : Cl} {last : Int} (h : Ris M last) : M.tail = (0, M.q.n) := by
 unfold Cl.tail Q.tail Q.asks
 rw [h.e]
 simp
end SL
end Go.Proofs.YtdknbacbcnfonaaGreatDoor

namespace Go.Proofs.YtdknbacbcnfonaaGreatDoor
open Go.RowKit
namespace SL
open DK SH SQ
/-- an act of law 13, with where its rows lie -/
structure A13 where
 k : Int
 u : Int
 a : Int
 c : C
 da : Option Addr
 dc : Nat
 ks : List Bool
 ka : Option Addr
 kc : Nat
 sp : List Int
 sa : Option Addr
 sc : Nat
def a13V (x : A13) : List Value := [.int .i64 x.k, .int .i64 x.u, .int .i64 x.a, .int .i64 x.c.k, .slice x.da x.c.d.length x.dc, .slice x.ka x.ks.length x.kc, .slice x.sa x.sp.length x.sc]
structure A13At (w : World) (x : A13) : Prop where
 d : Bytes w (.slice x.da x.c.d.length x.dc) x.c.d
 ks : SlV w (.slice x.ka x.ks.length x.kc) x.ks.length (bools x.ks)
 sp : Zs w (.slice x.sa x.sp.length x.sc) x.sp
 a : -9223372036854775808 ≤ x.a ∧ x.a < 9223372036854775808
theorem A13At.below {w w' : World} {x : A13} (h : A13At w x) (hb : Below w.heap.size w w') : A13At w' x := ⟨SlV.below h.d (Nat.le_refl _) hb, SlV.below h.ks (Nat.le_refl _) hb, SlV.below h.sp (Nat.le_refl _) hb, h.a⟩
structure A13L (w : World) (a : Option Addr) (c : Nat) (X : List A13) : Prop where
 row : SlV w (.slice a X.length c) X.length (X.flatMap a13V)
 each : ∀ x ∈ X, A13At w x
theorem A13L.below {w w' : World} {a : Option Addr} {c : Nat} {X : List A13} (h : A13L w a c X) (hb : Below w.heap.size w w') : A13L w' a c X := ⟨SlV.below h.row (Nat.le_refl _) hb, fun x hx => (h.each x hx).below hb⟩
theorem A13L.len {w : World} {a : Option Addr} {c : Nat} {X : List A13} (h : A13L w a c X) : X.length ≤ 9223372036854775807 := by
 obtain ⟨_, _, he, h1, h2, _⟩ := h.row; cases he; unfold maxLen at h2; omega
theorem slv_le {w : World} {a : Option Addr} {n c : Nat} {xs : List Value} (h : SlV w (.slice a n c) n xs) : n ≤ 9223372036854775807 := by
 obtain ⟨_, _, he, h1, h2, _⟩ := h; cases he; unfold maxLen at h2; omega
def big13 (x : A13) : Bool := decide (100 < x.c.d.length) || decide (60 < x.ks.length) || decide (12 < x.sp.length)
def long13 (X : List A13) (most : Nat) : Bool := X.any big13 || decide (most < X.length)
theorem long13_no {X : List A13} {most : Nat} (h : long13 X most = false) : X.length ≤ most ∧ ∀ x ∈ X, x.c.d.length ≤ 100 ∧ x.ks.length ≤ 60 ∧ x.sp.length ≤ 12 := by
 unfold long13 at h
 rw [Bool.or_eq_false_iff] at h
 refine ⟨by have := h.2; simpa using this, fun x hx => ?_⟩
 have := List.any_eq_false.1 h.1 x hx
 unfold big13 at this
 simpa [Nat.not_lt, and_assoc] using this
set_option maxHeartbeats 4000000 in
theorem long13_any (X : List A13) (most : Nat) (hmost : most ≤ 1000) (a : Option Addr) (c : Nat) (W : World) (h : A13L W a c X) :
  Calls Tryz.prog 5 #[.slice a X.length c, .int .i64 most] W fun e w' => e = .returned (.bool (long13 X most)) ∧ Below W.heap.size W w' := by
 have HS := Lib.hid' h
 have hlen := h.len
 clear h
 go_enter Tryz.func5, Tryz.ntmps5
 go_wp2_with fail
 go_loopw [9] (fun v9 wr => ∃ k : Nat, v9 = .int .i64 k ∧ k ≤ X.length ∧ (X.take k).any big13 = false ∧ Below W.heap.size W wr) (fun v9 _ => X.length - (intOf v9).toNat)
 case atStart => exact ⟨0, rfl, Nat.zero_le _, by simp, Below.refl _ _⟩
 case round =>
  obtain ⟨k, rfl, hk, hno, hbw⟩ := hrel
  have HNO := Lib.hid' hno
  have HBW := Lib.hid' hbw
  clear hno hbw
  by_cases hlt : k < X.length
  ·obtain ⟨hsl, hby⟩ := HS.out.below HBW.out
   obtain ⟨b, off, rfl, hb, hc⟩ := SlV.row (s := 7) (fun _ => rfl) (by decide) hsl hlt
   have c0 := hc 0 _ rfl; have c1 := hc 1 _ rfl; have c2 := hc 2 _ rfl; have c3 := hc 3 _ rfl; have c4 := hc 4 _ rfl; have c5 := hc 5 _ rfl; have c6 := hc 6 _ rfl
   simp only [Nat.add_zero] at c0
   have hat := hby _ (List.getElem_mem hlt)
   have hd1 := slv_le hat.d; have hd2 := slv_le hat.ks; have hd3 := slv_le hat.sp
   have HTK := Zh (take_any big13 X k hlt)
   have HMEM := Zh (List.getElem_mem hlt)
   clear hc hsl hby hat
   generalize X[k] = x at *
   obtain ⟨xk, xu, xa, xc, da, dc, ks, ka, kc, sp, sa, sc⟩ := x
   simp only at c0 c1 c2 c3 c4 c5 c6 hd1 hd2 hd3
   by_cases hq : big13 ⟨xk, xu, xa, xc, da, dc, ks, ka, kc, sp, sa, sc⟩ = true
   ·have HF := Zh (show long13 X most = true by unfold long13; rw [List.any_eq_true.2 ⟨_, HMEM.out, hq⟩]; rfl)
    have hqq : 100 < xc.d.length ∨ (¬ 100 < xc.d.length ∧ 60 < ks.length) ∨ (¬ 100 < xc.d.length ∧ ¬ 60 < ks.length ∧ 12 < sp.length) := by
     unfold big13 at hq
     simp only [Bool.or_eq_true, decide_eq_true_eq] at hq
     omega
    clear hq HTK HMEM
    rcases hqq with h1 | ⟨h1, h2⟩ | ⟨h1, h2, h3⟩
    all_goals
     go_wp2_with fail
     go_ret
     exact ⟨ret_eq (by rw [HF.out]; rfl), HBW.out.trans ((show Below wr.heap.size wr _ by go_grown).mono HBW.out.size)⟩
   ·have HT := Zh (show (X.take (k + 1)).any big13 = false by
     rw [HTK.out, HNO.out, show big13 ⟨xk, xu, xa, xc, da, dc, ks, ka, kc, sp, sa, sc⟩ = false by simpa using hq]; rfl)
    have hqq : ¬ 100 < xc.d.length ∧ ¬ 60 < ks.length ∧ ¬ 12 < sp.length := by
     unfold big13 at hq
     simp only [Bool.or_eq_true, decide_eq_true_eq] at hq
     omega
    obtain ⟨h1, h2, h3⟩ := hqq
    clear HTK hq
    go_wp2_with fail
    go_roundw
    case rel => exact ⟨k + 1, by go_num, by omega, HT.out, HBW.out.trans ((show Below wr.heap.size wr _ by go_grown).mono HBW.out.size)⟩
    case measure => simp [intOf]; omega
  ·have HF := Zh (show X.any big13 = false by
    have := HNO.out; rwa [List.take_of_length_le (by omega)] at this)
   by_cases hm : most < X.length
   ·have HM := Lib.hid' hm
    go_wp2_with fail
    go_ret
    exact ⟨ret_eq (by unfold long13; rw [HF.out]; simp [HM.out]), HBW.out⟩
   ·have HM := Lib.hid' hm
    go_wp2_with fail
    go_ret
    exact ⟨ret_eq (by unfold long13; rw [HF.out]; simp [HM.out]), HBW.out⟩
set_option maxHeartbeats 2000000 in
theorem sproj_any (u r : Int) (a : Option Addr) (n c : Nat) (w : World) :
  Calls Tryz.prog 7 #[.agg #[.int .i64 u, .int .i64 r, .slice a n c]] w fun e w' => e = .returned (.agg #[.int .i64 0, .slice a n c]) ∧ Below w.heap.size w w' := by
 go_enter Tryz.func7, Tryz.ntmps7
 go_wp2_with fail
 refine bodyPost_ret (v := .agg #[.int .i64 0, .slice a n c]) (by simp [results, Tryz.results7, go_sem]) rfl ⟨rfl, ?_⟩
 go_grown
theorem add_facts {M : Cl} {room : Int} (h : (M.add room).1 = 0) (hd : ∀ x ∈ M.us, Sd x.d) : (M.add room).2.us.length = M.us.length + 1 ∧ ∀ x ∈ (M.add room).2.us, Sd x.d := by
 unfold Cl.add at h ⊢
 split at h
 ·cases h
 ·rename_i hr
  rw [if_neg hr]
  have hg : ∀ x ∈ (M.grow (newU room)).us, Sd x.d := by
   intro x hx
   rcases List.mem_append.1 (show x ∈ M.us ++ [newU room] from hx) with hx | hx
   ·exact hd x hx
   ·obtain rfl := List.mem_singleton.1 hx
    exact Sd.new (by omega)
  refine ⟨?_, ?_⟩
  ·show ((M.grow (newU room)).do M.us.length sealA).2.2.us.length = _
   rw [(Cl.do_len _ _ _).1]
   show (M.us ++ [newU room]).length = _
   simp
  ·show ∀ x ∈ ((M.grow (newU room)).do M.us.length sealA).2.2.us, Sd x.d
   unfold Cl.do
   split
   ·rename_i D S hu
    intro x hx
    rcases List.mem_or_eq_of_mem_set (show x ∈ (M.grow (newU room)).us.set _ _ from hx) with hx | rfl
    ·exact hg x hx
    ·exact Sd.doS (hg _ (List.mem_of_getElem? hu)) _
   ·exact hg
theorem addN_facts (room : Int) : ∀ (k : Nat) {M : Cl}, (Cl.addN room k M).1 = 0 → (∀ x ∈ M.us, Sd x.d) → (Cl.addN room k M).2.us.length = M.us.length + k ∧ (Cl.addN room k M).2.p = M.p ∧ ∀ x ∈ (Cl.addN room k M).2.us, Sd x.d
 | 0, M, _, hd => ⟨rfl, rfl, hd⟩
 | k + 1, M, h, hd => by
  by_cases h0 : (M.add room).1 = 0
  ·rw [addN_step h0] at h ⊢
   obtain ⟨a1, a2⟩ := add_facts h0 hd
   obtain ⟨b1, b2, b3⟩ := addN_facts room k h a2
   exact ⟨by rw [b1, a1]; omega, b2.trans (add_len M room).2.1, b3⟩
  ·rw [addN_stop h0] at h; exact absurd h h0
theorem newCl_ris {units room : Int} {X : List (List Int)} (h : (newCl units room X).1 = 0) : Ris (newCl units room X).2 (-1) := by
 unfold newCl at h ⊢
 split at h
 ·cases h
 rename_i hu
 rw [if_neg hu]
 split at h
 ·rename_i hc; exact absurd h hc
 rename_i hc
 rw [if_neg hc]
 split at h
 ·cases h
 rename_i hn
 rw [if_neg hn]
 split at h
 ·rename_i ha; exact absurd h ha
 rename_i ha
 rw [if_neg ha]
 have hz : (Cl.addN room units.toNat (cl0 X)).1 = 0 := by simpa using ha
 obtain ⟨b1, b2, b3⟩ := addN_facts room units.toNat hz (by intro x hx; cases hx)
 have hcz : (⟨1, X⟩ : Pj).check = 0 := by simpa using hc
 have hlen : (Cl.addN room units.toNat (cl0 X)).2.us.length = units.toNat := by rw [b1]; show 0 + _ = _; omega
 refine ⟨⟨?_, ?_, ?_, ⟨(by show (0 : Int) ≤ 1 ∧ (1 : Int) ≤ 1099511627776; decide), (by show (0 : Int) ≤ 0 ∧ (0 : Int) ≤ 1048576; decide)⟩, b3⟩, ?_, by decide, (by show (-1 : Int) < 0; decide)⟩
 ·show (Cl.addN room units.toNat (cl0 X)).2.p.check = 0
  rw [b2]; exact hcz
 ·show (Cl.addN room units.toNat (cl0 X)).2.us.length ≤ 8
  rw [hlen]; omega
 ·intro v hv
  have hv2 : v ∈ (⟨1, X⟩ : Pj).all := by
   have : v ∈ (Cl.addN room units.toNat (cl0 X)).2.p.all := hv
   rw [b2] at this; exact this
  show 0 ≤ v ∧ v < ((Cl.addN room units.toNat (cl0 X)).2.us.length : Int)
  rw [hlen]
  have h1 : v < units := by
   have h2 : ¬ units ≤ v := fun h3 => hn (List.any_eq_true.2 ⟨v, (unitsOf_mem v _).2 hv2, by simpa using h3⟩)
   omega
  have h0 : 0 ≤ v := by
   unfold Pj.check at hcz
   split at hcz
   ·cases hcz
   ·split at hcz
    ·cases hcz
    ·split at hcz
     ·cases hcz
     ·rename_i ho
      have h4 : oddU v = false := by
       have := List.any_eq_false.1 (by simpa using ho : (⟨1, X⟩ : Pj).all.any oddU = false) v hv2
       simpa using this
      unfold oddU at h4
      simp at h4
      omega
  exact ⟨h0, by omega⟩
 ·show (1 : Int) = (Cl.addN room units.toNat (cl0 X)).2.p.e
  rw [b2]; rfl
end SL
end Go.Proofs.YtdknbacbcnfonaaGreatDoor
