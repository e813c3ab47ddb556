/- Proved here: a part of the proof (30 of 33). -/
import Derived.Test.YtcpkeddgkpjioaaGreatDoorA27
import Derived.Test.YtcpkeddgkpjioaaGreatDoorA2
import Derived.Lib.IfaceNeq
import Derived.Deep.DeepCutAuto
import Derived.Deep.CutBlock
import Derived.Test.YtcpkeddgkpjioaaGreatDoorA26
import Derived.Test.YtcpkeddgkpjioaaGreatDoorA16
import Derived.Test.YtcpkeddgkpjioaaGreatDoorA12
import Derived.Test.YtcpkeddgkpjioaaGreatDoorA1
import Derived.Laws.Tables
import Derived.Deep.MidRow
import Derived.Test.YtcpkeddgkpjioaaGreatDoorA11
import Derived.Test.YtcpkeddgkpjioaaGreatDoorA32
set_option linter.unusedSimpArgs false
set_option linter.unusedVariables false
set_option maxRecDepth 100000
namespace Go.Proofs.YtcpkeddgkpjioaaGreatDoor
open Go.RowKit
namespace SL
open DK SH SQ
@[go_sem] theorem neq_err (w : World) (a b : Int) : (binOp .neq 26 (.iface 69 (.int .i64 a)) (.iface 69 (.int .i64 b))).run Tryz.prog w = .ok (.bool (!(a == b))) w := Go.Lib.run_neq_iface_int w a b undErr (by kernel_rfl) Tryz.underlying69
@[go_sem] theorem neq_nilerr (w : World) (u : TypeId) (x : Value) : (binOp .neq 26 .nilIface (.iface u x)).run Tryz.prog w = .ok (.bool true) w := by
 have h : ∀ d : Nat, (Op.equalIn (d + 1) 26 .nilIface (.iface u x)).run Tryz.prog w = .ok false w := fun d => by simp [Op.equalIn, run_underlying undErr]
 simp only [binOp]
 simp [Op.equal, Op.maxDepth, h 9999]
def putA (e a : Int) (x : C) : Ac := if x.k = 1 then ⟨2, e, a, x.d⟩ else ⟨3, e, a, []⟩
/-- a cell is put into a unit -/
def Cl.putC (e a : Int) (x : C) (M : Cl) (u : Int) : Nat × Cl :=
 if x.k = 1 ∧ (M.do u.toNat (putA e a x)).1 = 8 ∧ ((M.do u.toNat (putA e a x)).2.2.readU u.toNat e a).1 = 0 ∧ ((M.do u.toNat (putA e a x)).2.2.readU u.toNat e a).2 = x then (0, (M.do u.toNat (putA e a x)).2.2)
 else ((M.do u.toNat (putA e a x)).1, (M.do u.toNat (putA e a x)).2.2)
theorem do_was_on {M : Cl} {u : Nat} {x : Ac} (h : (M.do u x).1 ≠ 14) (hu : u < M.us.length) : ∃ D S, (M.do u x).2.2.us[u]? = some ⟨D, some S⟩ := by
 obtain ⟨⟨D, s⟩, hx⟩ : ∃ x, M.us[u]? = some x := ⟨M.us[u], List.getElem?_eq_getElem hu⟩
 cases s with
 | none => rw [do_off x hx] at h; exact absurd rfl h
 | some S =>
  rw [do_on x hx]
  exact ⟨_, _, by show (M.us.set u _)[u]? = _; rw [List.getElem?_set_self hu]⟩
/-- a unit's shelf, where the cluster has it -/
theorem ClAt.shelf {c : Nat} {M : Cl} {J : CJ} {L : List Asn} {W w : World} (h : ClAt c M J L W w) {u : Nat} (hu : u < M.us.length) : ∃ g n cap Q, w.cell? ⟨c, 1, none⟩ = some (.slice (some ⟨g, 0, none⟩) n cap) ∧ u < n ∧ g < w.heap.size ∧ w.cell? ⟨g, u, none⟩ = some (optV Q) ∧
  (Q = none → ∃ D, M.us[u]? = some ⟨D, none⟩) ∧ (∀ q, Q = some q → ∃ D S, M.us[u]? = some ⟨D, some S⟩ ∧ ∀ (e a : Int) (wq : World), Below w.heap.size w wq → Calls Tryz.prog 74 #[ptrV q, .int .i64 e, .int .i64 a] wq (ReadR (readS S D e a).1 (readS S D e a).2 wq)) := by
 obtain ⟨P, rfl, hP, H⟩ := h
 obtain ⟨y, hy, hus, ⟨g, n, cap, hsv, hun, hgl, hgc⟩, _⟩ := cl_at hP H hu
 have c1 := H.cell 0 rfl 1 rfl
 rw [hsv] at c1
 refine ⟨g, n, cap, y.Q, c1, hun, hgl, hgc, fun hq => ?_, fun q hq => ?_⟩
 ·have hoff := cl_off hy hq H
  exact ⟨y.x.d, by rw [hus]; cases hyx : y.x with | mk D s => rw [hyx] at hoff; simp only at hoff; rw [hoff]⟩
 ·obtain ⟨S, hS, hsh, _⟩ := cl_on hP hy hq H
  refine ⟨y.x.d, S, by rw [hus]; cases hyx : y.x with | mk D s => rw [hyx] at hS; simp only at hS; rw [hS], fun e a wq hb => kread_any e a wq (hsh.below hb)⟩
theorem optV_on {Q : Option Nat} {M : Cl} {u : Nat} {D : Dk} {S : Sf} (h : M.us[u]? = some ⟨D, some S⟩) (h0 : Q = none → ∃ D, M.us[u]? = some ⟨D, none⟩) : ∃ q, Q = some q := by
 cases Q with
 | some q => exact ⟨q, rfl⟩
 | none => obtain ⟨D', h2⟩ := h0 rfl; rw [h] at h2; cases h2
set_option maxHeartbeats 8000000 in
theorem sput_any {c : Nat} {M : Cl} {J : CJ} {L : List Asn} {W : World} (u : Int) (e a : Int) (x : C) (xa : Option Addr) (xc : Nat) (w : World) (hp : Pow W) (h : ClAt c M J L W w) (hu : 0 ≤ u ∧ u < (M.us.length : Int)) (hok : M.ok) (hB : ∀ M' w', ClAt c M' J L W w' → Bytes w' (.slice xa x.d.length xc) x.d) :
  Calls Tryz.prog 70 #[ptrV c, .int .i64 u, .int .i64 e, .int .i64 a, .agg #[.int .i64 x.k, .slice xa x.d.length xc]] w fun en w' => en = .returned (errV (Cl.putC e a x M u).1) ∧ ClAt c (Cl.putC e a x M u).2 J L W w' := by
 obtain ⟨u, rfl⟩ : ∃ k : Nat, u = k := ⟨u.toNat, by omega⟩
 have hun : u < M.us.length := by omega
 have HB := Lib.hid' hB
 have hF : Cl.putC e a x M (u : Int) = if x.k = 1 ∧ (M.do u (putA e a x)).1 = 8 ∧ ((M.do u (putA e a x)).2.2.readU u e a).1 = 0 ∧ ((M.do u (putA e a x)).2.2.readU u e a).2 = x then (0, (M.do u (putA e a x)).2.2) else ((M.do u (putA e a x)).1, (M.do u (putA e a x)).2.2) := rfl
 by_cases hk : x.k = 1
 rotate_left
 ·have HF := Zh (hF.trans (if_neg (fun h => hk h.1)))
  have hA : putA e a x = ⟨3, e, a, []⟩ := if_neg hk
  rw [hA] at HF
  have h2 := Zh ((h.allocB w.heap.size [.int .i64 x.k, .slice xa x.d.length xc] 36 rfl).allocB (w.heap.size + 1) [.int .i64 3, .int .i64 e, .int .i64 a, .slice none 0 0] 112 (by simp))
  have HD := Zh (do_any u ⟨3, e, a, []⟩ none 0 _ hp h2.out hun hok (SlV.of_own (own_nil _ 0 0 0)))
  rw [show ac9V (⟨3, e, a, []⟩ : Ac) none 0 = .agg #[.int .i64 3, .int .i64 e, .int .i64 a, .slice none 0 0] from rfl] at HD
  have x0 := h2.out.side.cell 1 rfl 0 rfl; have xl := h2.out.side.lt 1 rfl
  have a0 := h2.out.side.cell 0 rfl 0 rfl; have a1 := h2.out.side.cell 0 rfl 1 rfl; have a2 := h2.out.side.cell 0 rfl 2 rfl; have a3 := h2.out.side.cell 0 rfl 3 rfl; have al := h2.out.side.lt 0 rfl
  have hkb : (x.k == 1) = false := by simpa using hk
  have hkn : (x.k != 1) = true := by simpa using hk
  generalize x.k = xk at *
  generalize M.do u ⟨3, e, a, []⟩ = r at *
  obtain ⟨z, n, M2⟩ := r
  have HK := Lib.hid' hk
  clear hF hA h hB hok hk h2 hp
  go_enter Tryz.func70, Tryz.ntmps70
  go_upto_region 2 with fail
  generalize (w.alloc _).alloc _ = w2 at *
  go_wp2_with fail
  refine HD.out.mono ?_
  rintro en w3 ⟨rfl, h3⟩
  have H3 := Lib.hid' h3
  have b0 := h3.side.cell 1 rfl 0 rfl; have bl := h3.side.lt 1 rfl
  clear h3 HD a0 a1 a2 a3 al x0 xl
  rw [show errV z = errV z from rfl]
  by_cases hz : z = 0
  ·subst hz
   rw [errV_0]
   go_wp2_with fail
   go_ret
   rw [HF.out]
   exact ⟨rfl, H3.out.sub ((List.Sublist.refl L).cons _ |>.cons _)⟩
  by_cases hz8 : z = 8
  ·subst hz8
   rw [errV_pos (by decide)]
   go_wp2_with fail
   go_ret
   rw [HF.out]
   exact ⟨rfl, H3.out.sub ((List.Sublist.refl L).cons _ |>.cons _)⟩
  ·have HZ := Lib.hid' hz
   rw [errV_pos hz]
   go_wp2_with fail
   go_ret
   rw [HF.out]
   exact ⟨by rw [errV_pos HZ.out]; rfl, H3.out.sub ((List.Sublist.refl L).cons _ |>.cons _)⟩
 ·have hA : putA e a x = ⟨2, e, a, x.d⟩ := if_pos hk
  rw [hA] at hF
  have h2 := (h.allocB w.heap.size [.int .i64 x.k, .slice xa x.d.length xc] 36 rfl).allocB (w.heap.size + 1) [.int .i64 3, .int .i64 e, .int .i64 a, .slice none 0 0] 112 (by simp)
  have HX := Zh (show ∀ wq, ClAt c M J (.box (w.heap.size + 1) [.int .i64 2, .int .i64 e, .int .i64 a, .slice xa x.d.length xc] 112 :: .box w.heap.size [.int .i64 x.k, .slice xa x.d.length xc] 36 :: L) W wq → Calls Tryz.prog 53 #[ptrV c, .int .i64 u, ac9V ⟨2, e, a, x.d⟩ xa xc] wq (ClR c (M.do u ⟨2, e, a, x.d⟩).2.2 J (.tuple #[.int .i64 (M.do u ⟨2, e, a, x.d⟩).2.1, errV (M.do u ⟨2, e, a, x.d⟩).1]) (.box (w.heap.size + 1) [.int .i64 2, .int .i64 e, .int .i64 a, .slice xa x.d.length xc] 112 :: .box w.heap.size [.int .i64 x.k, .slice xa x.d.length xc] 36 :: L) W) from
   fun wq hq => do_any u ⟨2, e, a, x.d⟩ xa xc wq hp hq hun hok (hB _ _ (hq.sub ((List.Sublist.refl L).cons _ |>.cons _))))
  have HON := Zh (fun (h14 : (M.do u ⟨2, e, a, x.d⟩).1 ≠ 14) => do_was_on h14 hun)
  have HLEN := Zh (Cl.do_len M u ⟨2, e, a, x.d⟩).1
  have HUN := Lib.hid' hun
  rw [show ac9V (⟨2, e, a, x.d⟩ : Ac) xa xc = .agg #[.int .i64 2, .int .i64 e, .int .i64 a, .slice xa x.d.length xc] from rfl] at HX
  obtain ⟨xk, xd⟩ := x
  obtain rfl : xk = 1 := hk
  simp only at hF HX HON HLEN HB h2 ⊢
  have HF := Lib.hid' hF
  have H2 := Lib.hid' h2
  have x0 := h2.side.cell 1 rfl 0 rfl; have x1 := h2.side.cell 1 rfl 1 rfl; have xl := h2.side.lt 1 rfl
  have a0 := h2.side.cell 0 rfl 0 rfl; have a1 := h2.side.cell 0 rfl 1 rfl; have a2 := h2.side.cell 0 rfl 2 rfl; have a3 := h2.side.cell 0 rfl 3 rfl; have al := h2.side.lt 0 rfl
  clear hF hA h hB hok h2 hp hun hu
  generalize M.do u ⟨2, e, a, xd⟩ = r at *
  obtain ⟨z, n, M2⟩ := r
  simp only at HX HON HLEN HF
  go_enter Tryz.func70, Tryz.ntmps70
  go_upto_region 2 with fail
  generalize hw2 : (w.alloc _).alloc _ = w2 at *
  clear hw2
  go_upto_region 3 with fail
  have fz0 := H2.out.side.free 0 rfl 0; have fz3a := H2.out.side.free 0 rfl 3
  refine startD (S := (fun w' => w'.cell? ⟨w.heap.size, 1, none⟩ = some (.slice xa xd.length xc))) (by kernel_rfl) x1 (fun hH0 => ?_)
  simp only [List.length_cons, List.length_nil, Nat.reduceAdd, List.replicate_succ, List.replicate_zero]
  refine tD 0 22 (.pointer (some ⟨w.heap.size, 1, none⟩)) rfl rfl [(9, .pointer (some ⟨w.heap.size, 0, none⟩))] hH0 ?_
  dsimp only [sZ, sS]
  refine tD 1 23 (.slice xa xd.length xc) rfl rfl [(22, .pointer (some ⟨w.heap.size, 1, none⟩))] hH0 ?_
  dsimp only [sZ, sS]
  refine tD 2 24 (.pointer (some ⟨(w.heap.size + 1), 0, none⟩)) rfl rfl [(11, .pointer (some ⟨(w.heap.size + 1), 0, none⟩))] hH0 ?_
  dsimp only [sZ, sS]
  refine rD 3 rfl (fun K hK => ?_)
  go_simp
  have H3 := Zh (H2.out.setB 0 (.int .i64 2))
  simp only [List.set_cons_zero, List.set_cons_succ] at H3
  have fz3 := H3.out.side.free 0 rfl 3
  refine hK.out _ _ ?_ (fun hH1 => ?_)
  ·exact (H3.out.below (Below.refl _ _).drew).side.cell 1 rfl 1 rfl
  clear hK K
  try simp only [Act.put, gA, gZ, gS, sA, sZ, sS]
  refine tD 4 25 (.pointer (some ⟨(w.heap.size + 1), 3, none⟩)) rfl rfl [(11, .pointer (some ⟨(w.heap.size + 1), 0, none⟩))] hH1 ?_
  dsimp only [sZ, sS]
  refine rD 5 rfl (fun K hK => ?_)
  go_simp
  have H4 := Zh (H3.out.setB 3 (.slice xa xd.length xc))
  simp only [List.set_cons_zero, List.set_cons_succ] at H4
  refine hK.out _ _ ?_ (fun hH2 => ?_)
  ·exact (H4.out.below (Below.refl _ _).drew).side.cell 1 rfl 1 rfl
  clear hK K
  refine wpAnyH_done (by kernel_rfl) ?_ _
  clear H3 fz0 fz3 fz3a x0 x1 xl a0 a1 a2 a3 al H2
  have H5 := Zh (H4.out.below (Below.refl _ _).drew)
  clear H4
  have H4 := H5
  clear H5
  have b0 := H4.out.side.cell 1 rfl 0 rfl; have b1 := H4.out.side.cell 1 rfl 1 rfl; have bl := H4.out.side.lt 1 rfl
  have a0 := H4.out.side.cell 0 rfl 0 rfl; have a1 := H4.out.side.cell 0 rfl 1 rfl; have a2 := H4.out.side.cell 0 rfl 2 rfl; have a3 := H4.out.side.cell 0 rfl 3 rfl; have al := H4.out.side.lt 0 rfl
  have HD := Zh (HX.out _ H4.out)
  generalize World.drew _ = w3 at *
  clear H4 HX
  go_wp2_with fail
  refine HD.out.mono ?_
  clear HD
  rintro en w4 ⟨rfl, h4⟩
  have HS4 := Zh (h4.sub (L' := L) ((List.Sublist.refl L).cons _ |>.cons _))
  have H4 := Lib.hid' h4
  clear a0 a1 a2 a3 al b0 b1 bl
  have b0 := h4.side.cell 1 rfl 0 rfl; have b1 := h4.side.cell 1 rfl 1 rfl; have bl := h4.side.lt 1 rfl
  clear h4
  simp only
  by_cases hz : z = 0
  ·have HF2 := Zh (HF.out.trans (if_neg (by rw [hz]; simp)))
   subst hz
   rw [errV_0]
   go_wp2_with fail
   go_ret
   rw [HF2.out]
   exact ⟨rfl, HS4.out⟩
  by_cases hz8 : z = 8
  rotate_left
  ·have HF2 := Zh (HF.out.trans (if_neg (fun h => hz8 h.2.1)))
   have HZ := Lib.hid' hz
   rw [errV_pos hz]
   go_wp2_with fail
   go_ret
   rw [HF2.out]
   exact ⟨by rw [errV_pos HZ.out]; rfl, HS4.out⟩
  subst hz8
  obtain ⟨D, S, hon⟩ := HON.out (by decide)
  obtain ⟨g, gn, gcap, Q, c1, hgn, hgl, hgc, hq0, hq1⟩ := H4.out.shelf (u := u) (by rw [HLEN.out]; exact HUN.out)
  obtain ⟨q, rfl⟩ := optV_on hon hq0
  obtain ⟨D', S', hon2, hrd⟩ := hq1 q rfl
  have HRU := Zh (show M2.readU u e a = readS S' D' e a from readU_on e a hon2)
  have HRD := Zh (hrd e a w4 (Below.refl _ _))
  rw [← HRU.out] at HRD
  have hcl := H4.out.c2.2
  have hgc2 : w4.cell? ⟨g, u, none⟩ = some (ptrV q) := hgc
  clear hon hq0 hq1 hon2 hrd hgc HON HLEN HUN hz HRU
  rw [errV_pos (by decide)]
  generalize M2.readU u e a = rd at *
  obtain ⟨y, cd⟩ := rd
  go_wp2_with fail
  refine HRD.out.mono ?_
  clear HRD
  rintro en w5 ⟨ra, rc, rfl, hro, hb5⟩
  have HS5 := Zh (HS4.out.below hb5)
  have H5 := Zh (H4.out.below hb5)
  have HRO := Zh (show Bytes w5 (.slice ra cd.d.length rc) cd.d from SlV.of_own hro)
  clear hro hb5 HS4 H4 hgc2 hcl c1 b0 b1 bl
  have b0 := H5.out.side.cell 1 rfl 0 rfl; have b1 := H5.out.side.cell 1 rfl 1 rfl; have bl := H5.out.side.lt 1 rfl
  simp only
  have hb6 : Below w5.heap.size w5 (w5.alloc (.cells #[.int .i64 cd.k, .slice ra cd.d.length rc] 36)) := by go_grown
  by_cases hy : y = 0
  rotate_left
  ·have HF2 := Zh (HF.out.trans (if_neg (fun h => hy h.2.2.1)))
   have HZ := Lib.hid' hy
   rw [errV_pos hy]
   clear hy
   go_wp2_with fail
   go_ret
   rw [HF2.out]
   exact ⟨rfl, HS5.out.below hb6⟩
  subst hy
  rw [errV_0]
  have hbx := HB.out _ _ (HS5.out.below hb6)
  have HSM := Zh (same_any (.agg #[.int .i64 cd.k, .slice ra cd.d.length rc]) (.agg #[.int .i64 1, .slice xa xd.length xc]) cd ⟨1, xd⟩ _ ⟨ra, rc, rfl, SlV.below HRO.out (Nat.le_refl _) hb6⟩ ⟨xa, xc, rfl, hbx⟩)
  clear hbx
  go_wp2_with fail
  refine HSM.out.mono ?_
  rintro en w6 ⟨rfl, hb7⟩
  have HS6 := Zh ((HS5.out.below hb6).below hb7)
  clear hb7 hb6 HSM b0 b1 bl
  by_cases hs : cd = ⟨1, xd⟩
  ·have HF2 := Zh (HF.out.trans (if_pos (by simp [hs])))
   rw [show decide (cd = (⟨1, xd⟩ : C)) = true from decide_eq_true hs]
   clear hs
   go_wp2_with fail
   go_ret
   rw [HF2.out]
   exact ⟨rfl, HS6.out⟩
  ·have HF2 := Zh (HF.out.trans (if_neg (fun h => hs h.2.2.2)))
   rw [show decide (cd = (⟨1, xd⟩ : C)) = false from decide_eq_false hs]
   clear hs
   go_wp2_with fail
   go_ret
   rw [HF2.out]
   exact ⟨rfl, HS6.out⟩
end SL
end Go.Proofs.YtcpkeddgkpjioaaGreatDoor

namespace Go.Proofs.YtcpkeddgkpjioaaGreatDoor
open Go.RowKit
namespace SL
open DK SH SQ
def Cl.raise (M : Cl) (n : Int) : Nat × Cl := ((M.q.raise M.p.e n).1, { M with q := (M.q.raise M.p.e n).2 })
set_option maxHeartbeats 4000000 in
theorem craise_any {c : Nat} {M : Cl} {J : CJ} {L : List Asn} {W : World} (n : Int) (w : World) (h : ClAt c M J L W w) :
  Calls Tryz.prog 71 #[ptrV c, .int .i64 n] w fun e w' => e = .returned (errV (M.raise n).1) ∧ ClAt c (M.raise n).2 J L W w' := by
 obtain ⟨b, K, hb4, hsq, _, hback⟩ := h.seqd
 obtain ⟨hc2, hl2⟩ := h.c2
 have HSQ := Lib.hid' hsq
 have HBK := Lib.hid' hback
 have HF := Zh (show M.raise n = ((M.q.raise M.p.e n).1, { M with q := (M.q.raise M.p.e n).2 }) from rfl)
 clear hsq hback h
 go_enter Tryz.func71, Tryz.ntmps71
 go_upto_region 1 with fail
 refine startD (S := (fun w' => w'.cell? ⟨c, 2, none⟩ = some (.int .i64 M.p.e) ∧ w'.cell? ⟨c, 4, none⟩ = some (ptrV b) ∧ c < w'.heap.size)) (by kernel_rfl) ⟨hc2, hb4, hl2⟩ (fun hH0 => ?_)
 simp only [List.length_cons, List.length_nil, Nat.reduceAdd, List.replicate_succ, List.replicate_zero]
 refine tD 0 5 (.pointer (some ⟨c, 0, none⟩)) rfl rfl [(0, .pointer (some ⟨c, 0, none⟩))] hH0 ?_
 dsimp only [sZ, sS]
 refine tD 1 6 (.pointer (some ⟨c, 0, none⟩)) rfl rfl [(5, .pointer (some ⟨c, 0, none⟩))] hH0 ?_
 dsimp only [sZ, sS]
 refine tD 2 7 (.pointer (some ⟨c, 4, none⟩)) rfl rfl [(6, .pointer (some ⟨c, 0, none⟩))] hH0 ?_
 dsimp only [sZ, sS]
 refine tD 3 8 (ptrV b) rfl rfl [(7, .pointer (some ⟨c, 4, none⟩))] hH0 ?_
 dsimp only [sZ, sS]
 refine tD 4 9 (.pointer (some ⟨c, 0, none⟩)) rfl rfl [(0, .pointer (some ⟨c, 0, none⟩))] hH0 ?_
 dsimp only [sZ, sS]
 refine tD 5 10 (.pointer (some ⟨c, 0, none⟩)) rfl rfl [(9, .pointer (some ⟨c, 0, none⟩))] hH0 ?_
 dsimp only [sZ, sS]
 refine tD 6 11 (.pointer (some ⟨c, 2, none⟩)) rfl rfl [(10, .pointer (some ⟨c, 0, none⟩))] hH0 ?_
 dsimp only [sZ, sS]
 refine tD 7 12 (.pointer (some ⟨c, 2, none⟩)) rfl rfl [(11, .pointer (some ⟨c, 2, none⟩))] hH0 ?_
 dsimp only [sZ, sS]
 refine tD 8 13 (.int .i64 M.p.e) rfl rfl [(12, .pointer (some ⟨c, 2, none⟩))] hH0 ?_
 dsimp only [sZ, sS]
 refine tD 9 14 (.int .i64 n) rfl rfl [(1, .int .i64 n)] hH0 ?_
 dsimp only [sZ, sS]
 refine rD 10 rfl (fun K hK => ?_)
 go_simp
 refine (SQ.raise_any M.p.e n HSQ.out.drew).mono ?_
 rintro e w2 ⟨rfl, hs2⟩
 obtain ⟨h2, hb42⟩ := HBK.out _ _ hs2
 have H2 := Lib.hid' h2
 have HF2 : w2.cell? ⟨c, 2, none⟩ = some (.int .i64 M.p.e) ∧ w2.cell? ⟨c, 4, none⟩ = some (ptrV b) ∧ c < w2.heap.size := ⟨h2.c2.1, hb42, h2.c2.2⟩
 clear hs2 h2 hb42
 refine hK.out _ _ ?_ (fun hH1 => ?_)
 ·exact HF2
 clear hK K
 try simp only [Act.put, gA, gZ, gS, sA, sZ, sS]
 refine tD 11 4 (errV (M.q.raise M.p.e n).1) rfl rfl [(15, errV (M.q.raise M.p.e n).1)] hH1 ?_
 dsimp only [sZ, sS]
 refine wpAnyH_done (by kernel_rfl) ?_ _
 clear HF2 hb4 hc2
 go_wp2_with fail
 go_ret
 rw [HF.out]
 exact ⟨rfl, H2.out⟩
set_option maxHeartbeats 4000000 in
theorem ctail_any {c : Nat} {M : Cl} {J : CJ} {L : List Asn} {W : World} (w : World) (h : ClAt c M J L W w) :
  Calls Tryz.prog 13 #[ptrV c] w fun e w' => e = .returned (.tuple #[.int .i64 M.tail.2, errV M.tail.1]) ∧ ClAt c M J L W w' := by
 obtain ⟨b, K, hb4, hsq, _, hback⟩ := h.seqd
 obtain ⟨hc2, hl2⟩ := h.c2
 have HSQ := Lib.hid' hsq
 have H := Lib.hid' h
 have HF := Zh (show M.tail = M.q.tail M.p.e from rfl)
 clear hsq hback h
 go_enter Tryz.func13, Tryz.ntmps13
 go_upto_region 3 with fail
 refine startD (S := (fun w' => w'.cell? ⟨c, 2, none⟩ = some (.int .i64 M.p.e) ∧ w'.cell? ⟨c, 4, none⟩ = some (ptrV b) ∧ c < w'.heap.size)) (by kernel_rfl) ⟨hc2, hb4, hl2⟩ (fun hH0 => ?_)
 simp only [List.length_cons, List.length_nil, Nat.reduceAdd, List.replicate_succ, List.replicate_zero]
 refine tD 0 7 (.pointer (some ⟨c, 0, none⟩)) rfl rfl [(0, .pointer (some ⟨c, 0, none⟩))] hH0 ?_
 dsimp only [sZ, sS]
 refine tD 1 8 (.pointer (some ⟨c, 0, none⟩)) rfl rfl [(7, .pointer (some ⟨c, 0, none⟩))] hH0 ?_
 dsimp only [sZ, sS]
 refine tD 2 9 (.pointer (some ⟨c, 4, none⟩)) rfl rfl [(8, .pointer (some ⟨c, 0, none⟩))] hH0 ?_
 dsimp only [sZ, sS]
 refine tD 3 10 (ptrV b) rfl rfl [(9, .pointer (some ⟨c, 4, none⟩))] hH0 ?_
 dsimp only [sZ, sS]
 refine tD 4 11 (.pointer (some ⟨c, 0, none⟩)) rfl rfl [(0, .pointer (some ⟨c, 0, none⟩))] hH0 ?_
 dsimp only [sZ, sS]
 refine tD 5 12 (.pointer (some ⟨c, 0, none⟩)) rfl rfl [(11, .pointer (some ⟨c, 0, none⟩))] hH0 ?_
 dsimp only [sZ, sS]
 refine tD 6 13 (.pointer (some ⟨c, 2, none⟩)) rfl rfl [(12, .pointer (some ⟨c, 0, none⟩))] hH0 ?_
 dsimp only [sZ, sS]
 refine tD 7 14 (.pointer (some ⟨c, 2, none⟩)) rfl rfl [(13, .pointer (some ⟨c, 2, none⟩))] hH0 ?_
 dsimp only [sZ, sS]
 refine tD 8 15 (.int .i64 M.p.e) rfl rfl [(14, .pointer (some ⟨c, 2, none⟩))] hH0 ?_
 dsimp only [sZ, sS]
 refine rD 9 rfl (fun K hK => ?_)
 go_simp
 refine (SQ.tail_any M.p.e HSQ.out.drew 0 rfl).mono ?_
 rintro e w2 ⟨rfl, hs2⟩
 subst hs2
 refine hK.out _ _ ?_ (fun hH1 => ?_)
 ·exact ⟨hc2, hb4, hl2⟩
 clear hK K
 try simp only [Act.put, gA, gZ, gS, sA, sZ, sS]
 refine tD 10 17 (.int .i64 (M.q.tail M.p.e).2) rfl rfl [(16, .tuple #[.int .i64 (M.q.tail M.p.e).2, errV (M.q.tail M.p.e).1])] hH1 ?_
 dsimp only [sZ, sS]
 refine tD 11 18 (errV (M.q.tail M.p.e).1) rfl rfl [(16, .tuple #[.int .i64 (M.q.tail M.p.e).2, errV (M.q.tail M.p.e).1])] hH1 ?_
 dsimp only [sZ, sS]
 refine tD 12 2 (.int .i64 (M.q.tail M.p.e).2) rfl rfl [(17, .int .i64 (M.q.tail M.p.e).2)] hH1 ?_
 dsimp only [sZ, sS]
 refine tD 13 3 (errV (M.q.tail M.p.e).1) rfl rfl [(18, errV (M.q.tail M.p.e).1)] hH1 ?_
 dsimp only [sZ, sS]
 refine wpAnyH_done (by kernel_rfl) ?_ _
 clear hb4 hc2
 go_wp2_with fail
 go_ret2
 rw [HF.out]
 exact ⟨rfl, H.out.below (by go_grown)⟩
/-- a cell, or an act, is spread over units -/
def Cl.putS (a : Int) (x : C) (M : Cl) (u : Int) : Nat × Cl := Cl.putC M.p.e a x M u
abbrev intB (N : Nat) (a : Int) : Asn := .box N [.int .i64 a] 3
abbrev cellB1 (N : Nat) (x : C) (xa : Option Addr) (xc : Nat) : Asn := .box N [.int .i64 x.k, .slice xa x.d.length xc] 36
theorem putC_len (e a : Int) (x : C) (M : Cl) (u : Int) : (Cl.putC e a x M u).2 = (M.do u.toNat (putA e a x)).2.2 := by unfold Cl.putC; split <;> rfl
theorem putC_ok {M : Cl} (h : M.ok) (e a : Int) (x : C) (u : Int) : (Cl.putC e a x M u).2.ok := by rw [putC_len]; exact h.do _ _
set_option maxHeartbeats 4000000 in
theorem spread1_any {c N1 N2 N3 : Nat} {M : Cl} {J : CJ} {L : List Asn} {W : World} (u a : Int) (x : C) (xa : Option Addr) (xc : Nat) (w : World) (hp : Pow W) (h : ClAt c M J (cellB1 N3 x xa xc :: intB N2 a :: ptrB N1 c :: L) W w) (hu : 0 ≤ u ∧ u < (M.us.length : Int)) (hok : M.ok) (hB : ∀ M' w', ClAt c M' J L W w' → Bytes w' (.slice xa x.d.length xc) x.d) :
  Calls Tryz.prog 69 #[.int .i64 u, ptrV N1, ptrV N2, ptrV N3] w fun e w' => e = .returned (errV (Cl.putS a x M u).1) ∧ ClAt c (Cl.putS a x M u).2 J (cellB1 N3 x xa xc :: intB N2 a :: ptrB N1 c :: L) W w' := by
 have HP := Zh (fun (wq : World) (hq : ClAt c M J (cellB1 N3 x xa xc :: intB N2 a :: ptrB N1 c :: L) W wq) => sput_any u M.p.e a x xa xc wq hp hq hu hok (fun M' w' h' => hB M' w' (h'.sub (((List.Sublist.refl L).cons _ |>.cons _) |>.cons _))))
 have H := Lib.hid' h
 have hs := h.side
 have HFX := Zh (show ∀ (M' : Cl) (wq : World), ClAt c M' J (cellB1 N3 x xa xc :: intB N2 a :: ptrB N1 c :: L) W wq → wq.cell? ⟨N1, 0, none⟩ = some (ptrV c) ∧ wq.cell? ⟨N2, 0, none⟩ = some (.int .i64 a) ∧ wq.cell? ⟨N3, 0, none⟩ = some (.int .i64 x.k) ∧ wq.cell? ⟨N3, 1, none⟩ = some (.slice xa x.d.length xc) ∧ wq.cell? ⟨c, 2, none⟩ = some (.int .i64 M'.p.e) ∧ N1 < wq.heap.size ∧ N2 < wq.heap.size ∧ N3 < wq.heap.size ∧ c < wq.heap.size from
  fun M' wq hq => ⟨hq.side.cell 2 rfl 0 rfl, hq.side.cell 1 rfl 0 rfl, hq.side.cell 0 rfl 0 rfl, hq.side.cell 0 rfl 1 rfl, hq.c2.1, hq.side.lt 2 rfl, hq.side.lt 1 rfl, hq.side.lt 0 rfl, hq.c2.2⟩)
 have hF := HFX.out M w h
 have hpe := Zh (show (Cl.putC M.p.e a x M u).2.p.e = M.p.e by rw [putC_len, (Cl.do_len _ _ _).2.1])
 have HPS := Zh (show Cl.putS a x M u = Cl.putC M.p.e a x M u from rfl)
 rw [HPS.out]
 clear h hs hok hB hu hp HPS
 go_enter Tryz.func69, Tryz.ntmps69
 go_upto_region 1 with fail
 refine startD (S := (fun w' => w'.cell? ⟨N1, 0, none⟩ = some (ptrV c) ∧ w'.cell? ⟨N2, 0, none⟩ = some (.int .i64 a) ∧ w'.cell? ⟨N3, 0, none⟩ = some (.int .i64 x.k) ∧ w'.cell? ⟨N3, 1, none⟩ = some (.slice xa x.d.length xc) ∧ w'.cell? ⟨c, 2, none⟩ = some (.int .i64 M.p.e) ∧ N1 < w'.heap.size ∧ N2 < w'.heap.size ∧ N3 < w'.heap.size ∧ c < w'.heap.size)) (by kernel_rfl) hF (fun hH0 => ?_)
 simp only [List.length_cons, List.length_nil, Nat.reduceAdd, List.replicate_succ, List.replicate_zero]
 refine tD 0 6 (.pointer (some ⟨c, 0, none⟩)) rfl rfl [(1, .pointer (some ⟨N1, 0, none⟩))] hH0 ?_
 dsimp only [sZ, sS]
 refine tD 1 7 (.int .i64 u) rfl rfl [(0, .int .i64 u)] hH0 ?_
 dsimp only [sZ, sS]
 refine tD 2 8 (.pointer (some ⟨c, 0, none⟩)) rfl rfl [(1, .pointer (some ⟨N1, 0, none⟩))] hH0 ?_
 dsimp only [sZ, sS]
 refine tD 3 9 (.pointer (some ⟨c, 0, none⟩)) rfl rfl [(8, .pointer (some ⟨c, 0, none⟩))] hH0 ?_
 dsimp only [sZ, sS]
 refine tD 4 10 (.pointer (some ⟨c, 2, none⟩)) rfl rfl [(9, .pointer (some ⟨c, 0, none⟩))] hH0 ?_
 dsimp only [sZ, sS]
 refine tD 5 11 (.pointer (some ⟨c, 2, none⟩)) rfl rfl [(10, .pointer (some ⟨c, 2, none⟩))] hH0 ?_
 dsimp only [sZ, sS]
 refine tD 6 12 (.int .i64 M.p.e) rfl rfl [(11, .pointer (some ⟨c, 2, none⟩))] hH0 ?_
 dsimp only [sZ, sS]
 refine tD 7 13 (.int .i64 a) rfl rfl [(2, .pointer (some ⟨N2, 0, none⟩))] hH0 ?_
 dsimp only [sZ, sS]
 refine tD 8 14 (.agg #[.int .i64 x.k, .slice xa x.d.length xc]) rfl rfl [(3, .pointer (some ⟨N3, 0, none⟩))] hH0 ?_
 dsimp only [sZ, sS]
 refine rD 9 rfl (fun K hK => ?_)
 go_simp
 refine (HP.out _ (H.out.below (Below.refl _ _).drew)).mono ?_
 rintro e w2 ⟨rfl, h2⟩
 have H2 := Lib.hid' h2
 have HF2 := HFX.out _ _ h2
 rw [hpe.out] at HF2
 clear h2
 refine hK.out _ _ ?_ (fun hH1 => ?_)
 ·exact HF2
 clear hK K
 try simp only [Act.put, gA, gZ, gS, sA, sZ, sS]
 refine tD 10 5 (errV (Cl.putC M.p.e a x M u).1) rfl rfl [(15, errV (Cl.putC M.p.e a x M u).1)] hH1 ?_
 dsimp only [sZ, sS]
 refine wpAnyH_done (by kernel_rfl) ?_ _
 clear HF2 hF
 go_wp2_with fail
 go_ret
 exact ⟨rfl, H2.out⟩
theorem cf_spread (args : Array Value) (w : World) : (callFunc 69 args).run Tryz.prog w = .ok (.enter 69 args) w := by kernel_rfl
def Cl.spread (l : List Int) (a : Int) (x : C) (M : Cl) : Nat × Cl := if (allC (Cl.putS a x) l M).1 ≠ 0 then allC (Cl.putS a x) l M else (allC (Cl.putS a x) l M).2.raise (a + 1)
/-- what stays as it is while cells are put -/
structure Stay (M M' : Cl) : Prop where
 us : M'.us.length = M.us.length
 p : M'.p = M.p
 q : M'.q = M.q
theorem Stay.refl (M : Cl) : Stay M M := ⟨rfl, rfl, rfl⟩
theorem Stay.do {M M' : Cl} (h : Stay M M') (u : Nat) (x : Ac) : Stay M (M'.do u x).2.2 := by
 have := Cl.do_len M' u x
 exact ⟨this.1.trans h.us, this.2.1.trans h.p, this.2.2.trans h.q⟩
theorem Stay.put {M M' : Cl} (h : Stay M M') (e a : Int) (x : C) (u : Int) : Stay M (Cl.putC e a x M' u).2 := by rw [putC_len]; exact h.do _ _
set_option maxHeartbeats 4000000 in
theorem spread_any {c : Nat} {M : Cl} {J : CJ} {L : List Asn} {W : World} (l : List Int) (ua : Option Addr) (uc : Nat) (a : Int) (x : C) (xa : Option Addr) (xc : Nat) (w : World) (hp : Pow W) (h : ClAt c M J L W w) (hok : M.ok) (hl : l.length ≤ 1048576) (hu : ∀ u ∈ l, 0 ≤ u ∧ u < (M.us.length : Int))
  (ha0 : 0 ≤ a) (ha : a < 1048576) (hZ : ∀ M' w', ClAt c M' J L W w' → Zs w' (.slice ua l.length uc) l) (hB : ∀ M' w', ClAt c M' J L W w' → Bytes w' (.slice xa x.d.length xc) x.d) :
  Calls Tryz.prog 33 #[ptrV c, .slice ua l.length uc, .int .i64 a, .agg #[.int .i64 x.k, .slice xa x.d.length xc]] w fun e w' => e = .returned (errV (M.spread l a x).1) ∧ ClAt c (M.spread l a x).2 J L W w' := by
 have h3 := ((h.allocB w.heap.size [ptrV c] 24 rfl).allocB (w.heap.size + 1) [.int .i64 a] 3 (by simp)).allocB (w.heap.size + 2) [.int .i64 x.k, .slice xa x.d.length xc] 36 (by simp)
 have hsub : List.Sublist L (cellB1 (w.heap.size + 2) x xa xc :: intB (w.heap.size + 1) a :: ptrB w.heap.size c :: L) := ((List.Sublist.refl L).cons _ |>.cons _) |>.cons _
 obtain ⟨w3, hw3⟩ : ∃ w3, ((w.alloc (.cells #[ptrV c] 24)).alloc (.cells #[.int .i64 a] 3)).alloc (.cells #[.int .i64 x.k, .slice xa x.d.length xc] 36) = w3 := ⟨_, rfl⟩
 have h3' : ClAt c M J (cellB1 (w.heap.size + 2) x xa xc :: intB (w.heap.size + 1) a :: ptrB w.heap.size c :: L) W w3 := by rw [← hw3]; exact h3
 have HF := Zh (show M.spread l a x = if (allC (Cl.putS a x) l M).1 ≠ 0 then allC (Cl.putS a x) l M else (allC (Cl.putS a x) l M).2.raise (a + 1) from rfl)
 clear h h3
 obtain ⟨N1, hN1⟩ : ∃ n, n = w.heap.size := ⟨_, rfl⟩
 obtain ⟨N2, hN2⟩ : ∃ n, n = w.heap.size + 1 := ⟨_, rfl⟩
 obtain ⟨N3, hN3⟩ : ∃ n, n = w.heap.size + 2 := ⟨_, rfl⟩
 rw [← hN3, ← hN2, ← hN1] at h3' hsub
 have HI := Zh (show ClAt c M J (cellB1 N3 x xa xc :: intB N2 a :: ptrB N1 c :: L) W w3 ∧ M.ok ∧ Stay M M from ⟨h3', hok, Stay.refl M⟩)
 have HDO := Zh (show DoesU 69 #[ptrV N1, ptrV N2, ptrV N3] (Cl.putS a x) (fun (s : Cl) (w : World) => ClAt c s J (cellB1 N3 x xa xc :: intB N2 a :: ptrB N1 c :: L) W w ∧ s.ok ∧ Stay M s) l from fun s v w hv hI => by
  refine (spread1_any (N1 := N1) (N2 := N2) (N3 := N3) v a x xa xc w hp hI.1 (by rw [hI.2.2.us]; exact hu v hv) hI.2.1 hB).mono ?_
  rintro e w' ⟨rfl, h'⟩
  exact ⟨rfl, h', putC_ok hI.2.1 _ _ _ _, hI.2.2.put _ _ _ _⟩)
 have HALL := Zh (all_any 69 #[ptrV N1, ptrV N2, ptrV N3] (Cl.putS a x) (fun (s : Cl) (w : World) => ClAt c s J (cellB1 N3 x xa xc :: intB N2 a :: ptrB N1 c :: L) W w ∧ s.ok ∧ Stay M s) l ua uc M w3 hl (fun s w hI => hZ _ _ (hI.1.sub hsub)) cf_spread HDO.out HI.out)
 have HSUB := Lib.hid' hsub
 clear hok hp hu hZ hB h3' HI HDO hl hsub
 generalize allC (Cl.putS a x) l M = r at *
 obtain ⟨z, M2⟩ := r
 go_enter Tryz.func33, Tryz.ntmps33
 go_upto_region 1 with fail
 try rw [hw3]
 rw [← hN3, ← hN2, ← hN1]
 clear hw3 hN1 hN2 hN3
 go_wp2_with fail
 refine HALL.out.mono ?_
 rintro e w4 ⟨rfl, h4, hok4, hst⟩
 simp only at h4 ⊢
 have H4 := Lib.hid' h4
 have hn1 := h4.side.cell 2 rfl 0 rfl
 have hn2 := h4.side.cell 1 rfl 0 rfl
 have hl1 := h4.side.lt 2 rfl
 have hl2 := h4.side.lt 1 rfl
 clear h4 hok4 hst HALL
 by_cases hz : z = 0
 ·subst hz
  have HR := Zh (HF.out.trans (if_neg (by simp)))
  have HRA := Zh (craise_any (a + 1) w4 H4.out)
  rw [errV_0]
  clear HF H4
  go_wp2_with fail
  refine HRA.out.mono ?_
  clear HRA
  rintro e w5 ⟨rfl, h5⟩
  go_wp2_with fail
  go_ret
  rw [HR.out]
  exact ⟨rfl, h5.sub HSUB.out⟩
 ·have HR := Zh (HF.out.trans (if_pos hz))
  have HZ := Lib.hid' hz
  rw [errV_pos hz]
  clear HF hz
  go_wp2_with fail
  go_ret
  rw [HR.out]
  exact ⟨by rw [errV_pos HZ.out]; rfl, H4.out.sub HSUB.out⟩
end SL
end Go.Proofs.YtcpkeddgkpjioaaGreatDoor

namespace Go.Proofs.YtcpkeddgkpjioaaGreatDoor
open Go.RowKit
namespace SL
open DK SH SQ
theorem ClAt.belowRow {c : Nat} {M : Cl} {J : CJ} {L : List Asn} {W w w' : World} (h : ClAt c M J L W w) {e size n : Nat} {v : Value} {xs : List Value} (hb : Below w.heap.size w w') (ho : w'.ownsRow w.heap.size e size v n xs) : ClAt c M J (.row e size v n xs :: L) W w' := by
 obtain ⟨P, hJ, hP, H⟩ := h
 refine ⟨P, hJ, hP, (H.belowRow hb ho).perm ?_⟩
 have e1 : ∀ L, clL c M P L = (clK c M P ++ (Asn.pool P.Z P.vs :: P.Us.map (unA P.vs))) ++ L := fun L => by unfold clL; simp
 rw [e1 L, e1 (_ :: L)]
 exact List.perm_middle.symm
def Cl.putAt (M : Cl) (a : Int) (x : C) : Nat × Cl := if inB a 1048575 = false then (1, M) else if x.check ≠ 0 then (x.check, M) else if x.k ≠ 1 ∧ x.k ≠ 2 then (2, M) else M.spread (M.home a) a x
theorem inB_iff {a m : Int} : inB a m = true ↔ 0 ≤ a ∧ a ≤ m := by unfold inB; simp
/-- a chain that is an address's home -/
theorem home_facts {M : Cl} (hok : M.ok) {l : List Int} (hm : l ∈ M.p.cs) : 1 ≤ l.length ∧ l.length ≤ 4 ∧ ∀ u ∈ l, 0 ≤ u ∧ u < (M.us.length : Int) :=
 ⟨((pj_ok hok.proj).each _ hm).1, ((pj_ok hok.proj).each _ hm).2, fun u hu => hok.there u (mem_all hm hu)⟩
set_option maxHeartbeats 8000000 in
theorem Put_any {c : Nat} {M : Cl} {J : CJ} {L : List Asn} {W : World} (a : Int) (x : C) (xa : Option Addr) (xc : Nat) (w : World) (hp : Pow W) (h : ClAt c M J L W w) (hok : M.ok) (hB : ∀ M' w', ClAt c M' J L W w' → Bytes w' (.slice xa x.d.length xc) x.d) :
  Calls Tryz.prog 8 #[ptrV c, .int .i64 a, .agg #[.int .i64 x.k, .slice xa x.d.length xc]] w fun e w' => e = .returned (errV (M.putAt a x).1) ∧ ClAt c (M.putAt a x).2 J L W w' := by
 have HP := Lib.hid' hp
 have HB := Lib.hid' hB
 have HOK := Lib.hid' hok
 have H1 := Zh (h.allocB w.heap.size [.int .i64 x.k, .slice xa x.d.length xc] 36 rfl)
 have HF := Zh (show M.putAt a x = if inB a 1048575 = false then (1, M) else if x.check ≠ 0 then (x.check, M) else if x.k ≠ 1 ∧ x.k ≠ 2 then (2, M) else M.spread (M.home a) a x from rfl)
 have hl0 : w.heap.size < (w.alloc (.cells #[.int .i64 x.k, .slice xa x.d.length xc] 36)).heap.size := by simp
 clear hp hB hok h
 have b0 := H1.out.side.cell 0 rfl 0 rfl; have b1 := H1.out.side.cell 0 rfl 1 rfl
 have HX := Zh (show Bytes (w.alloc (.cells #[.int .i64 x.k, .slice xa x.d.length xc] 36)) (.slice xa x.d.length xc) x.d from HB.out _ _ (ClAt.less (K := [_]) H1.out))
 have HCK := Zh (check_any (.agg #[.int .i64 x.k, .slice xa x.d.length xc]) x _ ⟨xa, xc, rfl, HX.out⟩)
 obtain ⟨w1, hw1⟩ : ∃ w1, w.alloc (.cells #[.int .i64 x.k, .slice xa x.d.length xc] 36) = w1 := ⟨_, rfl⟩
 have e0 : w.alloc (.cells [Value.int .i64 x.k, .slice xa x.d.length xc].toArray 36) = w1 := hw1
 rw [e0] at H1 b0 b1
 rw [hw1] at hl0 HX HCK
 clear e0
 go_enter Tryz.func8, Tryz.ntmps8
 go_upto_region 1 with fail
 try rw [hw1]
 clear hw1
 go_wp2_with fail
 refine (in2_any a 1048575 _).mono ?_
 rintro en wz ⟨rfl, rfl⟩
 go_wp2_with fail
 refine (ask_any c _ _).mono ?_
 rintro en wz ⟨rfl, rfl⟩
 by_cases hin : inB a 1048575 = true
 rotate_left
 ·have hin0 : inB a 1048575 = false := by simpa using hin
  have HR := Zh (HF.out.trans (if_pos hin0))
  rw [if_neg hin, errV_pos (by decide)]
  clear hin hin0
  go_wp2_with fail
  go_ret
  rw [HR.out]
  exact ⟨rfl, ClAt.less (K := [_]) H1.out⟩
 have HF1 := Zh (HF.out.trans (if_neg (by rw [hin]; decide)))
 rw [if_pos hin, errV_0]
 have HA := Zh (inB_iff.1 hin)
 clear hin HF
 go_wp2_with fail
 refine HCK.out.mono ?_
 clear HCK
 rintro en w2 ⟨rfl, hb2⟩
 have H2 := Zh (H1.out.below hb2)
 clear b0 b1 hl0 hb2 HX H1
 have b0 := H2.out.side.cell 0 rfl 0 rfl; have b1 := H2.out.side.cell 0 rfl 1 rfl; have hl0 := H2.out.side.lt 0 rfl
 by_cases hck : x.check = 0
 rotate_left
 ·have HR := Zh (HF1.out.trans (if_pos hck))
  have HZ := Lib.hid' hck
  rw [errV_pos hck]
  clear hck
  go_wp2_with fail
  go_ret
  rw [HR.out]
  exact ⟨by rw [errV_pos HZ.out]; rfl, ClAt.less (K := [_]) H2.out⟩
 have HF2 := Zh (HF1.out.trans (if_neg (by simp [hck])))
 rw [hck, errV_0]
 clear hck HF1
 go_upto_region 7 with fail
 go_cut [28] (fun v28 wc => v28 = .bool (decide (x.k ≠ 1 ∧ x.k ≠ 2)) ∧ wc = w2)
 case first =>
  by_cases hk1 : x.k = 1
  ·have hkb : (x.k != 1) = false := by simp [hk1]
   have hd : decide (x.k ≠ 1 ∧ x.k ≠ 2) = false := by simp [hk1]
   have HD := Lib.hid' hd
   clear hk1 hd
   go_wp2_with fail
   go_meet
   exact ⟨by rw [HD.out], rfl⟩
  ·have hkb : (x.k != 1) = true := by simpa using hk1
   have hd : decide (x.k ≠ 1 ∧ x.k ≠ 2) = (x.k != 2) := by rw [Bool.eq_iff_iff]; simp [hk1]
   have HD := Lib.hid' hd
   clear hk1 hd
   go_wp2_with fail
   go_meet
   exact ⟨by rw [HD.out], rfl⟩
 case rest =>
 obtain ⟨rfl, rfl⟩ := hcut
 by_cases hk : x.k ≠ 1 ∧ x.k ≠ 2
 ·have HR := Zh (HF2.out.trans (if_pos hk))
  rw [decide_eq_true hk]
  clear hk
  go_wp2_with fail
  go_ret
  rw [HR.out]
  exact ⟨rfl, ClAt.less (K := [_]) H2.out⟩
 have HR := Zh (HF2.out.trans (if_neg hk))
 rw [decide_eq_false hk]
 clear hk HF2
 go_upto_region 9 with fail
 refine startD (S := (fun w' => w'.cell? ⟨w.heap.size, 0, none⟩ = some (.int .i64 x.k) ∧ w'.cell? ⟨w.heap.size, 1, none⟩ = some (.slice xa x.d.length xc) ∧ w.heap.size < w'.heap.size)) (by kernel_rfl) ⟨b0, b1, hl0⟩ (fun hH0 => ?_)
 simp only [List.length_cons, List.length_nil, Nat.reduceAdd, List.replicate_succ, List.replicate_zero]
 refine tD 0 30 (.pointer (some ⟨c, 0, none⟩)) rfl rfl [(0, .pointer (some ⟨c, 0, none⟩))] hH0 ?_
 dsimp only [sZ, sS]
 refine tD 1 31 (.pointer (some ⟨c, 0, none⟩)) rfl rfl [(0, .pointer (some ⟨c, 0, none⟩))] hH0 ?_
 dsimp only [sZ, sS]
 refine tD 2 32 (.int .i64 a) rfl rfl [(1, .int .i64 a)] hH0 ?_
 dsimp only [sZ, sS]
 refine tD 4 34 (.int .i64 a) rfl rfl [(1, .int .i64 a)] hH0 ?_
 dsimp only [sZ, sS]
 refine tD 5 35 (.agg #[.int .i64 x.k, .slice xa x.d.length xc]) rfl rfl [(5, .pointer (some ⟨w.heap.size, 0, none⟩))] hH0 ?_
 dsimp only [sZ, sS]
 refine rD 3 rfl (fun K hK => ?_)
 go_simp
 refine (home_any a _ (H2.out.below (Below.refl _ _).drew) HOK.out HA.out.1).mono ?_
 rintro e w3 ⟨⟨⟨l, ya, yc⟩, hy, rfl, hyh⟩, hb3⟩
 have H3 := Zh ((H2.out.below (Below.refl _ _).drew).below hb3)
 have HY := Lib.hid' hy
 have HYH := Zh (show l = M.home a from hyh)
 have HHF := Zh (home_facts HOK.out (show l ∈ M.p.cs by rw [← show J.Ks.map (·.1) = M.p.cs from H2.out.csOf]; exact List.mem_map_of_mem (f := (·.1)) hy))
 rw [show chV (l, ya, yc) = .slice ya l.length yc from rfl]
 clear hy hyh hb3
 refine hK.out _ _ ?_ (fun hH1 => ?_)
 ·exact ⟨H3.out.side.cell 0 rfl 0 rfl, H3.out.side.cell 0 rfl 1 rfl, H3.out.side.lt 0 rfl⟩
 clear hK K
 try simp only [Act.put, gA, gZ, gS, sA, sZ, sS]
 refine rD 6 rfl (fun K hK => ?_)
 go_simp
 refine (spread_any (L := cellB1 w.heap.size x xa xc :: L) l ya yc a x xa xc _ HP.out H3.out HOK.out (by have := HHF.out.2.1; omega) HHF.out.2.2 HA.out.1 (by have := HA.out.2; omega) (fun M' w' h' => h'.chain HY.out) (fun M' w' h' => HB.out _ _ (ClAt.less (K := [_]) h'))).mono ?_
 rintro e w4 ⟨rfl, h4⟩
 rw [HYH.out] at h4 ⊢
 have H4 := Lib.hid' h4
 clear h4
 refine hK.out _ _ ?_ (fun hH2 => ?_)
 ·exact ⟨H4.out.side.cell 0 rfl 0 rfl, H4.out.side.cell 0 rfl 1 rfl, H4.out.side.lt 0 rfl⟩
 clear hK K
 try simp only [Act.put, gA, gZ, gS, sA, sZ, sS]
 refine tD 7 6 (errV (M.spread (M.home a) a x).1) rfl rfl [(36, errV (M.spread (M.home a) a x).1)] hH2 ?_
 dsimp only [sZ, sS]
 refine wpAnyH_done (by kernel_rfl) ?_ _
 clear b0 b1 hl0
 go_wp2_with fail
 go_ret
 rw [HR.out]
 exact ⟨rfl, ClAt.less (K := [_]) H4.out⟩
end SL
end Go.Proofs.YtcpkeddgkpjioaaGreatDoor

namespace Go.Proofs.YtcpkeddgkpjioaaGreatDoor
open Go.RowKit
namespace SL
open DK SH SQ
def Cl.units (M : Cl) : List Int := unitsOf M.p.all
theorem ClAt.chs {c : Nat} {M : Cl} {J : CJ} {L : List Asn} {W w : World} (h : ClAt c M J L W w) : Chs w J.a J.c J.Ks ∧ flatC J.Ks = M.p.all ∧ w.cell? ⟨c, 3, none⟩ = some (.slice J.a J.Ks.length J.c) := by
 have hch := fun y hy => h.chain (y := y) hy
 have hcs := h.csOf
 obtain ⟨P, rfl, hP, H⟩ := h
 exact ⟨⟨SlV.of_own (H.row 4 rfl), hch⟩, by unfold flatC Pj.all; rw [hcs], H.cell 0 rfl 3 rfl⟩
theorem flat_le {X : List (List Int)} (h : ∀ x ∈ X, x.length ≤ 4) : X.flatten.length ≤ 4 * X.length := by
 induction X with
 | nil => simp
 | cons x X ih =>
  rw [List.flatten_cons, List.length_append, List.length_cons]
  have h1 := h x List.mem_cons_self
  have h2 := ih (fun y hy => h y (List.mem_cons_of_mem _ hy))
  omega
theorem all_len {p : Pj} (h : PjOk p) : p.all.length ≤ 16 := by
 have h1 := flat_le (X := p.cs) (fun x hx => (h.each x hx).2)
 have h2 := h.n.2
 unfold Pj.all
 omega
theorem units_facts {M : Cl} (hok : M.ok) : M.units.length ≤ 16 ∧ ∀ u ∈ M.units, 0 ≤ u ∧ u < (M.us.length : Int) :=
 ⟨Nat.le_trans (unitsOf_len _) (all_len (pj_ok hok.proj)), fun u hu => hok.there u ((unitsOf_mem u _).1 hu)⟩
end SL
end Go.Proofs.YtcpkeddgkpjioaaGreatDoor

namespace Go.Proofs.YtcpkeddgkpjioaaGreatDoor
open Go.RowKit
namespace SL
open DK SH SQ
def Cl.has (M : Cl) (u : Int) : Nat := if inB u ((M.us.length : Int) - 1) = true then 0 else 1
/-- where the cluster has a unit's disk, and its shelf -/
theorem ClAt.rows {c : Nat} {M : Cl} {J : CJ} {L : List Asn} {W w : World} (h : ClAt c M J L W w) : ∃ a k, w.cell? ⟨c, 0, none⟩ = some (.slice a M.us.length k) ∧ c < w.heap.size := by
 obtain ⟨P, rfl, hP, H⟩ := h
 have h0 := H.row 2 rfl
 have hl : P.Us.length = M.us.length := by rw [← hP.us, List.length_map]
 obtain ⟨a, k, hv, _⟩ := SlV.of_own h0
 have c0 := H.cell 0 rfl 0 rfl
 rw [hv, hl] at c0
 exact ⟨a, k, c0, H.lt 0 rfl⟩
set_option maxHeartbeats 2000000 in
theorem has_any {c : Nat} {M : Cl} {J : CJ} {L : List Asn} {W : World} (u : Int) (w : World) (h : ClAt c M J L W w) (hm : M.us.length ≤ 8) :
  Calls Tryz.prog 72 #[ptrV c, .int .i64 u] w fun e w' => e = .returned (errV (M.has u)) ∧ w = w' := by
 obtain ⟨a, k, c0, hl⟩ := h.rows
 have HF := Zh (show M.has u = if inB u ((M.us.length : Int) - 1) = true then 0 else 1 from rfl)
 clear h
 generalize M.us.length = n at *
 go_enter Tryz.func72, Tryz.ntmps72
 go_wp2_with fail
 refine (in2_any u ((n : Int) - 1) _).mono ?_
 rintro en wz ⟨rfl, rfl⟩
 by_cases hin : inB u ((n : Int) - 1) = true
 ·rw [if_pos hin] at HF
  rw [hin]
  clear hin
  go_wp2_with fail
  go_ret
  rw [HF.out]
  exact ⟨rfl, rfl⟩
 ·rw [if_neg hin] at HF
  rw [show inB u ((n : Int) - 1) = false by simpa using hin]
  clear hin
  go_wp2_with fail
  go_ret
  rw [HF.out]
  exact ⟨rfl, rfl⟩
theorem unI_none {N : Nat} {Q : Option Nat} {D : Dk} {vs : PoolL} {K : List Asn} (h : unI N Q ⟨D, none⟩ vs K) : Q = none := by
 cases Q with
 | none => rfl
 | some q => exact (show False from h).elim
@[go_sem] theorem neq_shelf_nil (w : World) : (binOp .neq 127 (.pointer none) (.pointer none)).run Tryz.prog w = .ok (.bool false) w := by kernel_rfl
@[go_sem] theorem neq_shelf_ptr (b : Nat) (w : World) : (binOp .neq 127 (ptrV b) (.pointer none)).run Tryz.prog w = .ok (.bool true) w := by kernel_rfl
end SL
end Go.Proofs.YtcpkeddgkpjioaaGreatDoor

namespace Go.Proofs.YtcpkeddgkpjioaaGreatDoor
open Go.RowKit
namespace SL
open DK SH SQ
/-- a unit's epoch; none: 0 -/
def Cl.epochU (M : Cl) (u : Int) : Int := match M.us[u.toNat]? with
 | some ⟨_, some S⟩ => S.u.e
 | _ => 0
def Cl.maxE (M : Cl) (l : List Int) (e : Int) : Int := l.foldl (fun e u => max e (M.epochU u)) e
def Cl.later (M : Cl) (l : List Int) : Int := M.maxE l M.p.e + 1
end SL
end Go.Proofs.YtcpkeddgkpjioaaGreatDoor

namespace Go.Proofs.YtcpkeddgkpjioaaGreatDoor
open Go.RowKit
namespace SL
open DK SH SQ
/-- a unit that is on, apart -/
theorem ClAt.unitOf {c : Nat} {M : Cl} {J : CJ} {L : List Asn} {W w : World} (h : ClAt c M J L W w) {u : Nat} {D : Dk} {S : Sf} (hon : M.us[u]? = some ⟨D, some S⟩) : ∃ g n cap q, w.cell? ⟨c, 1, none⟩ = some (.slice (some ⟨g, 0, none⟩) n cap) ∧ u < n ∧ g < w.heap.size ∧ w.cell? ⟨g, u, none⟩ = some (ptrV q) ∧
  ∀ wq, Below w.heap.size w wq → Calls Tryz.prog 73 #[ptrV q] wq (fun e w' => ∃ bu bm us A, e = .returned (ptrV bu) ∧ ClAt c M J (.unit bu bm S.u us :: L) W w' ∧ UnitAt A w' bu bm S.u) := by
 obtain ⟨P, rfl, hP, H⟩ := h
 have hu : u < M.us.length := (List.getElem?_eq_some_iff.1 hon).1
 obtain ⟨y, hy, hus, ⟨g, n, cap, hsv, hun, hgl, hgc⟩, _⟩ := cl_at hP H hu
 have c1 := H.cell 0 rfl 1 rfl
 rw [hsv] at c1
 obtain ⟨N, Q, ⟨D', s⟩, G⟩ := y
 rw [hon] at hus
 cases hus
 obtain ⟨q, rfl⟩ : ∃ q, Q = some q := by
  cases Q with
  | some q => exact ⟨q, rfl⟩
  | none => have h2 := cl_off hy rfl H; cases h2
 obtain ⟨S', hS, hsh, hback⟩ := cl_on hP hy rfl H
 cases hS
 refine ⟨g, n, cap, q, c1, hun, hgl, hgc, fun wq hb => ?_⟩
 refine (kunit_any wq (hsh.below hb)).mono ?_
 rintro e w' ⟨bu, bm, us, rfl, hs, h2⟩
 have h3 := hback S D us w' [.unit bu bm S.u us] hs h2
 rw [show M.put u ⟨D, some S⟩ = M by unfold Cl.put; rw [set_same hon]] at h3
 obtain ⟨G1, G2, Z, h4⟩ := h2
 exact ⟨bu, bm, us, _, rfl, h3, Sep.unitAt (show Sep W NoF [Asn.unit bu bm S.u us, Asn.pool Z us] w' from h4.pick [3, 2] (by decide) rfl)⟩
/-- a unit's low mark; none: 0 -/
def Cl.lowU (M : Cl) (u : Int) : Int := match M.us[u.toNat]? with
 | some ⟨_, some S⟩ => S.u.l
 | _ => 0
theorem ClAt.permL {c : Nat} {M : Cl} {J : CJ} {L L' : List Asn} {W w : World} (h : ClAt c M J L W w) (hp : L.Perm L') : ClAt c M J L' W w := by
 obtain ⟨P, hJ, hP, H⟩ := h
 refine ⟨P, hJ, hP, H.perm ?_⟩
 unfold clL
 exact (((hp.append_left _).cons _).append_left _)
end SL
end Go.Proofs.YtcpkeddgkpjioaaGreatDoor

namespace Go.Proofs.YtcpkeddgkpjioaaGreatDoor
open Go.RowKit
namespace SL
open DK SH SQ
theorem nilsh_unit (w : World) : Calls Tryz.prog 73 #[.pointer none] w fun e w' => e = .returned (.pointer none) ∧ w = w' := by
 go_enter Tryz.func73, Tryz.ntmps73
 go_wp2_with fail
 go_ret
 exact ⟨rfl, rfl⟩
theorem nilun_low (w : World) : Calls Tryz.prog 38 #[.pointer none] w fun e w' => e = .returned (.int .i64 0) ∧ w = w' := by
 go_enter Tryz.func38, Tryz.ntmps38
 go_wp2_with fail
 go_ret
 exact ⟨rfl, rfl⟩
/-- a unit's copy, and its low mark -/
def UnitR (c : Nat) (M : Cl) (J : CJ) (L : List Asn) (W : World) (u : Int) (e : Ending) (w' : World) : Prop := ∃ v, e = .returned v ∧ ClAt c M J L W w' ∧ Calls Tryz.prog 38 #[v] w' (fun e w'' => e = .returned (.int .i64 (M.lowU u)) ∧ w' = w'')
set_option maxHeartbeats 4000000 in
theorem Unit_any {c : Nat} {M : Cl} {J : CJ} {L : List Asn} {W : World} (u : Int) (w : World) (h : ClAt c M J L W w) (hm : M.us.length ≤ 8) (hu : 0 ≤ u ∧ u < (M.us.length : Int)) :
  Calls Tryz.prog 37 #[ptrV c, .int .i64 u] w (UnitR c M J L W u) := by
 have HH := Zh (has_any u w h hm)
 obtain ⟨k, rfl⟩ : ∃ k : Nat, u = k := ⟨u.toNat, by omega⟩
 have hz : M.has (k : Int) = 0 := by unfold Cl.has; rw [if_pos (inB_iff.2 ⟨hu.1, by omega⟩)]
 rw [hz] at HH
 have hlt : k < M.us.length := by omega
 cases hus : M.us[k]? with
 | none => rw [List.getElem?_eq_none_iff] at hus; omega
 | some x =>
 obtain ⟨D, s⟩ := x
 cases s with
 | some S =>
  have hlo : M.lowU (k : Int) = S.u.l := by unfold Cl.lowU; rw [Int.toNat_natCast, hus]
  obtain ⟨g, n, cap, q, c1, hgn, hgl, hgc, HUN⟩ := h.unitOf hus
  have HUNh := Zh (HUN w (Below.refl _ _))
  have cl := h.c2.2
  have HLO := Lib.hid' hlo
  clear h hm hu hz hlt hus hlo HUN
  go_enter Tryz.func37, Tryz.ntmps37
  go_wp2_with fail
  refine HH.out.mono ?_
  rintro en wz ⟨rfl, rfl⟩
  rw [errV_0]
  go_wp2_with fail
  refine HUNh.out.mono ?_
  rintro en w2 ⟨bu, bm, us, A, rfl, h2, hU⟩
  have H2 := Zh (show UnitR c M J L W (k : Int) (.returned (ptrV bu)) w2 from ⟨_, rfl, ClAt.less (K := [_]) h2, by rw [HLO.out]; exact low_any w2 hU⟩)
  clear h2 hU HUNh c1 cl hgl hgc HH HLO
  go_wp2_with fail
  go_ret
  exact H2.out
 | none =>
  have hlo : M.lowU (k : Int) = 0 := by unfold Cl.lowU; rw [Int.toNat_natCast, hus]
  have H0 := Lib.hid' h
  obtain ⟨P, rfl, hP, H⟩ := h
  obtain ⟨y, hy, hus', ⟨g, n, cap, hsv, hun, hgl, hgc⟩, _⟩ := cl_at hP H hlt
  have c1 := H.cell 0 rfl 1 rfl; have cl := H.lt 0 rfl
  rw [hsv] at c1
  obtain ⟨N, Q, ⟨D', s⟩, G⟩ := y
  rw [hus] at hus'
  cases hus'
  obtain ⟨K, hI, _⟩ := (cl_pull hy H).unpack
  obtain rfl := unI_none hI
  have hgc2 : w.cell? ⟨g, k, none⟩ = some (.pointer none) := hgc
  have c12 : w.cell? ⟨c, 1, none⟩ = some (.slice (some ⟨g, 0, none⟩) n cap) := c1
  have HR := Zh (show UnitR c M P.J L W (k : Int) (.returned (.pointer none)) w from ⟨_, rfl, H0.out, by rw [hlo]; exact nilun_low w⟩)
  clear hm hu hz hlt hus hlo hP H hy hgc c1 hI H0 hsv
  go_enter Tryz.func37, Tryz.ntmps37
  go_wp2_with fail
  refine HH.out.mono ?_
  rintro en wz ⟨rfl, rfl⟩
  rw [errV_0]
  go_wp2_with fail
  refine (nilsh_unit _).mono ?_
  rintro en wz ⟨rfl, rfl⟩
  go_wp2_with fail
  go_ret
  exact HR.out
/-- a cluster's projection, apart, and its units -/
theorem Projection_any {c : Nat} {M : Cl} {J : CJ} {L : List Asn} {W : World} (w : World) (h : ClAt c M J L W w) (hok : M.ok) :
  Calls Tryz.prog 36 #[ptrV c] w fun en w' => ∃ a k Ks, en = .returned (.agg #[.int .i64 M.p.e, .slice a Ks.length k]) ∧ Chs w' a k Ks ∧ Ks.map (·.1) = M.p.cs ∧ Below w.heap.size w w' := by
 obtain ⟨hX, _, c3⟩ := h.chs
 obtain ⟨c2, cl⟩ := h.c2
 have hcs := h.csOf
 have hpj := pj_ok hok.proj
 have hn : J.Ks.length = M.p.cs.length := by rw [← hcs, List.length_map]
 have HC := Zh (fun wq (hb : Below w.heap.size w wq) => pcopy_any M.p.e J.a J.c J.Ks wq (hX.below (Nat.le_refl _) hb) (by have := hpj.n; omega) (fun x hx => by
  have := (hpj.each x.1 (by rw [← hcs]; exact List.mem_map_of_mem (f := (·.1)) hx)).2; omega))
 have hs1 : Sep w NoF [.box w.heap.size [.int .i64 0, .slice none 0 0] 68] (w.alloc (.cells #[.int .i64 0, .slice none 0 0] 68)) := (Sep.start w).allocAt w.heap.size [.int .i64 0, .slice none 0 0] 68 rfl
 obtain ⟨w1, hw1⟩ : ∃ w1, w.alloc (.cells #[.int .i64 0, .slice none 0 0] 68) = w1 := ⟨_, rfl⟩
 rw [hw1] at hs1
 have H1 := Zh (h.below hs1.toBelow)
 have HS := Lib.hid' hs1
 have HCS := Lib.hid' hcs
 clear h hX c3 c2 cl hcs hpj hn hs1 hok
 go_enter Tryz.func36, Tryz.ntmps36
 go_upto_region 1 with fail
 try rw [hw1]
 clear hw1
 obtain ⟨_, _, c3⟩ := H1.out.chs
 obtain ⟨c2, cl⟩ := H1.out.c2
 have sl := HS.out.lt 0 rfl
 go_wp2_with fail
 refine (HC.out _ HS.out.toBelow).mono ?_
 rintro en w2 ⟨a2, k2, K2, rfl, hJ2, hK2, hb2⟩
 rw [show pjV M.p.e a2 k2 K2 = .agg #[.int .i64 M.p.e, .slice a2 K2.length k2] from rfl]
 have HK := Zh (hK2.trans HCS.out)
 have HJ := Lib.hid' hJ2
 have hs2 := HS.out.below hb2
 have HS2 := Lib.hid' hs2
 have f0 := hs2.free 0 rfl 0; have f1 := hs2.free 0 rfl 1; have q0 := hs2.cell 0 rfl 0 rfl; have q1 := hs2.cell 0 rfl 1 rfl; have sl2 := hs2.lt 0 rfl
 clear hJ2 hK2 hb2 hs2 c3 c2 cl sl HC
 go_wp2_with fail
 have h3 := (HS2.out.set 0 rfl 0 (.int .i64 M.p.e)).set 0 rfl 1 (.slice a2 K2.length k2)
 have hf : Fr (fun k => k = w.heap.size) w2 ((w2.setCell ⟨w.heap.size, 0, none⟩ (.int .i64 M.p.e)).setCell ⟨w.heap.size, 1, none⟩ (.slice a2 K2.length k2)) := Fr.setH (Fr.setH (Fr.refl (fun k => k = w.heap.size) w2) (show (fun k => k = w.heap.size) w.heap.size from rfl) 0 _) (show (fun k => k = w.heap.size) w.heap.size from rfl) 1 _
 have hl := HS.out.lt 0 rfl
 have HX := Zh ((HJ.out.fr hf (fun k hk => by omega)).chs)
 have r0 := h3.cell 0 rfl 0 rfl; have r1 := h3.cell 0 rfl 1 rfl
 have HB := Lib.hid' h3.toBelow
 clear h3 hf hl q0 q1 f0 f1 sl2 HS2
 generalize (w2.setCell ⟨w.heap.size, 0, none⟩ (.int .i64 M.p.e)).setCell ⟨w.heap.size, 1, none⟩ (.slice a2 K2.length k2) = w4 at *
 refine bodyPost_ret (v := .agg #[.int .i64 M.p.e, .slice a2 K2.length k2]) (by simp [results, Tryz.results36, go_sem, r0, r1]) rfl ?_
 exact ⟨a2, k2, K2, rfl, HX.out, HK.out, HB.out⟩
theorem shin_any (x m : Int) (w : World) : Calls Tryz.prog 28 #[.int .i64 x, .int .i64 m] w fun e w' => e = .returned (.bool (inB x m)) ∧ w = w' := by
 have HB := Zh (show inB x m = (decide (0 ≤ x) && decide (x ≤ m)) from rfl)
 by_cases h0 : 0 ≤ x
 ·by_cases h1 : x ≤ m
  ·go_enter Tryz.func28, Tryz.ntmps28
   go_wp2
   go_ret
   rw [HB.out]
   exact ⟨by simp [h0, h1], rfl⟩
  ·go_enter Tryz.func28, Tryz.ntmps28
   go_wp2
   go_ret
   rw [HB.out]
   exact ⟨by simp [h0, h1], rfl⟩
 ·go_enter Tryz.func28, Tryz.ntmps28
  go_wp2
  go_ret
  rw [HB.out]
  exact ⟨by simp; omega, rfl⟩
/-- a shipper: its epoch, up to where all was applied -/
structure Sp where
 e : Int
 a : Int
abbrev _root_.Go.Proofs.YtcpkeddgkpjioaaGreatDoor.Asn.ship (s : Nat) (p : Sp) : Asn := .box s [.int .i64 p.e, .int .i64 p.a] 88
/-- a shipper is made -/
def NewSp (e a : Int) (w : World) (en : Ending) (w' : World) : Prop := if inB e 1099511627776 = false ∨ inB a 1048576 = false then en = .returned (.tuple #[.pointer none, errV 1]) ∧ w = w' else en = .returned (.tuple #[ptrV w.heap.size, .nilIface]) ∧ Sep w NoF [Asn.ship w.heap.size ⟨e, a⟩] w'
set_option maxHeartbeats 4000000 in
theorem snew_any (e a : Int) (w : World) : Calls Tryz.prog 7 #[.int .i64 e, .int .i64 a] w (NewSp e a w) := by
 have HN := fun en w' => Zh (show NewSp e a w en w' = if inB e 1099511627776 = false ∨ inB a 1048576 = false then en = .returned (.tuple #[.pointer none, errV 1]) ∧ w = w' else en = .returned (.tuple #[ptrV w.heap.size, .nilIface]) ∧ Sep w NoF [Asn.ship w.heap.size ⟨e, a⟩] w' from rfl)
 cases hi1 : inB e 1099511627776 with
 | false =>
  have HR := fun en w' => Zh ((HN en w').out.trans (if_pos (.inl hi1)))
  go_enter Tryz.func7, Tryz.ntmps7
  go_wp2_with (go_at_call 28; refine (shin_any _ _ _).mono ?_; rintro en w' ⟨rfl, rfl⟩)
  go_ret2
  rw [(HR _ _).out]
  exact ⟨rfl, rfl⟩
 | true =>
  cases hi2 : inB a 1048576 with
  | false =>
   have HR := fun en w' => Zh ((HN en w').out.trans (if_pos (.inr hi2)))
   go_enter Tryz.func7, Tryz.ntmps7
   go_wp2_with (go_at_call 28; refine (shin_any _ _ _).mono ?_; rintro en w' ⟨rfl, rfl⟩)
   go_ret2
   rw [(HR _ _).out]
   exact ⟨rfl, rfl⟩
  | true =>
   have HR := fun en w' => Zh ((HN en w').out.trans (if_neg (by rw [hi1, hi2]; decide)))
   have hs1 : Sep w NoF [.box w.heap.size [.int .i64 e, .int .i64 0] 88] (w.alloc (.cells #[.int .i64 e, .int .i64 0] 88)) := (Sep.start w).allocAt w.heap.size [.int .i64 e, .int .i64 0] 88 rfl
   have HS1 := Lib.hid' hs1
   have HS2 := Zh (hs1.set 0 rfl 1 (.int .i64 a))
   clear hs1
   go_enter Tryz.func7, Tryz.ntmps7
   go_upto_region 4 with (go_at_call 28; refine (shin_any _ _ _).mono ?_; rintro en w' ⟨rfl, rfl⟩)
   generalize w.alloc (.cells #[.int .i64 e, .int .i64 0] 88) = w1 at *
   generalize w.heap.size = N at *
   have sl := HS1.out.lt 0 rfl
   go_wp2_with fail
   refine (astore_any (o := 1) _ (HS1.out.cell 0 rfl 1 rfl) (HS1.out.free 0 rfl 1)).mono ?_
   rintro en w2 ⟨rfl, rfl⟩
   go_wp2_with fail
   go_ret2
   rw [(HR _ _).out]
   exact ⟨rfl, HS2.out⟩
theorem sacked_any {s : Nat} {a : Int} (w : World) (c1 : w.cell? ⟨s, 1, none⟩ = some (.int .i64 a)) (sl : s < w.heap.size) : Calls Tryz.prog 39 #[ptrV s] w fun e w' => e = .returned (.int .i64 a) ∧ w = w' := by
 have C1 := Lib.hid' c1
 clear c1
 go_enter Tryz.func39, Tryz.ntmps39
 go_wp2_with fail
 refine (aload_any (o := 1) _ C1.out).mono ?_
 rintro en wz ⟨rfl, rfl⟩
 go_wp2_with fail
 go_ret
 exact ⟨rfl, rfl⟩
/-- a receipt is taken -/
def takeSp (p : Sp) (e a : Int) : Nat × Sp := if inB a 1048576 = false then (1, p) else if e ≠ p.e then (7, p) else (0, if a ≤ p.a then p else ⟨p.e, a⟩)
set_option maxHeartbeats 8000000 in
theorem stake_any {c : Nat} {M : Cl} {J : CJ} {L : List Asn} {W : World} {s : Nat} (p : Sp) (e a : Int) (w : World) (h : ClAt c M J (Asn.ship s p :: L) W w) :
  Calls Tryz.prog 12 #[ptrV s, .agg #[.int .i64 e, .int .i64 a]] w fun en w' => en = .returned (errV (takeSp p e a).1) ∧ ClAt c M J (Asn.ship s (takeSp p e a).2 :: L) W w' := by
 have HT := Zh (show takeSp p e a = if inB a 1048576 = false then (1, p) else if e ≠ p.e then (7, p) else (0, if a ≤ p.a then p else ⟨p.e, a⟩) from rfl)
 have h1 := h.allocB w.heap.size [.int .i64 e, .int .i64 a] 49 rfl
 obtain ⟨w1, hw1⟩ : ∃ w1, w.alloc (.cells #[.int .i64 e, .int .i64 a] 49) = w1 := ⟨_, rfl⟩
 rw [show ([.int .i64 e, .int .i64 a] : List Value).toArray = #[.int .i64 e, .int .i64 a] from rfl, hw1] at h1
 have H1 := Lib.hid' h1
 obtain ⟨pe, pa⟩ := p
 clear h h1
 go_enter Tryz.func12, Tryz.ntmps12
 go_upto_region 1 with fail
 try rw [hw1]
 clear hw1
 have r0 := H1.out.side.cell 0 rfl 0 rfl; have r1 := H1.out.side.cell 0 rfl 1 rfl; have rl := H1.out.side.lt 0 rfl
 have s0 := H1.out.side.cell 1 rfl 0 rfl; have sl := H1.out.side.lt 1 rfl
 generalize w.heap.size = N at *
 cases hi1 : inB a 1048576 with
 | false =>
  have HR := Zh (HT.out.trans (if_pos hi1))
  clear HT
  go_wp2_with (go_at_call 28; refine (shin_any _ _ _).mono ?_; rintro en w' ⟨rfl, rfl⟩)
  go_ret
  rw [HR.out]
  exact ⟨rfl, ClAt.less (K := [_]) H1.out⟩
 | true =>
 have HT1 := Zh (HT.out.trans (if_neg (by rw [hi1]; decide)))
 clear HT
 by_cases he : e = pe
 rotate_left
 ·have HR := Zh (HT1.out.trans (if_pos he))
  clear HT1
  go_upto_region 5 with (go_at_call 28; refine (shin_any _ _ _).mono ?_; rintro en w' ⟨rfl, rfl⟩)
  refine startD (S := (fun w' => w'.cell? ⟨N, 0, none⟩ = some (.int .i64 e) ∧ w'.cell? ⟨s, 0, none⟩ = some (.int .i64 pe) ∧ N < w'.heap.size ∧ s < w'.heap.size)) (by kernel_rfl) ⟨r0, s0, rl, sl⟩ (fun hH0 => ?_)
  simp only [List.length_cons, List.length_nil, Nat.reduceAdd, List.replicate_succ, List.replicate_zero]
  refine tD 0 17 (.pointer (some ⟨N, 0, none⟩)) rfl rfl [(3, .pointer (some ⟨N, 0, none⟩))] hH0 ?_
  dsimp only [sZ, sS]
  refine tD 1 18 (.int .i64 e) rfl rfl [(17, .pointer (some ⟨N, 0, none⟩))] hH0 ?_
  dsimp only [sZ, sS]
  refine tD 2 19 (.pointer (some ⟨s, 0, none⟩)) rfl rfl [(0, .pointer (some ⟨s, 0, none⟩))] hH0 ?_
  dsimp only [sZ, sS]
  refine tD 3 20 (.pointer (some ⟨s, 0, none⟩)) rfl rfl [(19, .pointer (some ⟨s, 0, none⟩))] hH0 ?_
  dsimp only [sZ, sS]
  refine tD 4 21 (.pointer (some ⟨s, 0, none⟩)) rfl rfl [(20, .pointer (some ⟨s, 0, none⟩))] hH0 ?_
  dsimp only [sZ, sS]
  refine tD 5 22 (.int .i64 pe) rfl rfl [(21, .pointer (some ⟨s, 0, none⟩))] hH0 ?_
  dsimp only [sZ, sS]
  refine tD 6 23 (.bool true) rfl rfl [(18, .int .i64 e), (22, .int .i64 pe)] hH0 ?_
  dsimp only [sZ, sS]
  refine tD 7 16 (.bool true) rfl rfl [(23, .bool true)] hH0 ?_
  dsimp only [sZ, sS]
  refine wpAnyH_done (by kernel_rfl) ?_ _
  go_wp2_with fail
  go_ret
  rw [HR.out]
  exact ⟨rfl, ClAt.less (K := [_]) (H1.out.below (Below.refl _ _).drew)⟩
 subst he
 have HT2 := Zh (HT1.out.trans (if_neg (by simp)))
 clear HT1
 go_upto_region 5 with (go_at_call 28; refine (shin_any _ _ _).mono ?_; rintro en w' ⟨rfl, rfl⟩)
 refine startD (S := (fun w' => w'.cell? ⟨N, 0, none⟩ = some (.int .i64 e) ∧ w'.cell? ⟨s, 0, none⟩ = some (.int .i64 e) ∧ N < w'.heap.size ∧ s < w'.heap.size)) (by kernel_rfl) ⟨r0, s0, rl, sl⟩ (fun hH0 => ?_)
 simp only [List.length_cons, List.length_nil, Nat.reduceAdd, List.replicate_succ, List.replicate_zero]
 refine tD 0 17 (.pointer (some ⟨N, 0, none⟩)) rfl rfl [(3, .pointer (some ⟨N, 0, none⟩))] hH0 ?_
 dsimp only [sZ, sS]
 refine tD 1 18 (.int .i64 e) rfl rfl [(17, .pointer (some ⟨N, 0, none⟩))] hH0 ?_
 dsimp only [sZ, sS]
 refine tD 2 19 (.pointer (some ⟨s, 0, none⟩)) rfl rfl [(0, .pointer (some ⟨s, 0, none⟩))] hH0 ?_
 dsimp only [sZ, sS]
 refine tD 3 20 (.pointer (some ⟨s, 0, none⟩)) rfl rfl [(19, .pointer (some ⟨s, 0, none⟩))] hH0 ?_
 dsimp only [sZ, sS]
 refine tD 4 21 (.pointer (some ⟨s, 0, none⟩)) rfl rfl [(20, .pointer (some ⟨s, 0, none⟩))] hH0 ?_
 dsimp only [sZ, sS]
 refine tD 5 22 (.int .i64 e) rfl rfl [(21, .pointer (some ⟨s, 0, none⟩))] hH0 ?_
 dsimp only [sZ, sS]
 refine tD 6 23 (.bool false) rfl rfl [(18, .int .i64 e), (22, .int .i64 e)] hH0 ?_
 dsimp only [sZ, sS]
 refine tD 7 16 (.bool false) rfl rfl [(23, .bool false)] hH0 ?_
 dsimp only [sZ, sS]
 refine wpAnyH_done (by kernel_rfl) ?_ _
 have H2 := Zh (H1.out.below (Below.refl w1.heap.size w1).drew)
 clear r0 r1 rl s0 sl H1
 generalize w1.drew = w1 at *
 have r0 := H2.out.side.cell 0 rfl 0 rfl; have r1 := H2.out.side.cell 0 rfl 1 rfl; have rl := H2.out.side.lt 0 rfl
 have s0 := H2.out.side.cell 1 rfl 0 rfl; have sl := H2.out.side.lt 1 rfl
 have H1 := H2
 clear H2
 go_wp2_with fail
 go_loopw [] (fun wr => Hid (w1 = wr)) (fun _ => 0)
 case atStart => exact Lib.hid' rfl
 case round =>
  obtain rfl := hrel.out
  go_wp2_with (go_at_call 42; refine (aload_any (o := 1) _ (H1.out.side.cell 1 rfl 1 rfl)).mono ?_; rintro en w' ⟨rfl, rfl⟩)
  by_cases hle : a ≤ pa
  ·have HR := Zh (HT2.out.trans (by rw [if_pos hle]))
   clear HT2
   refine startD (S := (fun w' => w'.cell? ⟨N, 1, none⟩ = some (.int .i64 a) ∧ N < w'.heap.size)) (by kernel_rfl) ⟨r1, rl⟩ (fun hH0 => ?_)
   simp only [List.length_cons, List.length_nil, Nat.reduceAdd, List.replicate_succ, List.replicate_zero]
   refine tD 0 29 (.pointer (some ⟨N, 1, none⟩)) rfl rfl [(3, .pointer (some ⟨N, 0, none⟩))] hH0 ?_
   dsimp only [sZ, sS]
   refine tD 1 30 (.int .i64 a) rfl rfl [(29, .pointer (some ⟨N, 1, none⟩))] hH0 ?_
   dsimp only [sZ, sS]
   refine tD 2 31 (.int .i64 pa) rfl rfl [(5, .int .i64 pa)] hH0 ?_
   dsimp only [sZ, sS]
   refine tD 3 32 (.bool true) rfl rfl [(30, .int .i64 a), (31, .int .i64 pa)] hH0 ?_
   dsimp only [sZ, sS]
   refine tD 4 33 (.bool true) rfl rfl [(32, .bool true)] hH0 ?_
   dsimp only [sZ, sS]
   refine takeD (i := 5) (d := 34) (v := undef) rfl rfl (by kernel_rfl) (by kernel_rfl) (by kernel_rfl) (fun _ _ _ h => h) (Or.inr ⟨by kernel_rfl, rfl⟩) hH0 ?_
   dsimp only [sZ, sS]
   refine takeD (i := 6) (d := 35) (v := undef) rfl rfl (by kernel_rfl) (by kernel_rfl) (by kernel_rfl) (fun _ _ _ h => h) (Or.inr ⟨by kernel_rfl, rfl⟩) hH0 ?_
   dsimp only [sZ, sS]
   refine takeD (i := 7) (d := 36) (v := undef) rfl rfl (by kernel_rfl) (by kernel_rfl) (by kernel_rfl) (fun _ _ _ h => h) (Or.inr ⟨by kernel_rfl, rfl⟩) hH0 ?_
   dsimp only [sZ, sS]
   refine takeD (i := 8) (d := 37) (v := undef) rfl rfl (by kernel_rfl) (by kernel_rfl) (by kernel_rfl) (fun _ _ _ h => h) (Or.inr ⟨by kernel_rfl, rfl⟩) hH0 ?_
   dsimp only [sZ, sS]
   refine takeD (i := 9) (d := 38) (v := undef) rfl rfl (by kernel_rfl) (by kernel_rfl) (by kernel_rfl) (fun _ _ _ h => h) (Or.inr ⟨by kernel_rfl, rfl⟩) hH0 ?_
   dsimp only [sZ, sS]
   refine takeD (i := 10) (d := 39) (v := undef) rfl rfl (by kernel_rfl) (by kernel_rfl) (by kernel_rfl) (fun _ _ _ h => h) (Or.inr ⟨by kernel_rfl, rfl⟩) hH0 ?_
   dsimp only [sZ, sS]
   refine takeD (i := 11) (d := 40) (v := undef) rfl rfl (by kernel_rfl) (by kernel_rfl) (by kernel_rfl) (fun _ _ _ h => h) (Or.inr ⟨by kernel_rfl, rfl⟩) hH0 ?_
   dsimp only [sZ, sS]
   refine tD 12 41 (.bool true) rfl rfl [(33, .bool true), (40, undef)] hH0 ?_
   dsimp only [sZ, sS]
   refine wpAnyH_done (by kernel_rfl) ?_ _
   go_wp2_with fail
   go_ret
   rw [HR.out]
   exact ⟨rfl, ClAt.less (K := [_]) (H1.out.below (Below.refl _ _).drew)⟩
  ·have HR := Zh (HT2.out.trans (by rw [if_neg hle]))
   clear HT2
   have H3 := Zh (H1.out.below (Below.refl w1.heap.size w1).drew)
   refine startD (S := (fun w' => w'.cell? ⟨N, 1, none⟩ = some (.int .i64 a) ∧ N < w'.heap.size)) (by kernel_rfl) ⟨r1, rl⟩ (fun hH0 => ?_)
   simp only [List.length_cons, List.length_nil, Nat.reduceAdd, List.replicate_succ, List.replicate_zero]
   refine tD 0 29 (.pointer (some ⟨N, 1, none⟩)) rfl rfl [(3, .pointer (some ⟨N, 0, none⟩))] hH0 ?_
   dsimp only [sZ, sS]
   refine tD 1 30 (.int .i64 a) rfl rfl [(29, .pointer (some ⟨N, 1, none⟩))] hH0 ?_
   dsimp only [sZ, sS]
   refine tD 2 31 (.int .i64 pa) rfl rfl [(5, .int .i64 pa)] hH0 ?_
   dsimp only [sZ, sS]
   refine tD 3 32 (.bool false) rfl rfl [(30, .int .i64 a), (31, .int .i64 pa)] hH0 ?_
   dsimp only [sZ, sS]
   refine tD 4 33 (.bool false) rfl rfl [(32, .bool false)] hH0 ?_
   dsimp only [sZ, sS]
   refine tD 5 34 (.pointer (some ⟨s, 0, none⟩)) rfl rfl [(0, .pointer (some ⟨s, 0, none⟩))] hH0 ?_
   dsimp only [sZ, sS]
   refine tD 6 35 (.pointer (some ⟨s, 0, none⟩)) rfl rfl [(34, .pointer (some ⟨s, 0, none⟩))] hH0 ?_
   dsimp only [sZ, sS]
   refine tD 7 36 (.pointer (some ⟨s, 1, none⟩)) rfl rfl [(35, .pointer (some ⟨s, 0, none⟩))] hH0 ?_
   dsimp only [sZ, sS]
   refine tD 8 37 (.int .i64 pa) rfl rfl [(5, .int .i64 pa)] hH0 ?_
   dsimp only [sZ, sS]
   refine tD 9 38 (.pointer (some ⟨N, 1, none⟩)) rfl rfl [(3, .pointer (some ⟨N, 0, none⟩))] hH0 ?_
   dsimp only [sZ, sS]
   refine tD 10 39 (.int .i64 a) rfl rfl [(38, .pointer (some ⟨N, 1, none⟩))] hH0 ?_
   dsimp only [sZ, sS]
   refine rD 11 rfl (fun K hK => ?_)
   go_simp
   refine (acas_any (o := 1) _ (H3.out.side.cell 1 rfl 1 rfl) (H3.out.side.free 1 rfl 1)).mono ?_
   rintro en w5 ⟨rfl, rfl⟩
   have H5 := Zh ((H3.out.swapB.setB 1 (.int .i64 a)).swapB)
   refine hK.out _ _ ?_ (fun hH1 => ?_)
   ·exact ⟨H5.out.side.cell 0 rfl 1 rfl, H5.out.side.lt 0 rfl⟩
   clear hK K
   try simp only [Act.put, gA, gZ, gS, sA, sZ, sS]
   refine tD 12 41 (.bool true) rfl rfl [(33, .bool false), (40, .bool true)] hH1 ?_
   dsimp only [sZ, sS]
   refine wpAnyH_done (by kernel_rfl) ?_ _
   go_wp2_with fail
   go_ret
   rw [HR.out]
   exact ⟨rfl, ClAt.less (K := [_]) H5.out⟩
end SL
end Go.Proofs.YtcpkeddgkpjioaaGreatDoor

namespace Go.Proofs.YtcpkeddgkpjioaaGreatDoor
open Go.RowKit
namespace SL
open DK SH SQ
/-- what a cluster goes on with, in its box -/
structure Bd where
 e : Int
 J : CJ
 sa : Option Addr
 sc : Nat
 st : List Int
 low : Int
/-- what a rebuilding's walk leans on: the rows of what comes next, and of what stays -/
structure BdOk (c : Nat) (n : Nat) (J : CJ) (L : List Asn) (W : World) (b : Bd) : Prop where
 ch : ∀ M' w', ClAt c M' J L W w' → Chs w' b.J.a b.J.c b.J.Ks
 st : ∀ M' w', ClAt c M' J L W w' → Zs w' (.slice b.sa b.st.length b.sc) b.st
 pj : PjOk ⟨b.e, b.J.Ks.map (·.1)⟩
 us : ∀ u ∈ (⟨b.e, b.J.Ks.map (·.1)⟩ : Pj).all, 0 ≤ u ∧ u < (n : Int)
def Bd.units (b : Bd) : List Int := unitsOf (⟨b.e, b.J.Ks.map (·.1)⟩ : Pj).all
theorem BdOk.uf {c n : Nat} {J : CJ} {L : List Asn} {W : World} {b : Bd} (h : BdOk c n J L W b) : b.units.length ≤ 16 ∧ ∀ u ∈ b.units, 0 ≤ u ∧ u < (n : Int) :=
 ⟨Nat.le_trans (unitsOf_len _) (all_len h.pj), fun u hu => h.us u ((unitsOf_mem u _).1 hu)⟩
end SL
end Go.Proofs.YtcpkeddgkpjioaaGreatDoor

namespace Go.Proofs.YtcpkeddgkpjioaaGreatDoor
open Go.RowKit
namespace SL
open DK SH SQ
/-- cells of chains' units that stay: each address's first one -/
def addCell (s : List (Int × C)) (p : Int × C) : List (Int × C) := if s.any (fun q => q.1 == p.1) = true then s else s ++ [p]
def Cl.unitU (M : Cl) (u : Int) : U := match M.us[u.toNat]? with
 | some ⟨_, some S⟩ => S.u
 | _ => ⟨0, 0, []⟩
def cellsStep (M : Cl) (st : List Int) (s : List (Int × C)) (u : Int) : List (Int × C) := if st.any (fun y => u == y) = true then (sortC (M.unitU u).cells).foldl addCell s else s
def Cl.cells (M : Cl) (st chain : List Int) : List (Int × C) := chain.foldl (cellsStep M st) []
end SL
end Go.Proofs.YtcpkeddgkpjioaaGreatDoor

namespace Go.Proofs.YtcpkeddgkpjioaaGreatDoor
open Go.RowKit
namespace SL
open DK SH SQ
theorem ClAt.front {c : Nat} {M : Cl} {J : CJ} {K L : List Asn} {W w : World} (h : ClAt c M J (K ++ L) W w) : ∃ P, P.J = J ∧ ClOK M P ∧ Sep W NoF (K ++ clL c M P L) w := by
 obtain ⟨P, hJ, hP, H⟩ := h
 refine ⟨P, hJ, hP, H.perm ?_⟩
 have e1 : ∀ L, clL c M P L = (clK c M P ++ (Asn.pool P.Z P.vs :: P.Us.map (unA P.vs))) ++ L := fun L => by unfold clL; simp
 rw [e1 L, e1 (K ++ L)]
 exact List.perm_append_comm_assoc _ _ _
theorem ClAt.unfront {c : Nat} {M : Cl} {P : ClP} {K L : List Asn} {W w : World} (hP : ClOK M P) (h : Sep W NoF (K ++ clL c M P L) w) : ClAt c M P.J (K ++ L) W w := by
 refine ⟨P, rfl, hP, h.perm ?_⟩
 have e1 : ∀ L, clL c M P L = (clK c M P ++ (Asn.pool P.Z P.vs :: P.Us.map (unA P.vs))) ++ L := fun L => by unfold clL; simp
 rw [e1 L, e1 (K ++ L)]
 exact List.perm_append_comm_assoc _ _ _
end SL
end Go.Proofs.YtcpkeddgkpjioaaGreatDoor

namespace Go.Proofs.YtcpkeddgkpjioaaGreatDoor
open Go.RowKit
namespace SL
open DK SH SQ
/-- a cell, with where its data lie -/
structure CE where
 c : C
 a : Option Addr
 k : Nat
def ceV (x : CE) : List Value := [.int .i64 x.c.k, .slice x.a x.c.d.length x.k]
abbrev ceA (x : CE) : Asn := .row 5 1 (.slice x.a x.c.d.length x.k) x.c.d.length (byteVs x.c.d)
structure CEs (w : World) (a : Option Addr) (k : Nat) (X : List CE) : Prop where
 row : SlV w (.slice a X.length k) X.length (X.flatMap ceV)
 each : ∀ x ∈ X, Bytes w (.slice x.a x.c.d.length x.k) x.c.d
theorem CEs.below {w w' : World} {a : Option Addr} {k : Nat} {X : List CE} (h : CEs w a k X) (hb : Below w.heap.size w w') : CEs w' a k X := ⟨SlV.below h.row (Nat.le_refl _) hb, fun x hx => SlV.below (h.each x hx) (Nat.le_refl _) hb⟩
theorem etCells : ElemT Tryz.prog 22 36 2 32 := ElemT.mk' (z := .agg #[.int .i64 0, .slice none 0 0]) Tryz.underlying22 (by kernel_rfl) rfl (by decide) (by decide)
/-- a row of cells that the call itself has laid, as parts -/
abbrev ceR (X : List CE) (a : Option Addr) (k : Nat) : Asn := .row 36 2 (.slice a X.length k) X.length (X.flatMap ceV)
/-- the least low mark of units -/
def minLow (M : Cl) (l : List Int) (t : Int) : Int := l.foldl (fun t u => min t (M.lowU u)) t
/-- cells from an address on, so many, up to the first empty one; an error's number -/
def nextR (M : Cl) : Nat → Int → List C → Nat × List C
 | 0, _, X => (0, X)
 | k + 1, a, X => if (M.read a).1 ≠ 0 then ((M.read a).1, X) else if (M.read a).2.k = 0 then (0, X) else nextR M k (a + 1) (X ++ [(M.read a).2])
theorem nextR_err {M : Cl} {k : Nat} {a : Int} {X : List C} (h : (M.read a).1 ≠ 0) : nextR M (k + 1) a X = ((M.read a).1, X) := by show (if _ then _ else _) = _; rw [if_pos h]
theorem nextR_end {M : Cl} {k : Nat} {a : Int} {X : List C} (h : (M.read a).1 = 0) (h2 : (M.read a).2.k = 0) : nextR M (k + 1) a X = (0, X) := by show (if _ then _ else _) = _; rw [if_neg (by rw [h]; decide), if_pos h2]
theorem nextR_on {M : Cl} {k : Nat} {a : Int} {X : List C} (h : (M.read a).1 = 0) (h2 : (M.read a).2.k ≠ 0) : nextR M (k + 1) a X = nextR M k (a + 1) (X ++ [(M.read a).2]) := by show (if _ then _ else _) = _; rw [if_neg (by rw [h]; decide), if_neg h2]
def many64 (f t : Int) : Nat := (min (f + 64) t - f).toNat
/-- the next parcel: an error's number, its mark, its cells -/
def nextS (M : Cl) (f : Int) : Nat × Int × List C := if M.tail.1 ≠ 0 then (M.tail.1, 0, []) else
 if (nextR M (many64 f M.tail.2) f []).1 ≠ 0 then ((nextR M (many64 f M.tail.2) f []).1, 0, []) else (0, minLow M M.units 1048576, (nextR M (many64 f M.tail.2) f []).2)
abbrev pclV (e t f : Int) (a : Option Addr) (n k : Nat) : Value := .agg #[.int .i64 e, .int .i64 t, .int .i64 f, .slice a n k]
def NextR (c : Nat) (M : Cl) (J : CJ) (L : List Asn) (W : World) (s : Nat) (p : Sp) (en : Ending) (w' : World) : Prop := ∃ r, nextS M p.a = r ∧
 ((r.1 ≠ 0 ∧ en = .returned (.tuple #[pclV 0 0 0 none 0 0, errV r.1]) ∧ ClAt c M J (Asn.ship s p :: L) W w') ∨
  (r.1 = 0 ∧ ∃ a k X, en = .returned (.tuple #[pclV p.e r.2.1 p.a a X.length k, .nilIface]) ∧ ClAt c M J (ceR X a k :: Asn.all (X.map ceA) :: Asn.ship s p :: L) W w' ∧ X.map (·.c) = r.2.2))
theorem stail_any {c s : Nat} {M : Cl} {J : CJ} {L : List Asn} {W : World} (w : World) (h : ClAt c M J L W w) (sl : s < w.heap.size) :
  Calls Tryz.prog 35 #[ptrV s, ptrV c] w fun en w' => en = .returned (.tuple #[.int .i64 M.tail.2, errV M.tail.1]) ∧ ClAt c M J L W w' := by
 have HT := Zh (ctail_any w h)
 clear h
 go_enter Tryz.func35, Tryz.ntmps35
 go_wp2_with fail
 refine HT.out.mono ?_
 rintro en wz ⟨rfl, hz⟩
 have HZ := Lib.hid' hz
 clear hz
 go_wp2_with fail
 go_ret2
 exact ⟨rfl, HZ.out⟩
theorem ClAt.focus {c : Nat} {M : Cl} {J : CJ} {L : List Asn} {W w : World} {A : Asn} (h : ClAt c M J L W w) (i : Nat) (hi : L[i]? = some A) : ClAt c M J (A :: L.eraseIdx i) W w := h.permL (perm_get hi)
theorem ClAt.noCells {c : Nat} {M : Cl} {J : CJ} {L : List Asn} {W w : World} (h : ClAt c M J L W w) : ClAt c M J (ceR [] none 0 :: Asn.all (([] : List CE).map ceA) :: L) W w := by
 obtain ⟨P, rfl, hP, H⟩ := ClAt.front (K := []) h
 exact ClAt.unfront (K := [_, _]) hP ((Sep.none ceA H).nilRow 36 2)
set_option maxHeartbeats 16000000 in
theorem next_any {c s : Nat} {M : Cl} {J : CJ} {L : List Asn} {W : World} (p : Sp) (w : World) (h : ClAt c M J (Asn.ship s p :: L) W w) (hok : M.ok) (hp : 0 ≤ p.a ∧ p.a ≤ 1048576) :
  Calls Tryz.prog 9 #[ptrV s, ptrV c] w (NextR c M J L W s p) := by
 have HOK := Lib.hid' hok
 have HS := Zh (show nextS M p.a = if M.tail.1 ≠ 0 then (M.tail.1, 0, []) else
  if (nextR M (many64 p.a M.tail.2) p.a []).1 ≠ 0 then ((nextR M (many64 p.a M.tail.2) p.a []).1, 0, []) else (0, minLow M M.units 1048576, (nextR M (many64 p.a M.tail.2) p.a []).2) from rfl)
 have HUF := Zh (units_facts hok)
 have hq : M.tail.1 = 0 → 0 ≤ M.tail.2 ∧ M.tail.2 ≤ 1048576 := by
  intro h0
  have e1 : M.tail.2 = M.q.n := by
   unfold Cl.tail Q.tail at h0 ⊢
   split at h0
   ·rename_i hz; exact absurd h0 hz
   ·rename_i hz; rw [if_neg hz]
  rw [e1]; exact hok.seq.n
 have HQ := Lib.hid' hq
 clear hq
 obtain ⟨pe, pa⟩ := p
 simp only at hp HS
 obtain ⟨NR, hNR⟩ : ∃ n, w.heap.size = n := ⟨_, rfl⟩
 have h1 := h.allocB NR [.int .i64 0, .int .i64 0, .int .i64 0, .slice none 0 0] 41 hNR
 obtain ⟨w1, hw1⟩ : ∃ w1, w.alloc (.cells #[.int .i64 0, .int .i64 0, .int .i64 0, .slice none 0 0] 41) = w1 := ⟨_, rfl⟩
 rw [show ([.int .i64 0, .int .i64 0, .int .i64 0, .slice none 0 0] : List Value).toArray = #[.int .i64 0, .int .i64 0, .int .i64 0, .slice none 0 0] from rfl, hw1] at h1
 have H1 := Lib.hid' h1
 have HT := Zh (stail_any w1 h1 (h1.side.lt 1 rfl))
 clear h h1 hok
 generalize M.tail = T at *
 obtain ⟨tz, tl⟩ := T
 simp only at HT HS HQ
 go_enter Tryz.func9, Tryz.ntmps9
 go_upto_region 1 with fail
 try rw [hw1]
 try rw [hNR]
 clear hw1 hNR
 have s0 := H1.out.side.cell 1 rfl 0 rfl; have sl := H1.out.side.lt 1 rfl
 clear H1
 go_wp2_with fail
 refine HT.out.mono ?_
 rintro en w1b ⟨rfl, h1b⟩
 have H1 := Lib.hid' h1b
 clear HT h1b s0 sl
 generalize w1b = w1 at *
 have s0 := H1.out.side.cell 1 rfl 0 rfl; have sl := H1.out.side.lt 1 rfl
 by_cases hz : tz = 0
 rotate_left
 ·have HR := Zh (HS.out.trans (if_pos hz))
  rw [errV_pos hz]
  have HZ := Lib.hid' hz
  have y0 := H1.out.side.cell 0 rfl 0 rfl; have y1 := H1.out.side.cell 0 rfl 1 rfl; have y2 := H1.out.side.cell 0 rfl 2 rfl; have y3 := H1.out.side.cell 0 rfl 3 rfl; have r0 := H1.out.side.free 0 rfl 0; have r1 := H1.out.side.free 0 rfl 1; have r2 := H1.out.side.free 0 rfl 2; have r3 := H1.out.side.free 0 rfl 3; have rl := H1.out.side.lt 0 rfl
  have H2 := Zh ((((H1.out.setB 0 (.int .i64 0)).setB 1 (.int .i64 0)).setB 2 (.int .i64 0)).setB 3 (.slice none 0 0))
  clear hz HS HQ
  go_wp2_with fail
  have k0 := H2.out.side.cell 0 rfl 0 rfl; have k1 := H2.out.side.cell 0 rfl 1 rfl; have k2 := H2.out.side.cell 0 rfl 2 rfl; have k3 := H2.out.side.cell 0 rfl 3 rfl
  generalize (((w1.setCell ⟨NR, 0, none⟩ (.int .i64 0)).setCell ⟨NR, 1, none⟩ (.int .i64 0)).setCell ⟨NR, 2, none⟩ (.int .i64 0)).setCell ⟨NR, 3, none⟩ (.slice none 0 0) = w2 at *
  refine bodyPost_ret (v := .tuple #[pclV 0 0 0 none 0 0, .iface 69 (.int .i64 tz)]) (by simp [results, Tryz.results9, go_sem, k0, k1, k2, k3]) rfl ?_
  exact ⟨_, rfl, .inl ⟨by rw [HR.out]; exact HZ.out, by rw [HR.out, errV_pos HZ.out], ClAt.less (K := [_]) H2.out⟩⟩
 subst hz
 have HS1 := Zh (HS.out.trans (if_neg (by simp)))
 obtain ⟨ht0, ht1⟩ := HQ.out rfl
 rw [errV_0]
 clear HS HQ
 go_upto_region 5 with fail
 have h2 := H1.out.allocB w1.heap.size [.int .i64 pe, .int .i64 1048576, .int .i64 0, .slice none 0 0] 41 rfl
 rw [show ([.int .i64 pe, .int .i64 1048576, .int .i64 0, .slice none 0 0] : List Value).toArray = #[.int .i64 pe, .int .i64 1048576, .int .i64 0, .slice none 0 0] from rfl] at h2
 clear s0 sl H1
 generalize w1.alloc (.cells #[.int .i64 pe, .int .i64 1048576, .int .i64 0, .slice none 0 0] 41) = w2 at *
 generalize w1.heap.size = NP at *
 have H2 := Lib.hid' h2
 have HPJ := Zh (Projection_any w2 h2 HOK.out)
 clear h2
 go_wp2_with fail
 refine HPJ.out.mono ?_
 clear HPJ
 rintro en w3 ⟨a3, k3, X3, rfl, hX3, hc3, hb3⟩
 have hall : flatC X3 = M.p.all := by show (X3.map (·.1)).flatten = _; rw [hc3]; rfl
 have HUN := Zh (punits_any M.p.e a3 k3 X3 w3 hX3 (by rw [hall]; have := all_len (pj_ok HOK.out.proj); omega))
 rw [show pjV M.p.e a3 k3 X3 = .agg #[.int .i64 M.p.e, .slice a3 X3.length k3] from rfl] at HUN
 have H3 := Zh (H2.out.below hb3)
 have HALL := Lib.hid' hall
 clear hX3 hc3 hb3 H2 hall
 go_wp2_with fail
 refine HUN.out.mono ?_
 clear HUN
 rintro en w4 ⟨ua, uc, rfl, ho4, hb4⟩
 rw [HALL.out] at ho4 ⊢
 rw [show unitsOf M.p.all = M.units from rfl] at ho4 ⊢
 have H4 := Zh (H3.out.belowRow hb4 ho4)
 clear ho4 hb4 H3 HALL
 have hul := HUF.out.1
 go_wp2_with fail
 go_loopw [34] (fun v34 wr => ∃ (k : Nat) (t : Int), v34 = .int .i64 k ∧ k ≤ M.units.length ∧ Hid (minLow M (M.units.take k) 1048576 = t) ∧ Hid (ClAt c M J (.row 3 1 (.slice ua M.units.length uc) M.units.length (zVs M.units) :: .box NP [.int .i64 pe, .int .i64 t, .int .i64 0, .slice none 0 0] 41 :: .box NR [.int .i64 0, .int .i64 0, .int .i64 0, .slice none 0 0] 41 :: Asn.ship s ⟨pe, pa⟩ :: L) W wr)) (fun v34 _ => M.units.length - (intOf v34).toNat)
 case atStart => exact ⟨0, 1048576, rfl, Nat.zero_le _, Lib.hid' rfl, H4⟩
 case round =>
  clear H4
  obtain ⟨k, t, rfl, hk, HT, HQ⟩ := hrel
  by_cases hlt : k < M.units.length
  ·obtain ⟨b, off, rfl, hb, hc⟩ := (show Zs wr (.slice ua M.units.length uc) M.units from SlV.of_own (HQ.out.side.row 0 rfl)).at hlt
   have HUI := Zh (HUF.out.2 _ (List.getElem_mem hlt))
   have HTK := Zh (take_succ M.units k hlt)
   have HM8 := Lib.hid' HOK.out.many
   have q1 := HQ.out.side.cell 1 rfl 1 rfl; have ql := HQ.out.side.lt 1 rfl
   generalize M.units[k] = u at *
   go_upto_region 8 with fail
   clear hb hc
   refine startD (S := (fun w' => NP < w'.heap.size)) (by kernel_rfl) ql (fun hH0 => ?_)
   simp only [List.length_cons, List.length_nil, Nat.reduceAdd, List.replicate_succ, List.replicate_zero]
   refine tD 0 38 (.pointer (some ⟨NP, 1, none⟩)) rfl rfl [(8, .pointer (some ⟨NP, 0, none⟩))] hH0 ?_
   dsimp only [sZ, sS]
   refine tD 2 40 (.pointer (some ⟨c, 0, none⟩)) rfl rfl [(1, .pointer (some ⟨c, 0, none⟩))] hH0 ?_
   dsimp only [sZ, sS]
   refine tD 3 41 (.int .i64 u) rfl rfl [(10, .int .i64 u)] hH0 ?_
   dsimp only [sZ, sS]
   refine wpAnyH_ready (rs := [1, 4]) (by kernel_rfl) (by simp) (AllReadyH.cons (o := _) rfl (fun K hK => ?_) (AllReadyH.cons (o := _) rfl (fun K hK => ?_) AllReadyH.nil))
   ·skip
    go_simp
    refine hK.out _ _ ?_ (fun hH1 => ?_)
    ·exact hH0
    clear hK K
    try simp only [Act.put, gA, gZ, gS, sA, sZ, sS]
    refine rD 4 rfl (fun K hK => ?_)
    go_simp
    have HB8 := Zh (HQ.out.below (Below.refl wr.heap.size wr).drew)
    refine (Unit_any u _ HB8.out HM8.out HUI.out).mono ?_
    rintro en w5 ⟨uv, rfl, h5, hl5⟩
    have H5 := Lib.hid' h5
    have HL5 := Lib.hid' hl5
    clear h5 hl5
    have q15 := H5.out.side.cell 1 rfl 1 rfl; have ql5 := H5.out.side.lt 1 rfl; have qf5 := H5.out.side.free 1 rfl 1
    refine hK.out _ _ ?_ (fun hH2 => ?_)
    ·exact ql5
    clear hK K
    try simp only [Act.put, gA, gZ, gS, sA, sZ, sS]
    refine rD 5 rfl (fun K hK => ?_)
    go_simp
    refine HL5.out.mono ?_
    rintro en wz ⟨rfl, rfl⟩
    refine hK.out _ _ ?_ (fun hH3 => ?_)
    ·exact ql5
    clear hK K
    try simp only [Act.put, gA, gZ, gS, sA, sZ, sS]
    refine rD 6 rfl (fun K hK => ?_)
    go_simp
    refine hK.out _ _ ?_ (fun hH4 => ?_)
    ·exact hH3
    clear hK K
    try simp only [Act.put, gA, gZ, gS, sA, sZ, sS]
    refine tD 7 45 (.pointer (some ⟨NP, 1, none⟩)) rfl rfl [(8, .pointer (some ⟨NP, 0, none⟩))] hH4 ?_
    dsimp only [sZ, sS]
    refine rD 8 rfl (fun K hK => ?_)
    go_simp
    have H6 := Zh ((H5.out.swapB.setB 1 (.int .i64 (min t (M.lowU u)))).swapB)
    refine hK.out _ _ ?_ (fun hH5 => ?_)
    ·exact H6.out.side.lt 1 rfl
    clear hK K
    refine wpAnyH_done (by kernel_rfl) ?_ _
    clear HL5 H5 HB8 HQ
    go_wp2_with fail
    go_roundw
    case rel => exact ⟨k + 1, min t (M.lowU u), by go_num, by omega, Zh (by rw [HTK.out]; unfold minLow; rw [List.foldl_append, show List.foldl (fun t u => min t (M.lowU u)) 1048576 (M.units.take k) = t from HT.out]; rfl), H6⟩
    case measure => simp [intOf]; omega
   ·skip
    go_simp
    have HB8 := Zh (HQ.out.below (Below.refl wr.heap.size wr).drew)
    refine (Unit_any u _ HB8.out HM8.out HUI.out).mono ?_
    rintro en w5 ⟨uv, rfl, h5, hl5⟩
    have H5 := Lib.hid' h5
    have HL5 := Lib.hid' hl5
    clear h5 hl5
    have q15 := H5.out.side.cell 1 rfl 1 rfl; have ql5 := H5.out.side.lt 1 rfl; have qf5 := H5.out.side.free 1 rfl 1
    refine hK.out _ _ ?_ (fun hH1 => ?_)
    ·exact ql5
    clear hK K
    try simp only [Act.put, gA, gZ, gS, sA, sZ, sS]
    refine wpAnyH_ready (rs := [1, 5]) (by kernel_rfl) (by simp) (AllReadyH.cons (o := _) rfl (fun K hK => ?_) (AllReadyH.cons (o := _) rfl (fun K hK => ?_) AllReadyH.nil))
    ·skip
     go_simp
     refine hK.out _ _ ?_ (fun hH2 => ?_)
     ·exact hH1
     clear hK K
     try simp only [Act.put, gA, gZ, gS, sA, sZ, sS]
     refine rD 5 rfl (fun K hK => ?_)
     go_simp
     refine HL5.out.mono ?_
     rintro en wz ⟨rfl, rfl⟩
     refine hK.out _ _ ?_ (fun hH3 => ?_)
     ·exact ql5
     clear hK K
     try simp only [Act.put, gA, gZ, gS, sA, sZ, sS]
     refine rD 6 rfl (fun K hK => ?_)
     go_simp
     refine hK.out _ _ ?_ (fun hH4 => ?_)
     ·exact hH3
     clear hK K
     try simp only [Act.put, gA, gZ, gS, sA, sZ, sS]
     refine tD 7 45 (.pointer (some ⟨NP, 1, none⟩)) rfl rfl [(8, .pointer (some ⟨NP, 0, none⟩))] hH4 ?_
     dsimp only [sZ, sS]
     refine rD 8 rfl (fun K hK => ?_)
     go_simp
     have H6 := Zh ((H5.out.swapB.setB 1 (.int .i64 (min t (M.lowU u)))).swapB)
     refine hK.out _ _ ?_ (fun hH5 => ?_)
     ·exact H6.out.side.lt 1 rfl
     clear hK K
     refine wpAnyH_done (by kernel_rfl) ?_ _
     clear HL5 H5 HB8 HQ
     go_wp2_with fail
     go_roundw
     case rel => exact ⟨k + 1, min t (M.lowU u), by go_num, by omega, Zh (by rw [HTK.out]; unfold minLow; rw [List.foldl_append, show List.foldl (fun t u => min t (M.lowU u)) 1048576 (M.units.take k) = t from HT.out]; rfl), H6⟩
     case measure => simp [intOf]; omega
    ·skip
     go_simp
     refine HL5.out.mono ?_
     rintro en wz ⟨rfl, rfl⟩
     refine hK.out _ _ ?_ (fun hH2 => ?_)
     ·exact ql5
     clear hK K
     try simp only [Act.put, gA, gZ, gS, sA, sZ, sS]
     refine rD 1 rfl (fun K hK => ?_)
     go_simp
     refine hK.out _ _ ?_ (fun hH3 => ?_)
     ·exact hH2
     clear hK K
     try simp only [Act.put, gA, gZ, gS, sA, sZ, sS]
     refine rD 6 rfl (fun K hK => ?_)
     go_simp
     refine hK.out _ _ ?_ (fun hH4 => ?_)
     ·exact hH3
     clear hK K
     try simp only [Act.put, gA, gZ, gS, sA, sZ, sS]
     refine tD 7 45 (.pointer (some ⟨NP, 1, none⟩)) rfl rfl [(8, .pointer (some ⟨NP, 0, none⟩))] hH4 ?_
     dsimp only [sZ, sS]
     refine rD 8 rfl (fun K hK => ?_)
     go_simp
     have H6 := Zh ((H5.out.swapB.setB 1 (.int .i64 (min t (M.lowU u)))).swapB)
     refine hK.out _ _ ?_ (fun hH5 => ?_)
     ·exact H6.out.side.lt 1 rfl
     clear hK K
     refine wpAnyH_done (by kernel_rfl) ?_ _
     clear HL5 H5 HB8 HQ
     go_wp2_with fail
     go_roundw
     case rel => exact ⟨k + 1, min t (M.lowU u), by go_num, by omega, Zh (by rw [HTK.out]; unfold minLow; rw [List.foldl_append, show List.foldl (fun t u => min t (M.lowU u)) 1048576 (M.units.take k) = t from HT.out]; rfl), H6⟩
     case measure => simp [intOf]; omega
  have HLO := Zh (show minLow M M.units 1048576 = t by rw [← HT.out, List.take_of_length_le (by omega)])
  have H5 := Lib.hid' HQ.out
  have s1 := H5.out.side.cell 3 rfl 1 rfl; have sl := H5.out.side.lt 3 rfl
  have p2 := H5.out.side.cell 1 rfl 2 rfl; have pf := H5.out.side.free 1 rfl 2; have pl := H5.out.side.lt 1 rfl
  clear HT HQ
  go_wp2_with fail
  refine (sacked_any _ s1 sl).mono ?_
  rintro en wz ⟨rfl, rfl⟩
  have h6 := ((H5.out.focus 1 rfl).setB 2 (.int .i64 pa)).swapB
  have h7 := (ClAt.less (K := [_]) h6).noCells
  have H7 := Lib.hid' h7
  go_upto_region 13 with fail
  clear h6 h7 s1 sl p2 pf pl H5
  generalize wr.setCell ⟨NP, 2, none⟩ (.int .i64 pa) = w7 at *
  go_loopw [12] (fun v12 wr => ∃ (n : Nat) (X : List CE) (ra : Option Addr) (rk : Nat), v12 = .int .i64 (pa + n) ∧ n ≤ many64 pa tl ∧ X.length = n ∧ Hid (ClAt c M J (ceR X ra rk :: Asn.all (X.map ceA) :: .box NP [.int .i64 pe, .int .i64 t, .int .i64 pa, .slice ra X.length rk] 41 :: .box NR [.int .i64 0, .int .i64 0, .int .i64 0, .slice none 0 0] 41 :: Asn.ship s ⟨pe, pa⟩ :: L) W wr) ∧ Hid (nextR M (many64 pa tl) pa [] = nextR M (many64 pa tl - n) (pa + n) (X.map (·.c)))) (fun v12 _ => many64 pa tl - (intOf v12 - pa).toNat)
  case atStart => exact ⟨0, [], none, 0, by simp, Nat.zero_le _, rfl, H7, Zh (by simp)⟩
  case round =>
   clear H7
   obtain ⟨n, X, ra, rk, rfl, hn, hXn, HC, HN⟩ := hrel
   have HXN := Lib.hid' hXn
   clear hXn
   have hm64 : many64 pa tl ≤ 64 := by unfold many64; omega
   by_cases hlt : n < many64 pa tl
   ·have hcm : pa + (n : Int) < min (pa + 64) tl := by unfold many64 at hlt; omega
    have hr0 : 0 ≤ pa + (n : Int) := by omega
    have hr1 : pa + (n : Int) ≤ 1048575 := by omega
    obtain ⟨m, hm⟩ : ∃ m, many64 pa tl - n = m + 1 := ⟨many64 pa tl - n - 1, by omega⟩
    rw [hm] at HN
    have HM := Lib.hid' hm
    have HRD := Zh (Read_any (pa + n) wr HC.out HOK.out)
    have HE1 := Zh (fun h => nextR_err (M := M) (k := m) (a := pa + n) (X := X.map (·.c)) h)
    have HE2 := Zh (fun h h2 => nextR_end (M := M) (k := m) (a := pa + n) (X := X.map (·.c)) h h2)
    have HE3 := Zh (fun h h2 => nextR_on (M := M) (k := m) (a := pa + n) (X := X.map (·.c)) h h2)
    clear hm
    generalize M.read (pa + n) = rd at *
    obtain ⟨z, x⟩ := rd
    simp only at HRD HE1 HE2 HE3
    have HLT := Lib.hid' hlt
    go_wp2_with fail
    refine HRD.out.mono ?_
    clear HRD
    rintro en w5 ⟨a5, c5, rfl, ho5, hb5⟩
    have h5 := HC.out.belowRow hb5 ho5
    have h6 := h5.allocB w5.heap.size [.int .i64 x.k, .slice a5 x.d.length c5] 36 rfl
    rw [show ([.int .i64 x.k, .slice a5 x.d.length c5] : List Value).toArray = #[.int .i64 x.k, .slice a5 x.d.length c5] from rfl] at h6
    have H6 := Lib.hid' h6
    clear h5 h6 ho5 hb5 HC
    by_cases hz : z = 0
    rotate_left
    ·have HR := Zh (show nextS M pa = (z, 0, []) by rw [HS1.out, HN.out, HE1.out hz, if_pos hz])
     have HZ := Lib.hid' hz
     rw [errV_pos hz]
     clear hz HE1 HE2 HE3 HS1
     go_upto_region 16 with fail
     generalize w5.alloc (.cells #[.int .i64 x.k, .slice a5 x.d.length c5] 36) = w6 at *
     have r0 := H6.out.side.free 5 rfl 0; have r1 := H6.out.side.free 5 rfl 1; have r2 := H6.out.side.free 5 rfl 2; have r3 := H6.out.side.free 5 rfl 3; have rl := H6.out.side.lt 5 rfl
     have y0 := H6.out.side.cell 5 rfl 0 rfl; have y1 := H6.out.side.cell 5 rfl 1 rfl; have y2 := H6.out.side.cell 5 rfl 2 rfl; have y3 := H6.out.side.cell 5 rfl 3 rfl
     have H8 := Zh (((((H6.out.focus 5 rfl).setB 0 (.int .i64 0)).setB 1 (.int .i64 0)).setB 2 (.int .i64 0)).setB 3 (.slice none 0 0))
     go_wp2_with fail
     have k0 := H8.out.side.cell 0 rfl 0 rfl; have k1 := H8.out.side.cell 0 rfl 1 rfl; have k2 := H8.out.side.cell 0 rfl 2 rfl; have k3 := H8.out.side.cell 0 rfl 3 rfl
     generalize (((w6.setCell ⟨NR, 0, none⟩ (.int .i64 0)).setCell ⟨NR, 1, none⟩ (.int .i64 0)).setCell ⟨NR, 2, none⟩ (.int .i64 0)).setCell ⟨NR, 3, none⟩ (.slice none 0 0) = w8 at *
     refine bodyPost_ret (v := .tuple #[pclV 0 0 0 none 0 0, .iface 69 (.int .i64 z)]) (by simp [results, Tryz.results9, go_sem, k0, k1, k2, k3]) rfl ?_
     exact ⟨_, rfl, .inl ⟨by rw [HR.out]; exact HZ.out, by rw [HR.out, errV_pos HZ.out], ClAt.less (K := [_, _, _, _, _, _]) H8.out⟩⟩
    subst hz
    rw [errV_0]
    by_cases hk0 : x.k = 0
    ·have HR := Zh (show nextS M pa = (0, t, X.map (·.c)) by rw [HS1.out, HN.out, HE2.out rfl hk0, if_neg (by simp), HLO.out])
     clear HE1 HE2 HE3 HS1
     obtain ⟨xk, xd⟩ := x
     simp only at hk0 H6 ⊢
     subst hk0
     go_upto_region 18 with fail
     generalize w5.alloc (.cells #[.int .i64 0, .slice a5 xd.length c5] 36) = w6 at *
     generalize w5.heap.size = N13 at *
     have x0 := H6.out.side.cell 0 rfl 0 rfl; have xl := H6.out.side.lt 0 rfl
     have y0 := H6.out.side.cell 4 rfl 0 rfl; have y1 := H6.out.side.cell 4 rfl 1 rfl; have y2 := H6.out.side.cell 4 rfl 2 rfl; have y3 := H6.out.side.cell 4 rfl 3 rfl; have yl := H6.out.side.lt 4 rfl
     have r0 := H6.out.side.free 5 rfl 0; have r1 := H6.out.side.free 5 rfl 1; have r2 := H6.out.side.free 5 rfl 2; have r3 := H6.out.side.free 5 rfl 3; have rl := H6.out.side.lt 5 rfl
     have u0 := H6.out.side.cell 5 rfl 0 rfl; have u1 := H6.out.side.cell 5 rfl 1 rfl; have u2 := H6.out.side.cell 5 rfl 2 rfl; have u3 := H6.out.side.cell 5 rfl 3 rfl
     have H8 := Zh (((((H6.out.focus 5 rfl).setB 0 (.int .i64 pe)).setB 1 (.int .i64 t)).setB 2 (.int .i64 pa)).setB 3 (.slice ra X.length rk))
     go_wp2_with fail
     have k0 := H8.out.side.cell 0 rfl 0 rfl; have k1 := H8.out.side.cell 0 rfl 1 rfl; have k2 := H8.out.side.cell 0 rfl 2 rfl; have k3 := H8.out.side.cell 0 rfl 3 rfl
     generalize (((w6.setCell ⟨NR, 0, none⟩ (.int .i64 pe)).setCell ⟨NR, 1, none⟩ (.int .i64 t)).setCell ⟨NR, 2, none⟩ (.int .i64 pa)).setCell ⟨NR, 3, none⟩ (.slice ra X.length rk) = w8 at *
     refine bodyPost_ret (v := .tuple #[pclV pe t pa ra X.length rk, .nilIface]) (by simp [results, Tryz.results9, go_sem, k0, k1, k2, k3]) rfl ?_
     exact ⟨_, rfl, .inr ⟨by rw [HR.out], ra, rk, X, by rw [HR.out], (ClAt.less (K := [_, _, _]) H8.out).sub (((List.sublist_cons_self _ _).cons_cons _).cons_cons _), by rw [HR.out]⟩⟩
    ·have HR := Zh (show nextR M (many64 pa tl) pa [] = nextR M m (pa + n + 1) (X.map (·.c) ++ [x]) by rw [HN.out, HE3.out rfl hk0])
     clear HE1 HE2 HE3 HN
     go_upto_region 18 with fail
     generalize w5.alloc (.cells #[.int .i64 x.k, .slice a5 x.d.length c5] 36) = w6 at *
     generalize w5.heap.size = N13 at *
     have x0 := H6.out.side.cell 0 rfl 0 rfl; have x1 := H6.out.side.cell 0 rfl 1 rfl; have xl := H6.out.side.lt 0 rfl
     have p3 := H6.out.side.cell 4 rfl 3 rfl; have pl := H6.out.side.lt 4 rfl
     obtain ⟨P, hPJ, hP, h8⟩ := ClAt.front (K := [_, _, _, _, _, _, _]) H6.out
     have hX64 : X.length ≤ 64 := by have := HXN.out; omega
     go_wp2_with (at_builtin; refine Sep.append etCells rfl (.tmp 76) (.tmp 78) rfl [.int .i64 x.k, .slice a5 x.d.length c5] rfl h8 2 rfl rfl rfl (by simp [Value.oneCell']) (by omega) ?_; intro a7 c7 w7 H7; have p3 := H7.cell 4 rfl 3 rfl; have pf := H7.free 4 rfl 3; have pl := H7.lt 4 rfl)
     have H8 := H7.set 4 rfl 3 (.slice a7 (X.length + 1) c7)
     have H9 := ((((((H8.focus 4 rfl).focus 4 rfl) : Sep W NoF (ceA ⟨x, a5, c5⟩ :: Asn.all (X.map ceA) :: _) _).push (f := ceA) (Ks := X) (y := ⟨x, a5, c5⟩)).focus 2 rfl).drop 3)
     have hro : Asn.row 36 2 (.slice a7 (X.length + 1) c7) (X.length + 1) (X.flatMap ceV ++ [.int .i64 x.k, .slice a5 x.d.length c5]) = ceR (X ++ [⟨x, a5, c5⟩]) a7 c7 := by
      show _ = Asn.row _ _ _ _ _
      rw [List.length_append, List.flatMap_append]
      rfl
     rw [hro] at H9
     have HD := Zh (ClAt.unfront (w := w7.setCell ⟨NP, 3, none⟩ (.slice a7 (X.length + 1) c7)) (K := [ceR (X ++ [(⟨x, a5, c5⟩ : CE)]) a7 c7, Asn.all ((X ++ [(⟨x, a5, c5⟩ : CE)]).map ceA), .box NP [.int .i64 pe, .int .i64 t, .int .i64 pa, .slice a7 (X.length + 1) c7] 41, .box NR [.int .i64 0, .int .i64 0, .int .i64 0, .slice none 0 0] 41, Asn.ship s ⟨pe, pa⟩]) hP H9)
     rw [hPJ] at HD
     have HLN := Zh (show (X ++ [(⟨x, a5, c5⟩ : CE)]).length = X.length + 1 by simp)
     clear H7 H8 H9 p3 pf pl hro
     go_roundw
     case rel => exact ⟨n + 1, X ++ [⟨x, a5, c5⟩], a7, c7, by go_num, by have := HLT.out; omega, by rw [HLN.out, HXN.out], by rw [HLN.out]; exact HD, Zh (by rw [HR.out, show many64 pa tl - (n + 1) = m by have := HM.out; omega]; simp [Int.add_assoc])⟩
     case measure => have := HLT.out; simp [intOf]; omega
   ·have hcm : ¬ pa + (n : Int) < min (pa + 64) tl := by unfold many64 at hlt hn; omega
    have HR := Zh (show nextS M pa = (0, t, X.map (·.c)) by rw [HS1.out, HN.out, show many64 pa tl - n = 0 by omega, if_neg (by simp [nextR]), HLO.out]; rfl)
    clear HN HS1
    go_upto_region 20 with fail
    have y0 := HC.out.side.cell 2 rfl 0 rfl; have y1 := HC.out.side.cell 2 rfl 1 rfl; have y2 := HC.out.side.cell 2 rfl 2 rfl; have y3 := HC.out.side.cell 2 rfl 3 rfl; have yl := HC.out.side.lt 2 rfl
    have r0 := HC.out.side.free 3 rfl 0; have r1 := HC.out.side.free 3 rfl 1; have r2 := HC.out.side.free 3 rfl 2; have r3 := HC.out.side.free 3 rfl 3; have rl := HC.out.side.lt 3 rfl
    have u0 := HC.out.side.cell 3 rfl 0 rfl; have u1 := HC.out.side.cell 3 rfl 1 rfl; have u2 := HC.out.side.cell 3 rfl 2 rfl; have u3 := HC.out.side.cell 3 rfl 3 rfl
    have H8 := Zh (((((HC.out.focus 3 rfl).setB 0 (.int .i64 pe)).setB 1 (.int .i64 t)).setB 2 (.int .i64 pa)).setB 3 (.slice ra X.length rk))
    go_wp2_with fail
    have k0 := H8.out.side.cell 0 rfl 0 rfl; have k1 := H8.out.side.cell 0 rfl 1 rfl; have k2 := H8.out.side.cell 0 rfl 2 rfl; have k3 := H8.out.side.cell 0 rfl 3 rfl
    generalize (((wr.setCell ⟨NR, 0, none⟩ (.int .i64 pe)).setCell ⟨NR, 1, none⟩ (.int .i64 t)).setCell ⟨NR, 2, none⟩ (.int .i64 pa)).setCell ⟨NR, 3, none⟩ (.slice ra X.length rk) = w8 at *
    refine bodyPost_ret (v := .tuple #[pclV pe t pa ra X.length rk, .nilIface]) (by simp [results, Tryz.results9, go_sem, k0, k1, k2, k3]) rfl ?_
    exact ⟨_, rfl, .inr ⟨by rw [HR.out], ra, rk, X, by rw [HR.out], (ClAt.less (K := [_]) H8.out).sub (((List.sublist_cons_self _ _).cons_cons _).cons_cons _), by rw [HR.out]⟩⟩
end SL
end Go.Proofs.YtcpkeddgkpjioaaGreatDoor

namespace Go.Proofs.YtcpkeddgkpjioaaGreatDoor
open Go.RowKit
namespace SL
open DK SH SQ
def ux : Nat → U
 | 0 => u1
 | k + 1 => (apU (ux k) ⟨2, 1, k, [120]⟩).2.2
theorem ap_x0 : apU (ux 0) ⟨2, 1, 0, [120]⟩ = (0, 0, ux 1) := by first | rfl | kernel_rfl
theorem ap_x1 : apU (ux 1) ⟨2, 1, 1, [120]⟩ = (0, 0, ux 2) := by first | rfl | kernel_rfl
theorem ap_x2 : apU (ux 2) ⟨2, 1, 2, [120]⟩ = (0, 0, ux 3) := by first | rfl | kernel_rfl
theorem ap_x {K : Nat} (h : K < 3) : apU (ux K) ⟨2, 1, K, [120]⟩ = (0, 0, ux (K + 1)) := by
 rcases (show K = 0 ∨ K = 1 ∨ K = 2 by omega) with rfl | rfl | rfl
 ·exact ap_x0
 ·exact ap_x1
 ·exact ap_x2
theorem rx : (ux 3).read 1 1 = (0, ⟨1, [120]⟩) ∧ (ux 3).read 1 2 = (0, ⟨1, [120]⟩) := by first | exact ⟨rfl, rfl⟩ | exact ⟨by kernel_rfl, by kernel_rfl⟩
theorem next25 {r : Int} {k : Nat} {x : Un} (h : Fine r k (ux 3) x) : ∃ t, nextS (M1 x 3) 1 = (0, t, [⟨1, [120]⟩, ⟨1, [120]⟩]) := by
 have a1 := read_one (n := 3) (a := 1) h (by decide) (by decide)
 have a2 := read_one (n := 3) (a := 2) h (by decide) (by decide)
 rw [rx.1] at a1; rw [rx.2] at a2
 have ht : (M1 x 3).tail = (0, 3) := by unfold Cl.tail M1 Q.tail Q.asks; simp
 have hn : nextR (M1 x 3) (many64 1 3) 1 [] = (0, [⟨1, [120]⟩, ⟨1, [120]⟩]) := by
  rw [show many64 1 3 = 2 from rfl]
  rw [nextR_on (by rw [a1]) (by rw [a1]; decide), nextR_on (a := 1 + 1) (by show ((M1 x 3).read 2).1 = 0; rw [a2]) (by show ((M1 x 3).read 2).2.k ≠ 0; rw [a2]; decide)]
  show (0, ([] ++ [((M1 x 3).read 1).2]) ++ [((M1 x 3).read 2).2]) = _
  rw [a1, a2]; rfl
 refine ⟨minLow (M1 x 3) (M1 x 3).units 1048576, ?_⟩
 unfold nextS
 rw [ht]
 simp only [ne_eq, not_true_eq_false, if_false]
 rw [hn]
 simp
set_option maxHeartbeats 16000000 in
theorem alive25_any (w : World) (hp : Pow w) : Calls Tryz.prog 5 #[] w fun e w' => e = .returned (.bool true) ∧ Below w.heap.size w w' := by
 have HP := Lib.hid' hp
 obtain ⟨x1, hx1, hs1, hn1⟩ := new_one (r := 1048576) (by decide)
 have HN1 := Lib.hid' hn1
 have HF := Zh (And.intro hx1 hs1)
 have kc := fun (w : World) (C : Array Value) (n c : Nat) => Lib.run_convert_bytes_const (P := Tryz.prog) w 34 5 C n c Tryz.underlying34 Tryz.underlying5
 clear hx1 hs1 hn1 hp
 go_enter Tryz.func5, Tryz.ntmps5
 go_wp2_with fail
 obtain ⟨w0, hw0, hb0, hX⟩ := chs_one (w := w)
 rw [hw0]
 have hL : Sep w NoF [] w0 := (Sep.start w).below hb0
 clear hw0 hb0
 have HNW := Zh (New_any 1 1048576 _ _ _ w0 HP.out hL hX (by show ([0] : List Int).length ≤ _; decide))
 clear hX hL
 refine HNW.out.mono ?_
 rintro e w1 hE
 unfold NewR at hE
 rw [show newCl 1 1048576 (([([0], some ⟨w.heap.size, 0, none⟩, 1)] : List Ch).map (·.1)) = (0, M1 x1 0) from HN1.out] at hE
 obtain ⟨c, J, rfl, h1⟩ : ∃ c J, e = .returned (.tuple #[ptrV c, .nilIface]) ∧ ClAt c (M1 x1 0) J [] w w1 := by
  rcases hE with ⟨h0, _⟩ | ⟨_, h⟩
  ·exact absurd rfl h0
  ·exact h
 have H1 := Lib.hid' h1
 clear hE h1 HNW HN1
 go_wp2_with fail
 refine (snew_any 1 1 w1).mono ?_
 rintro e w2 hE
 unfold NewSp at hE
 rw [if_neg (by decide)] at hE
 obtain ⟨rfl, hs2⟩ := hE
 have H2 := Zh (H1.out.newB (A := Asn.ship w1.heap.size ⟨1, 1⟩) hs2.toBelow (hs2.at 0 rfl) (fun b hb => by have : b = w1.heap.size := hb; omega))
 clear hs2 H1
 generalize w1.heap.size = s at *
 go_wp2_with fail
 go_loopw [28] (fun v28 wr => ∃ (K : Nat) (x : Un), v28 = .int .i64 K ∧ K ≤ 3 ∧ Fine 1048576 (K + 1) (ux K) x ∧ Sd x.d ∧ Hid (ClAt c (M1 x K) J [Asn.ship s ⟨1, 1⟩] w wr)) (fun v28 _ => (3 - intOf v28).toNat)
 case atStart => exact ⟨0, x1, rfl, by decide, HF.out.1, HF.out.2, H2⟩
 case round =>
  clear H2 HF
  obtain ⟨K, x, rfl, hK, hfx, hsx, H0⟩ := hrel
  by_cases hlt : K < 3
  ·have hax := ap_x hlt
   obtain ⟨y, hy, hsy, he⟩ := append_one (n := (K : Int)) (d := [120]) hfx hsx (by omega) (by omega) (by omega) (by omega) (by decide) hax
   have HO := Zh (m1_ok hfx hsx ⟨by omega, by omega⟩ : (M1 x (K : Int)).ok)
   have HE := Lib.hid' he
   have HY := Zh (And.intro hy hsy)
   clear hfx hsx hax hy hsy he
   go_wp2_with fail
   have H3 := Zh (H0.out.newB (A := Asn.obj wr.heap.size (.cells #[byteV 120] 5 (1, 2))) (w' := wr.alloc (.cells #[byteV 120] 5 (1, 2))) (by go_grown) (by show (wr.heap.push _)[wr.heap.size]? = _; simp) (fun b hb => by have : b = wr.heap.size := hb; omega))
   have hz3 : wr.alloc (Obj.cells #[Value.int IntKind.u8 120] 5 (1, 2)) = wr.alloc (.cells #[byteV 120] 5 (1, 2)) := rfl
   rw [hz3]
   clear hz3 H0
   generalize wr.alloc (.cells #[byteV 120] 5 (1, 2)) = w3 at *
   generalize wr.heap.size = N3 at *
   have HAP := Zh (append_any [120] (some ⟨N3, 0, none⟩) 1 w3 HP.out H3.out HO.out (fun M' w' h' => bytes_obj (h'.side.at 0 rfl)))
   refine HAP.out.mono ?_
   rintro e w4 hE
   unfold ClR at hE
   rw [HE.out] at hE
   obtain ⟨rfl, h4⟩ := hE
   have H4 := Zh (ClAt.less (K := [_]) h4)
   clear h4 HAP H3 HE HO
   rw [errV_0]
   go_wp2_with fail
   go_roundw
   case rel => exact ⟨K + 1, y, by go_num, by omega, HY.out.1, HY.out.2, H4⟩
   case measure => simp [intOf]; omega
  ·obtain rfl : K = 3 := by omega
   obtain ⟨t, ht⟩ := next25 hfx
   have HT := Lib.hid' ht
   have HO := Zh (m1_ok hfx hsx ⟨by decide, by decide⟩ : (M1 x 3).ok)
   clear hfx hsx ht
   go_wp2_with fail
   refine (next_any ⟨1, 1⟩ wr (show ClAt c (M1 x 3) J [Asn.ship s ⟨1, 1⟩] w wr from H0.out) HO.out ⟨by decide, by decide⟩).mono ?_
   rintro e w5 ⟨r, hr, hE⟩
   rw [show nextS (M1 x 3) (⟨1, 1⟩ : Sp).a = _ from HT.out] at hr
   subst hr
   rcases hE with ⟨h0, _⟩ | ⟨_, a, k, X, rfl, h5, hX⟩
   ·exact absurd rfl h0
   have hXl : X.length = 2 := by have := congrArg List.length hX; simpa using this
   have HB := Lib.hid' h5.toBelow
   simp only [hXl]
   clear h5 hX hXl H0
   go_wp2_with fail
   go_ret
   exact ⟨rfl, HB.out.trans ((show Below w5.heap.size w5 _ by go_grown).mono HB.out.size)⟩
end SL
end Go.Proofs.YtcpkeddgkpjioaaGreatDoor

namespace Go.Proofs.YtcpkeddgkpjioaaGreatDoor
namespace SL
open DK SH SQ
/-- what stays of a cluster while its sequencer only rises -/
structure Up (M M' : Cl) : Prop where
 us : M'.us.length = M.us.length
 p : M'.p = M.p
 qe : M'.q.e = M.q.e
 qn : M.q.n ≤ M'.q.n
 ok : M'.ok
theorem Up.refl {M : Cl} (h : M.ok) : Up M M := ⟨rfl, rfl, rfl, Int.le_refl _, h⟩
theorem Up.trans {M N K : Cl} (h : Up M N) (g : Up N K) : Up M K := ⟨g.us.trans h.us, g.p.trans h.p, g.qe.trans h.qe, Int.le_trans h.qn g.qn, g.ok⟩
theorem Up.of {M M' : Cl} (h : Stay M M') (hok : M'.ok) : Up M M' := ⟨h.us, h.p, by rw [h.q], by rw [h.q]; exact Int.le_refl _, hok⟩
theorem raise_up {M : Cl} (h : M.ok) (n : Int) : Up M (M.raise n).2 := by
 refine ⟨rfl, rfl, ?_, ?_, h.seqTo h.seq.raise⟩
 ·show (M.q.raise M.p.e n).2.e = M.q.e
  unfold Q.raise; split <;> rfl
 ·show M.q.n ≤ (M.q.raise M.p.e n).2.n
  unfold Q.raise
  split
  ·exact Int.le_refl _
  ·show M.q.n ≤ (if n ≤ M.q.n then M.q.n else n)
   split <;> omega
theorem allS_stay {M : Cl} (hok : M.ok) {f : Cl → Int → Nat × Cl} (hf : ∀ s u, (Stay M s ∧ s.ok) → (Stay M (f s u).2 ∧ (f s u).2.ok)) (l : List Int) : Stay M (allC f l M).2 ∧ (allC f l M).2.ok :=
 allC_inv (I := fun s => Stay M s ∧ s.ok) (fun s u _ h => hf s u h) ⟨Stay.refl M, hok⟩
theorem spread_up {M : Cl} (h : M.ok) (l : List Int) (a : Int) (x : C) : Up M (M.spread l a x).2 := by
 have h1 := allS_stay h (f := Cl.putS a x) (fun s u hs => ⟨hs.1.put _ _ _ _, putC_ok hs.2 _ _ _ _⟩) l
 unfold Cl.spread
 split
 ·exact Up.of h1.1 h1.2
 ·exact (Up.of h1.1 h1.2).trans (raise_up h1.2 _)
theorem putAt_up {M : Cl} (h : M.ok) (a : Int) (x : C) : Up M (M.putAt a x).2 := by
 unfold Cl.putAt
 split
 ·exact Up.refl h
 ·split
  ·exact Up.refl h
  ·split
   ·exact Up.refl h
   ·exact spread_up h _ _ _
/-- between two acts: the sequencer is of the projection's epoch, the last address lies below it -/
structure Ris (M : Cl) (last : Int) : Prop where
 ok : M.ok
 e : M.q.e = M.p.e
 lo : -1 ≤ last
 hi : last < M.q.n
theorem Ris.tail {M : Cl} {last : Int} (h : Ris M last) : M.tail = (0, M.q.n) := by
 unfold Cl.tail Q.tail Q.asks
 rw [h.e]
 simp
end SL
end Go.Proofs.YtcpkeddgkpjioaaGreatDoor
