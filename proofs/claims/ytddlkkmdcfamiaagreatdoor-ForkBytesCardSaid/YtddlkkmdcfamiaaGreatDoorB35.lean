/- Proved here: a part of the proof (35 of 35). -/
import Derived.Test.YtddlkkmdcfamiaaGreatDoorB34
import Derived.Test.YtddlkkmdcfamiaaGreatDoorB25
import Derived.Test.YtddlkkmdcfamiaaGreatDoorB27
import Derived.Lib.SlBytesConst
import Derived.Test.YtddlkkmdcfamiaaGreatDoorB28
import Derived.Deep.DeepCutAuto
import Derived.Deep.CutBlock
set_option linter.unusedSimpArgs false
set_option linter.unusedVariables false
set_option maxRecDepth 100000
namespace Go.Proofs.YtddlkkmdcfamiaaGreatDoor
open Go.RowKit
namespace SL
open DK SH SQ
def Cl.addN (room : Int) : Nat → Cl → Nat × Cl
 | 0, M => (0, M)
 | k + 1, M => if (M.add room).1 ≠ 0 then M.add room else Cl.addN room k (M.add room).2
/-- a cluster without units -/
def cl0 (X : List (List Int)) : Cl := ⟨[], ⟨1, X⟩, ⟨0, 0⟩⟩
def newCl (units room : Int) (X : List (List Int)) : Nat × Cl :=
 if units < 1 ∨ 8 < units then (1, cl0 X) else
 if (⟨1, X⟩ : Pj).check ≠ 0 then ((⟨1, X⟩ : Pj).check, cl0 X) else
 if (unitsOf (⟨1, X⟩ : Pj).all).any (fun u => decide (units ≤ u)) = true then (1, cl0 X) else
 if (Cl.addN room units.toNat (cl0 X)).1 ≠ 0 then ((Cl.addN room units.toNat (cl0 X)).1, cl0 X) else
 (0, { (Cl.addN room units.toNat (cl0 X)).2 with q := ⟨1, 0⟩ })
theorem add_len (M : Cl) (room : Int) : (M.add room).2.us.length ≤ M.us.length + 1 ∧ (M.add room).2.p = M.p ∧ (M.add room).2.q = M.q := by
 unfold Cl.add
 split
 ·exact ⟨Nat.le_succ _, rfl, rfl⟩
 ·have := Cl.do_len (M.grow (newU room)) M.us.length sealA
  refine ⟨?_, this.2.1, this.2.2⟩
  rw [this.1]
  show (M.us ++ [newU room]).length ≤ _
  simp
theorem addN_step {room : Int} {k : Nat} {M : Cl} (h : (M.add room).1 = 0) : Cl.addN room (k + 1) M = Cl.addN room k (M.add room).2 := by
 show (if (M.add room).1 ≠ 0 then _ else _) = _
 rw [if_neg (by rw [h]; decide)]
theorem addN_stop {room : Int} {k : Nat} {M : Cl} (h : (M.add room).1 ≠ 0) : Cl.addN room (k + 1) M = M.add room := by
 show (if (M.add room).1 ≠ 0 then _ else _) = _
 rw [if_pos h]
/-- what New answers: an error, or a cluster beside L -/
def NewR (r : Nat × Cl) (L : List Asn) (W : World) (e : Ending) (w' : World) : Prop :=
 (r.1 ≠ 0 ∧ e = .returned (.tuple #[.pointer none, errV r.1]) ∧ Sep W NoF L w') ∨ (r.1 = 0 ∧ ∃ c J, e = .returned (.tuple #[ptrV c, .nilIface]) ∧ ClAt c r.2 J L W w')
theorem chs_below {w w' : World} {a : Option Addr} {c : Nat} {X : List Ch} (h : Chs w a c X) (hb : Below w.heap.size w w') : Chs w' a c X := h.below (Nat.le_refl _) hb
set_option maxHeartbeats 16000000 in
theorem New_any {L : List Asn} {W : World} (units room : Int) (a : Option Addr) (c : Nat) (X : List Ch) (w : World) (hp : Pow W) (hL : Sep W NoF L w) (hX : Chs w a c X) (ht : (flatC X).length ≤ 1099511627776) :
  Calls Tryz.prog 19 #[.int .i64 units, .int .i64 room, .slice a X.length c] w (NewR (newCl units room (X.map (·.1))) L W) := by
 have HP := Lib.hid' hp
 have HL := Lib.hid' hL
 have HX := Lib.hid' hX
 have HN := Zh (show newCl units room (X.map (·.1)) = _ from rfl)
 have hXl := hX.len
 clear hp hL hX
 by_cases hu : units < 1 ∨ 8 < units
 ·have HR := Zh (show newCl units room (X.map (·.1)) = (1, cl0 (X.map (·.1))) by unfold newCl; rw [if_pos hu])
  go_enter Tryz.func19, Tryz.ntmps19
  rcases hu with hu | hu
  ·go_wp2_with fail
   go_ret2
   rw [HR.out]
   exact .inl ⟨show (1 : Nat) ≠ 0 by decide, rfl, HL.out.below (by go_grown)⟩
  ·have hu1 : ¬ units < 1 := by omega
   go_wp2_with fail
   go_ret2
   rw [HR.out]
   exact .inl ⟨show (1 : Nat) ≠ 0 by decide, rfl, HL.out.below (by go_grown)⟩
 have hu1 : ¬ units < 1 := by omega
 have hu8 : ¬ 8 < units := by omega
 have HU := Lib.hid' hu
 clear hu
 go_enter Tryz.func19, Tryz.ntmps19
 go_wp2_with fail
 have hb1 : Below w.heap.size w (w.alloc (.cells #[.int .i64 1, .slice a X.length c] 83)) := by go_grown
 obtain ⟨n, rfl⟩ : ∃ n : Nat, units = n := ⟨units.toNat, by omega⟩
 have hn8 : n ≤ 8 := by omega
 have hz0 : w.heap.size < (w.alloc (.cells #[.int .i64 1, .slice a X.length c] 83)).heap.size := by simp
 have p0 : (w.alloc (.cells #[.int .i64 1, .slice a X.length c] 83)).cell? ⟨w.heap.size, 0, none⟩ = some (.int .i64 1) := by simp [go_sem]
 have p1 : (w.alloc (.cells #[.int .i64 1, .slice a X.length c] 83)).cell? ⟨w.heap.size, 1, none⟩ = some (.slice a X.length c) := by simp [go_sem]
 generalize w.alloc (.cells #[.int .i64 1, .slice a X.length c] 83) = w1 at *
 refine (pcheck_any 1 a c X w1 (chs_below HX.out hb1) ht).mono ?_
 rintro e w2 ⟨rfl, hb2⟩
 by_cases hz : (docJ 1 X).check = 0
 rotate_left
 ·have HR := Zh (show newCl n room (X.map (·.1)) = ((docJ 1 X).check, cl0 (X.map (·.1))) by unfold newCl; rw [if_neg HU.out, if_pos (show (⟨1, X.map (·.1)⟩ : Pj).check ≠ 0 from hz)]; rfl)
  rw [errV_pos hz]
  have HZ := Lib.hid' hz
  have HB := Zh ((HL.out.below hb1).below hb2)
  clear hz
  go_wp2_with fail
  go_ret2
  rw [HR.out]
  exact .inl ⟨HZ.out, by rw [errV_pos HZ.out]; rfl, HB.out⟩
 have HZ := Lib.hid' hz
 rw [hz, errV_0]
 have hb12 : Below w.heap.size w w2 := below_call hb1 hb1.size hb2
 have p02 := (hb2.cell (p := ⟨w.heap.size, 0, none⟩) hz0).trans p0
 have p12 := (hb2.cell (p := ⟨w.heap.size, 1, none⟩) hz0).trans p1
 have hz2 : w.heap.size < w2.heap.size := Nat.lt_of_lt_of_le hz0 hb2.size
 clear hz p0 p1 hz0 hb1 hb2
 go_wp2_with fail
 refine (punits_any 1 a c X w2 (chs_below HX.out hb12) ht).mono ?_
 rintro e w3 hun
 obtain ⟨ua, uc, rfl, ho, hb3⟩ : ∃ ua uc, e = .returned (.slice ua (unitsOf (flatC X)).length uc) ∧ w3.ownsRow w2.heap.size 3 1 (.slice ua (unitsOf (flatC X)).length uc) (unitsOf (flatC X)).length (zVs (unitsOf (flatC X))) ∧ Below w2.heap.size w2 w3 := hun
 have hb13 : Below w.heap.size w w3 := below_call hb12 hb12.size hb3
 have p03 := (hb3.cell (p := ⟨w.heap.size, 0, none⟩) hz2).trans p02
 have p13 := (hb3.cell (p := ⟨w.heap.size, 1, none⟩) hz2).trans p12
 have hz3 : w.heap.size < w3.heap.size := Nat.lt_of_lt_of_le hz2 hb3.size
 have HZS := Zh (show Zs w3 (.slice ua (unitsOf (flatC X)).length uc) (unitsOf (flatC X)) from SlV.of_own ho)
 obtain ⟨l, hl⟩ : ∃ l, unitsOf (flatC X) = l := ⟨_, rfl⟩
 rw [hl] at HZS ⊢
 have HLL := Lib.hid' hl
 have hll : l.length ≤ 1099511627776 := by rw [← hl]; exact Nat.le_trans (unitsOf_len _) ht
 have HB13 := Lib.hid' hb13
 clear hl ho hb3 hb12 p02 p12 hz2 hb13
 go_wp2_with fail
 go_loop [31] (fun v31 => ∃ k : Nat, v31 = .int .i64 k ∧ k ≤ l.length ∧ Hid (∀ y ∈ l.take k, y < (n : Int))) (fun v31 => l.length - (intOf v31).toNat)
 case atStart => exact ⟨0, rfl, Nat.zero_le _, Zh (by simp)⟩
 case round =>
  obtain ⟨k, rfl, hk, HNO⟩ := hrel
  by_cases hlt : k < l.length
  ·obtain ⟨gb, go, rfl, hgb, hgc⟩ := HZS.out.at hlt
   have HM := Zh (show l[k] ∈ l from List.getElem_mem hlt)
   have HT := Zh (fun (h : l[k] < (n : Int)) => show ∀ y ∈ l.take (k + 1), y < (n : Int) from fun y hy => by
    rw [List.take_succ_eq_append_getElem hlt] at hy
    rcases List.mem_append.1 hy with hy | hy
    ·exact HNO.out y hy
    ·rw [List.mem_singleton.1 hy]; exact h)
   generalize l[k] = y at *
   by_cases hy : (n : Int) ≤ y
   ·have HR := Zh (show newCl n room (X.map (·.1)) = (1, cl0 (X.map (·.1))) by
     unfold newCl
     rw [if_neg HU.out, if_neg (show ¬ (⟨1, X.map (·.1)⟩ : Pj).check ≠ 0 from fun h => h HZ.out), if_pos]
     rw [List.any_eq_true]
     exact ⟨y, by rw [show unitsOf (⟨1, X.map (·.1)⟩ : Pj).all = l from HLL.out]; exact HM.out, by simpa using hy⟩)
    go_wp2_with fail
    go_ret2
    rw [HR.out]
    exact .inl ⟨show (1 : Nat) ≠ 0 by decide, rfl, HL.out.below HB13.out⟩
   ·have HT2 := Zh (HT.out (by omega))
    go_wp2_with fail
    go_round
    case rel => exact ⟨k + 1, by go_num, by omega, HT2⟩
    case measure => simp [intOf]; omega
  ·have HNA := Zh (show ∀ y ∈ l, y < (n : Int) from fun y hy => HNO.out y (by rw [List.take_of_length_le (by omega)]; exact hy))
   clear HNO HZS
   go_wp2_with fail
   have hpk := pj_ok HZ.out
   have hXn : X.length ≤ 4 := by have := hpk.n.2; simpa [docJ] using this
   have hXe : ∀ x ∈ X, x.1.length ≤ 4 := fun x hx => (hpk.each x.1 (List.mem_map_of_mem (f := (·.1)) hx)).2
   refine (pcopy_any 1 a c X w3 (chs_below HX.out HB13.out) (by omega) (fun x hx => by have := hXe x hx; omega)).mono ?_
   rintro e w4 ⟨a4, c4, K4, rfl, hj, hmap, hb4⟩
   have H4 := Zh ((HL.out.below HB13.out).pastJ hb4 hj)
   have hKl : K4.length = X.length := by have := congrArg List.length hmap; simpa using this
   have HMP := Lib.hid' hmap
   have hp04 := (hb4.cell (p := ⟨w.heap.size, 0, none⟩) hz3).trans p03
   rw [show pjV 1 a4 c4 K4 = .agg #[.int .i64 1, .slice a4 K4.length c4] from rfl]
   clear hpk hXe hj hmap hb4 p03 p13 hp04 hz3 hXn
   have HKL := Lib.hid' hKl
   clear hKl
   go_wp2_with fail
   refine (SQ.new_any _).mono ?_
   rintro e w5 ⟨rfl, h5⟩
   have H5 := Zh (H4.out.call0 h5)
   generalize w4.heap.size = b5 at *
   clear h5 H4
   go_wp2_with fail
   have G := ((((H5.out.allocAt w5.heap.size [.slice none 0 0, .slice none 0 0, .int .i64 1, .slice a4 K4.length c4, ptrV b5] 92 rfl).nilRow 154 1).nilRow 157 1).pool0)
   have G2 := ((((((G.focus 5 rfl).focus 6 rfl).focus 3 rfl).focus 4 rfl).focus 6 rfl).focus 6 rfl)
   have HC := Zh (show ClAt w5.heap.size (cl0 (X.map (·.1))) ⟨a4, c4, K4⟩ L W (w5.alloc (.cells #[.slice none 0 0, .slice none 0 0, .int .i64 1, .slice a4 K4.length c4, ptrV b5] 92)) from ⟨⟨b5, .slice none 0 0, .slice none 0 0, [], ⟨a4, c4, K4⟩, NoF, [nilB]⟩, rfl, ⟨rfl, HMP.out⟩, G2⟩)
   clear G G2 H5
   obtain ⟨w6, hw6⟩ : ∃ w6, w5.alloc (.cells #[.slice none 0 0, .slice none 0 0, .int .i64 1, .slice a4 K4.length c4, ptrV b5] 92) = w6 := ⟨_, rfl⟩
   have hzw : w5.alloc (.cells #[.slice none 0 0, .slice none 0 0, .int .i64 1, .slice a4 K4.length c4, .pointer (some ⟨b5, 0, none⟩)] 92) = w6 := hw6
   rw [hw6] at HC
   first | rw [hzw] | rw [hw6]
   clear hw6 hzw
   generalize w5.heap.size = cc at *
   go_loopw [46] (fun v46 wr => ∃ (k : Nat) (M' : Cl), v46 = .int .i64 k ∧ k ≤ n ∧ Hid (ClAt cc M' ⟨a4, c4, K4⟩ L W wr) ∧ Hid (M'.us.length ≤ k ∧ M'.q = ⟨0, 0⟩) ∧ Hid (Cl.addN room n (cl0 (X.map (·.1))) = Cl.addN room (n - k) M')) (fun v46 _ => n - (intOf v46).toNat)
   case atStart => exact ⟨0, _, rfl, Nat.zero_le _, HC, Lib.hid' ⟨Nat.zero_le _, rfl⟩, Lib.hid' rfl⟩
   case round =>
    clear HC
    obtain ⟨k, M', rfl, hk, HC, HQ, HE⟩ := hrel
    by_cases hlt2 : k < n
    ·have HADD := Zh (add_any room wr HP.out HC.out (by have := HQ.out.1; omega))
     go_wp2_with fail
     refine HADD.out.mono ?_
     rintro e w7 ⟨rfl, h7⟩
     have H7 := Lib.hid' h7
     clear h7 HADD
     have HLE := Zh (add_len M' room)
     by_cases h0 : (M'.add room).1 = 0
     ·have HE2 := Zh (show Cl.addN room n (cl0 (X.map (·.1))) = Cl.addN room (n - (k + 1)) (M'.add room).2 by
       rw [HE.out, show n - k = (n - (k + 1)) + 1 by omega, addN_step h0])
      rw [h0, errV_0]
      clear h0
      go_wp2_with fail
      go_roundw
      case rel => exact ⟨k + 1, (M'.add room).2, by go_num, by omega, H7, Lib.hid' ⟨by have := HLE.out.1; have := HQ.out.1; omega, HLE.out.2.2.trans HQ.out.2⟩, HE2⟩
      case measure => simp [intOf]; omega
     ·have HR := Zh (show newCl n room (X.map (·.1)) = ((M'.add room).1, cl0 (X.map (·.1))) by
       have hE2 : Cl.addN room n (cl0 (X.map (·.1))) = M'.add room := by rw [HE.out, show n - k = (n - (k + 1)) + 1 by omega, addN_stop h0]
       unfold newCl
       rw [if_neg HU.out, if_neg (show ¬ (⟨1, X.map (·.1)⟩ : Pj).check ≠ 0 from fun h => h HZ.out), if_neg, if_pos]
       ·rw [show Int.toNat (n : Int) = n by omega, hE2]
       ·rw [show Int.toNat (n : Int) = n by omega, hE2]; exact h0
       ·rw [Bool.not_eq_true, List.any_eq_false]
        intro y hy
        rw [show unitsOf (⟨1, X.map (·.1)⟩ : Pj).all = l from HLL.out] at hy
        have := HNA.out y hy
        simp; omega)
      rw [errV_pos h0]
      have H0 := Lib.hid' h0
      clear h0
      go_wp2_with fail
      go_ret2
      rw [HR.out]
      exact .inl ⟨H0.out, by rw [errV_pos H0.out]; rfl, H7.out.side⟩
    ·obtain rfl : k = n := by omega
     have HE2 := Zh (show Cl.addN room k (cl0 (X.map (·.1))) = (0, M') by rw [HE.out, Nat.sub_self]; rfl)
     have HR := Zh (show newCl k room (X.map (·.1)) = (0, { M' with q := ⟨1, 0⟩ }) by
      unfold newCl
      rw [if_neg HU.out, if_neg (show ¬ (⟨1, X.map (·.1)⟩ : Pj).check ≠ 0 from fun h => h HZ.out), if_neg, if_neg]
      ·rw [show Int.toNat (k : Int) = k by omega, HE2.out]
      ·rw [show Int.toNat (k : Int) = k by omega, HE2.out]; simp
      ·rw [Bool.not_eq_true, List.any_eq_false]
       intro y hy
       rw [show unitsOf (⟨1, X.map (·.1)⟩ : Pj).all = l from HLL.out] at hy
       have := HNA.out y hy
       simp; omega)
     obtain ⟨bq, Kq, hb4, hsq, _, hback⟩ := HC.out.seqd
     have hcl := HC.out.c2.2
     rw [HQ.out.2] at hsq
     have HSET := Zh (SQ.set_any 1 0 hsq)
     rw [show (⟨0, 0⟩ : Q).set 1 0 = (0, ⟨1, 0⟩) from rfl] at HSET
     have HBK := Lib.hid' hback
     clear hsq hback
     go_wp2_with fail
     refine HSET.out.mono ?_
     rintro e w8 ⟨rfl, h8⟩
     have H8 := Zh (HBK.out _ _ h8).1
     clear h8
     rw [errV_0]
     go_wp2_with fail
     go_ret2
     rw [HR.out]
     exact .inr ⟨rfl, cc, ⟨a4, c4, K4⟩, rfl, H8.out⟩
end SL
end Go.Proofs.YtddlkkmdcfamiaaGreatDoor

namespace Go.Proofs.YtddlkkmdcfamiaaGreatDoor
open Go.RowKit
namespace SL
open DK SH SQ
theorem add_one {r : Int} (h : 400 ≤ r ∧ r ≤ 1073741824) : ∃ x, Fine r 1 u1 x ∧ Sd x.d ∧ (cl0 [[0]]).add r = (0, ⟨[x], ⟨1, [[0]]⟩, ⟨0, 0⟩⟩) := by
 obtain ⟨S, D, S', D', hx, e, hF⟩ := (Fine.new r).act (by decide) (by omega) sealA
 have ha : (apU U.new sealA).1 = 0 ∧ (apU U.new sealA).2.2 = u1 := ap1
 have hsd : Sd D' := by
  have h2 := Sd.doS (D := D) (S := S) (by have : newD r = D := congrArg Un.d hx; rw [← this]; exact Sd.new ⟨by omega, h.2⟩) sealA
  rw [e] at h2; exact h2
 rw [ha.1, ha.2] at hF
 simp only [if_pos] at hF
 refine ⟨_, hF, hsd, ?_⟩
 have hd : (cl0 [[0]]).grow (newU r) = ⟨[⟨D, some S⟩], ⟨1, [[0]]⟩, ⟨0, 0⟩⟩ := by
  unfold Cl.grow cl0 newU
  rw [hx]; rfl
 unfold Cl.add
 rw [if_neg (by omega), hd]
 show (((⟨[⟨D, some S⟩], ⟨1, [[0]]⟩, ⟨0, 0⟩⟩ : Cl).do 0 sealA).1, ((⟨[⟨D, some S⟩], ⟨1, [[0]]⟩, ⟨0, 0⟩⟩ : Cl).do 0 sealA).2.2) = _
 rw [do_on (u := 0) sealA (show (⟨[⟨D, some S⟩], ⟨1, [[0]]⟩, ⟨0, 0⟩⟩ : Cl).us[0]? = some ⟨D, some S⟩ from rfl), e]
 rw [ha.1]; rfl
theorem uni1 : unitsOf [0] = [0] := by
 have h1 : sortI [0] = [0] := by unfold sortI; simp
 unfold unitsOf
 rw [h1]; rfl
theorem chk1 : (⟨1, [[0]]⟩ : Pj).check = 0 := by
 have h1 : (⟨1, [[0]]⟩ : Pj).all = [0] := rfl
 unfold Pj.check
 rw [h1, uni1]
 decide
theorem new_one {r : Int} (h : 400 ≤ r ∧ r ≤ 1073741824) : ∃ x, Fine r 1 u1 x ∧ Sd x.d ∧ newCl 1 r [[0]] = (0, M1 x 0) := by
 obtain ⟨x, hx, hs, e⟩ := add_one h
 refine ⟨x, hx, hs, ?_⟩
 have h1 : Cl.addN r (Int.toNat 1) (cl0 [[0]]) = (0, ⟨[x], ⟨1, [[0]]⟩, ⟨0, 0⟩⟩) := by
  show (if ((cl0 [[0]]).add r).1 ≠ 0 then (cl0 [[0]]).add r else Cl.addN r 0 ((cl0 [[0]]).add r).2) = _
  rw [e]; rfl
 unfold newCl
 rw [if_neg (by omega), if_neg (by rw [chk1]; decide), if_neg (by rw [show (⟨1, [[0]]⟩ : Pj).all = [0] from rfl, uni1]; decide), h1]
 rfl
theorem m1_ok {r : Int} {k : Nat} {u : U} {x : Un} {n : Int} (h : Fine r k u x) (hs : Sd x.d) (hn : 0 ≤ n ∧ n ≤ 1048576) : (M1 x n).ok :=
 ⟨chk1, by show [x].length ≤ 8; simp, fun v hv => by
  have : v = 0 := by simpa [M1, Pj.all] using hv
  subst this
  exact ⟨Int.le_refl _, by show (0 : Int) < (([x] : List Un).length : Int); simp⟩, ⟨by show (0 : Int) ≤ 1 ∧ (1 : Int) ≤ _; decide, hn⟩, fun y hy => by
  have : y = x := by simpa [M1] using hy
  rw [this]; exact hs⟩
end SL
end Go.Proofs.YtddlkkmdcfamiaaGreatDoor

namespace Go.Proofs.YtddlkkmdcfamiaaGreatDoor
open Go.RowKit
namespace SL
open DK SH SQ
/-- a cluster's parts -/
def clB (c : Nat) (M : Cl) (P : ClP) : List Asn := clK c M P ++ (Asn.pool P.Z P.vs :: P.Us.map (unA P.vs))
theorem clL_eq (c : Nat) (M : Cl) (P : ClP) (L : List Asn) : clL c M P L = clB c M P ++ L := by unfold clL clB; simp
/-- two clusters, with what lies ahead of them -/
def Two (Z : List Asn) (a : Nat) (Ma : Cl) (b : Nat) (Mb : Cl) (W w : World) : Prop := ∃ Pa Pb, ClOK Ma Pa ∧ ClOK Mb Pb ∧ Sep W NoF (Z ++ (clB a Ma Pa ++ clB b Mb Pb)) w
theorem Two.toBelow {Z : List Asn} {a b : Nat} {Ma Mb : Cl} {W w : World} (h : Two Z a Ma b Mb W w) : Below W.heap.size W w := by
 obtain ⟨_, _, _, _, H⟩ := h
 exact H.toBelow
theorem Two.swap {a b : Nat} {Ma Mb : Cl} {W w : World} (h : Two [] a Ma b Mb W w) : Two [] b Mb a Ma W w := by
 obtain ⟨Pa, Pb, h1, h2, H⟩ := h
 exact ⟨Pb, Pa, h2, h1, (show Sep W NoF (clB a Ma Pa ++ clB b Mb Pb) w from H).perm List.perm_append_comm⟩
theorem Two.less {Z : List Asn} {a b : Nat} {Ma Mb : Cl} {W w : World} (h : Two Z a Ma b Mb W w) : Two [] a Ma b Mb W w := by
 obtain ⟨Pa, Pb, h1, h2, H⟩ := h
 exact ⟨Pa, Pb, h1, h2, H.keepOnly (List.sublist_append_right _ _)⟩
theorem Two.box {a b : Nat} {Ma Mb : Cl} {W w : World} (h : Two [] a Ma b Mb W w) (N : Nat) (R : List Value) (t : Nat) (hN : w.heap.size = N) : Two [.box N R t] a Ma b Mb W (w.alloc (.cells R.toArray t)) := by
 obtain ⟨Pa, Pb, h1, h2, H⟩ := h
 exact ⟨Pa, Pb, h1, h2, H.allocAt N R t hN⟩
/-- the first of two clusters, by itself; and back -/
theorem Two.fst {Z : List Asn} {a b : Nat} {Ma Mb : Cl} {W w : World} (h : Two Z a Ma b Mb W w) : ∃ J Pb, ClAt a Ma J (Z ++ clB b Mb Pb) W w ∧ ∀ Ma' w', ClAt a Ma' J (Z ++ clB b Mb Pb) W w' → Two Z a Ma' b Mb W w' := by
 obtain ⟨Pa, Pb, h1, h2, H⟩ := h
 have p : ∀ X : List Asn, (Z ++ (X ++ clB b Mb Pb)).Perm (X ++ (Z ++ clB b Mb Pb)) := fun X => by
  rw [← List.append_assoc, ← List.append_assoc]
  exact List.perm_append_comm.append_right _
 refine ⟨Pa.J, Pb, ⟨Pa, rfl, h1, by rw [clL_eq]; exact H.perm (p _)⟩, fun Ma' w' h' => ?_⟩
 obtain ⟨P', _, h3, H'⟩ := h'
 rw [clL_eq] at H'
 exact ⟨P', Pb, h3, h2, H'.perm (p _).symm⟩
theorem Two.snd {a b : Nat} {Ma Mb : Cl} {W w : World} (h : Two [] a Ma b Mb W w) : ∃ J L, ClAt b Mb J L W w := by
 obtain ⟨J, P, h1, _⟩ := h.swap.fst
 exact ⟨J, _, h1⟩
/-- an append to the first of two -/
theorem two_append {Z : List Asn} {a b : Nat} {Ma Mb : Cl} {W : World} (d : List UInt8) (da : Option Addr) (dc : Nat) (w : World) (hp : Pow W) (h : Two Z a Ma b Mb W w) (hok : Ma.ok) (hB : ∀ {L : List Asn} (w' : World), Sep W NoF (Z ++ L) w' → Bytes w' (.slice da d.length dc) d) :
  Calls Tryz.prog 20 #[ptrV a, .slice da d.length dc] w fun e w' => e = .returned (.tuple #[.int .i64 (Ma.append d).2.1, errV (Ma.append d).1]) ∧ Two Z a (Ma.append d).2.2 b Mb W w' := by
 obtain ⟨J, Pb, h1, hback⟩ := h.fst
 refine (append_any d da dc w hp h1 hok (fun M' w' h' => hB w' h'.side)).mono ?_
 intro e w' hE
 obtain ⟨he, h2⟩ := hE
 exact ⟨he, hback _ _ h2⟩
/-- a new cluster beside nothing, and beside another one -/
theorem chs_one {w : World} : ∃ w0 : World, (w.alloc (.cells #[.int .i64 0] 3)).alloc (.cells #[.slice (some ⟨w.heap.size, 0, none⟩) 1 1] 55) = w0 ∧ Below w.heap.size w w0 ∧ Chs w0 (some ⟨w.heap.size + 1, 0, none⟩) 1 [([0], some ⟨w.heap.size, 0, none⟩, 1)] := by
 have g1 := (Sep.start w).allocAt w.heap.size [.int .i64 0] 3 rfl
 have g2 := g1.allocAt (w.heap.size + 1) [.slice (some ⟨w.heap.size, 0, none⟩) 1 1] 55 (by simp)
 exact ⟨_, rfl, g2.toBelow, slv_box g2 0 rfl, fun x hx => by
  obtain rfl := List.mem_singleton.1 hx
  exact slv_box g2 1 rfl⟩
def bA (k : Nat) : UInt8 := UInt8.ofNat k
def bB (k : Nat) : UInt8 := UInt8.ofNat (k + k / 2)
def ua : Nat → U
 | 0 => u1
 | k + 1 => (apU (ua k) ⟨2, 1, k, [bA k]⟩).2.2
def ub : Nat → U
 | 0 => u1
 | k + 1 => (apU (ub k) ⟨2, 1, k, [bB k]⟩).2.2
theorem ap_a0 : apU (ua 0) ⟨2, 1, 0, [0]⟩ = (0, 0, ua 1) := by first | rfl | kernel_rfl
theorem ap_a1 : apU (ua 1) ⟨2, 1, 1, [1]⟩ = (0, 0, ua 2) := by first | rfl | kernel_rfl
theorem ap_a2 : apU (ua 2) ⟨2, 1, 2, [2]⟩ = (0, 0, ua 3) := by first | rfl | kernel_rfl
theorem ap_b0 : apU (ub 0) ⟨2, 1, 0, [0]⟩ = (0, 0, ub 1) := by first | rfl | kernel_rfl
theorem ap_b1 : apU (ub 1) ⟨2, 1, 1, [1]⟩ = (0, 0, ub 2) := by first | rfl | kernel_rfl
theorem ap_b2 : apU (ub 2) ⟨2, 1, 2, [3]⟩ = (0, 0, ub 3) := by first | rfl | kernel_rfl
theorem ra : (ua 3).read 1 0 = (0, ⟨1, [0]⟩) ∧ (ua 3).read 1 1 = (0, ⟨1, [1]⟩) ∧ (ua 3).read 1 2 = (0, ⟨1, [2]⟩) := by first | exact ⟨rfl, rfl, rfl⟩ | exact ⟨by kernel_rfl, by kernel_rfl, by kernel_rfl⟩
theorem rb : (ub 3).read 1 0 = (0, ⟨1, [0]⟩) ∧ (ub 3).read 1 1 = (0, ⟨1, [1]⟩) ∧ (ub 3).read 1 2 = (0, ⟨1, [3]⟩) := by first | exact ⟨rfl, rfl, rfl⟩ | exact ⟨by kernel_rfl, by kernel_rfl, by kernel_rfl⟩
theorem ag0 : agreeC ⟨1, [0]⟩ ⟨1, [0]⟩ = true ∧ agreeC ⟨1, [1]⟩ ⟨1, [1]⟩ = true ∧ agreeC ⟨1, [2]⟩ ⟨1, [3]⟩ = false := by decide
theorem common30 {r s : Int} {k m : Nat} {x y : Un} {n p : Int} (h : Fine r k (ua 3) x) (h' : Fine s m (ub 3) y) : common (M1 x n) (M1 y p) 0 3 = (0, 2) := by
 have a0 := read_one (n := n) (a := 0) h (by decide) (by decide)
 have a1 := read_one (n := n) (a := 1) h (by decide) (by decide)
 have a2 := read_one (n := n) (a := 2) h (by decide) (by decide)
 have b0 := read_one (n := p) (a := 0) h' (by decide) (by decide)
 have b1 := read_one (n := p) (a := 1) h' (by decide) (by decide)
 have b2 := read_one (n := p) (a := 2) h' (by decide) (by decide)
 rw [ra.1] at a0; rw [ra.2.1] at a1; rw [ra.2.2] at a2
 rw [rb.1] at b0; rw [rb.2.1] at b1; rw [rb.2.2] at b2
 have g0 : agreeAt (M1 x n) (M1 y p) 0 = (0, true) := by unfold agreeAt; rw [a0, b0]; simp [ag0.1]
 have g1 : agreeAt (M1 x n) (M1 y p) 1 = (0, true) := by unfold agreeAt; rw [a1, b1]; simp [ag0.2.1]
 have g2 : agreeAt (M1 x n) (M1 y p) 2 = (0, false) := by unfold agreeAt; rw [a2, b2]; simp [ag0.2.2]
 unfold common
 rw [if_neg (by decide)]
 show commonF (M1 x n) (M1 y p) 3 0 = _
 rw [commonF_next (by rw [g0]) (by rw [g0])]
 rw [commonF_next (a := 0 + 1) (by show (agreeAt (M1 x n) (M1 y p) 1).1 = 0; rw [g1]) (by show (agreeAt (M1 x n) (M1 y p) 1).2 = true; rw [g1])]
 rw [commonF_here (a := 0 + 1 + 1) (by show (agreeAt (M1 x n) (M1 y p) 2).1 = 0; rw [g2]) (by show (agreeAt (M1 x n) (M1 y p) 2).2 = false; rw [g2])]
 rfl
end SL
end Go.Proofs.YtddlkkmdcfamiaaGreatDoor

namespace Go.Proofs.YtddlkkmdcfamiaaGreatDoor
open Go.RowKit
namespace SL
open DK SH SQ
theorem Two.of {a b : Nat} {Ma Mb : Cl} {Pa : ClP} {J : CJ} {W w : World} (h1 : ClOK Ma Pa) (h : ClAt b Mb J (clB a Ma Pa) W w) : Two [] a Ma b Mb W w := by
 obtain ⟨Pb, _, h2, H⟩ := h
 rw [clL_eq] at H
 exact ⟨Pa, Pb, h1, h2, H.perm List.perm_append_comm⟩
set_option maxHeartbeats 8000000 in
theorem alive30_any (w : World) (hp : Pow w) : Calls Tryz.prog 5 #[] w fun e w' => e = .returned (.bool true) ∧ Below w.heap.size w w' := by
 have HP := Lib.hid' hp
 obtain ⟨x1, hx1, hs1, hn1⟩ := new_one (r := 1048576) (by decide)
 have HN1 := Lib.hid' hn1
 have HF := Zh (And.intro hx1 hs1)
 have HO := Zh (m1_ok hx1 hs1 ⟨by decide, by decide⟩ : (M1 x1 0).ok)
 clear hx1 hs1 hn1 hp
 go_enter Tryz.func5, Tryz.ntmps5
 go_wp2_with fail
 obtain ⟨w0, hw0, hb0, hX⟩ := chs_one (w := w)
 rw [hw0]
 have hL : Sep w NoF [] w0 := (Sep.start w).below hb0
 clear hw0 hb0
 have HNW := Zh (New_any 1 1048576 _ _ _ w0 HP.out hL hX (by show ([0] : List Int).length ≤ _; decide))
 clear hX hL
 refine HNW.out.mono ?_
 rintro e w1 hE
 unfold NewR at hE
 rw [show newCl 1 1048576 (([([0], some ⟨w.heap.size, 0, none⟩, 1)] : List Ch).map (·.1)) = (0, M1 x1 0) from HN1.out] at hE
 obtain ⟨ca, Pa, rfl, hoka, h1⟩ : ∃ c P, e = .returned (.tuple #[ptrV c, .nilIface]) ∧ ClOK (M1 x1 0) P ∧ Sep w NoF (clB c (M1 x1 0) P) w1 := by
  rcases hE with ⟨h0, _⟩ | ⟨_, c, J, h, P, _, h2, h3⟩
  ·exact absurd rfl h0
  ·rw [clL_eq, List.append_nil] at h3
   exact ⟨c, P, h, h2, h3⟩
 have H1 := Lib.hid' h1
 have HK := Lib.hid' hoka
 clear hE h1 HNW hoka
 go_wp2_with fail
 obtain ⟨w2, hw2, hb2, hX⟩ := chs_one (w := w1)
 rw [hw2]
 have hL : Sep w NoF (clB ca (M1 x1 0) Pa) w2 := H1.out.below hb2
 clear hw2 hb2 H1
 have HNW := Zh (New_any 1 1048576 _ _ _ w2 HP.out hL hX (by show ([0] : List Int).length ≤ _; decide))
 clear hX hL
 refine HNW.out.mono ?_
 rintro e w3 hE
 unfold NewR at hE
 rw [show newCl 1 1048576 (([([0], some ⟨w1.heap.size, 0, none⟩, 1)] : List Ch).map (·.1)) = (0, M1 x1 0) from HN1.out] at hE
 obtain ⟨cb, rfl, h3⟩ : ∃ c, e = .returned (.tuple #[ptrV c, .nilIface]) ∧ Two [] ca (M1 x1 0) c (M1 x1 0) w w3 := by
  rcases hE with ⟨h0, _⟩ | ⟨_, c, J, h, h2⟩
  ·exact absurd rfl h0
  ·exact ⟨c, h, Two.of HK.out h2⟩
 have H3 := Lib.hid' h3
 clear hE h3 HNW HN1 HK
 generalize w1.heap.size = N9 at *
 go_wp2_with fail
 go_loopw [33] (fun v33 wr => ∃ (K : Nat) (k : Int) (xa xb : Un), k = (K : Int) ∧ v33 = .int .i64 k ∧ K ≤ 3 ∧ Fine 1048576 (K + 1) (ua K) xa ∧ Sd xa.d ∧ Fine 1048576 (K + 1) (ub K) xb ∧ Sd xb.d ∧ Hid (Two [] ca (M1 xa k) cb (M1 xb k) w wr)) (fun v33 _ => (3 - intOf v33).toNat)
 case atStart => exact ⟨0, 0, x1, x1, rfl, rfl, by decide, HF.out.1, HF.out.2, HF.out.1, HF.out.2, H3⟩
 case round =>
  clear H3 HF HO
  obtain ⟨K, k, xa, xb, hk, rfl, hK, hfa, hsa, hfb, hsb, H0⟩ := hrel
  rcases (show K = 0 ∨ K = 1 ∨ K = 2 ∨ K = 3 by omega) with rfl | rfl | rfl | rfl
  ·obtain rfl : k = 0 := by simpa using hk
   clear hk hK
   have HFA := Lib.hid' ap_a0
   have HFB := Lib.hid' ap_b0
   obtain ⟨ya, hya, hsya, hea⟩ := append_one (n := 0) (d := [0]) hfa hsa (by decide) (by decide) (by decide) (by decide) (by decide) HFA.out
   obtain ⟨yb, hyb, hsyb, heb⟩ := append_one (n := 0) (d := [0]) hfb hsb (by decide) (by decide) (by decide) (by decide) (by decide) HFB.out
   have HOA := Zh (m1_ok hfa hsa ⟨by decide, by decide⟩ : (M1 xa 0).ok)
   have HOB := Zh (m1_ok hfb hsb ⟨by decide, by decide⟩ : (M1 xb 0).ok)
   have HEA := Zh (show (M1 xa 0).append [0] = (0, 0, M1 ya 1) from hea)
   have HEB := Zh (show (M1 xb 0).append [0] = (0, 0, M1 yb 1) from heb)
   have HYA := Zh (And.intro hya hsya)
   have HYB := Zh (And.intro hyb hsyb)
   clear hfa hsa hfb hsb hya hsya hea hyb hsyb heb
   go_wp2_with fail
   have H1 := Zh (H0.out.box wr.heap.size [byteV 0] 5 rfl)
   have hz1 : wr.alloc (Obj.cells #[Value.int IntKind.u8 0] 5) = wr.alloc (.cells [byteV 0].toArray 5) := rfl
   rw [hz1]
   clear hz1 H0
   generalize wr.alloc (.cells [byteV 0].toArray 5) = w1 at *
   generalize wr.heap.size = N1 at *
   refine (two_append (Z := [.box N1 [byteV 0] 5]) [0] (some ⟨N1, 0, none⟩) 1 w1 HP.out H1.out HOA.out (fun w' h' => slv_box h' 0 rfl)).mono ?_
   rintro e w2 hE
   rw [HEA.out] at hE
   obtain ⟨rfl, h2⟩ := hE
   have H2 := Lib.hid' h2.less
   clear h2 H1
   rw [errV_0]
   go_wp2_with fail
   have H3 := Zh (H2.out.swap.box w2.heap.size [byteV 0] 5 rfl)
   have hz3 : w2.alloc (Obj.cells #[Value.int IntKind.u8 0] 5) = w2.alloc (.cells [byteV 0].toArray 5) := rfl
   rw [hz3]
   clear hz3 H2
   generalize w2.alloc (.cells [byteV 0].toArray 5) = w3 at *
   generalize w2.heap.size = N3 at *
   refine (two_append (Z := [.box N3 [byteV 0] 5]) [0] (some ⟨N3, 0, none⟩) 1 w3 HP.out H3.out HOB.out (fun w' h' => slv_box h' 0 rfl)).mono ?_
   rintro e w4 hE
   rw [HEB.out] at hE
   obtain ⟨rfl, h4⟩ := hE
   have H4 := Lib.hid' h4.less.swap
   clear h4 H3
   rw [errV_0]
   go_wp2_with fail
   go_roundw
   case rel => exact ⟨1, 1, ya, yb, rfl, rfl, by decide, HYA.out.1, HYA.out.2, HYB.out.1, HYB.out.2, H4⟩
   case measure => simp [intOf]
  ·obtain rfl : k = 1 := by simpa using hk
   clear hk hK
   have HFA := Lib.hid' ap_a1
   have HFB := Lib.hid' ap_b1
   obtain ⟨ya, hya, hsya, hea⟩ := append_one (n := 1) (d := [1]) hfa hsa (by decide) (by decide) (by decide) (by decide) (by decide) HFA.out
   obtain ⟨yb, hyb, hsyb, heb⟩ := append_one (n := 1) (d := [1]) hfb hsb (by decide) (by decide) (by decide) (by decide) (by decide) HFB.out
   have HOA := Zh (m1_ok hfa hsa ⟨by decide, by decide⟩ : (M1 xa 1).ok)
   have HOB := Zh (m1_ok hfb hsb ⟨by decide, by decide⟩ : (M1 xb 1).ok)
   have HEA := Zh (show (M1 xa 1).append [1] = (0, 1, M1 ya 2) from hea)
   have HEB := Zh (show (M1 xb 1).append [1] = (0, 1, M1 yb 2) from heb)
   have HYA := Zh (And.intro hya hsya)
   have HYB := Zh (And.intro hyb hsyb)
   clear hfa hsa hfb hsb hya hsya hea hyb hsyb heb
   go_wp2_with fail
   have H1 := Zh (H0.out.box wr.heap.size [byteV 1] 5 rfl)
   have hz1 : wr.alloc (Obj.cells #[Value.int IntKind.u8 1] 5) = wr.alloc (.cells [byteV 1].toArray 5) := rfl
   rw [hz1]
   clear hz1 H0
   generalize wr.alloc (.cells [byteV 1].toArray 5) = w1 at *
   generalize wr.heap.size = N1 at *
   refine (two_append (Z := [.box N1 [byteV 1] 5]) [1] (some ⟨N1, 0, none⟩) 1 w1 HP.out H1.out HOA.out (fun w' h' => slv_box h' 0 rfl)).mono ?_
   rintro e w2 hE
   rw [HEA.out] at hE
   obtain ⟨rfl, h2⟩ := hE
   have H2 := Lib.hid' h2.less
   clear h2 H1
   rw [errV_0]
   go_wp2_with fail
   have H3 := Zh (H2.out.swap.box w2.heap.size [byteV 1] 5 rfl)
   have hz3 : w2.alloc (Obj.cells #[Value.int IntKind.u8 1] 5) = w2.alloc (.cells [byteV 1].toArray 5) := rfl
   rw [hz3]
   clear hz3 H2
   generalize w2.alloc (.cells [byteV 1].toArray 5) = w3 at *
   generalize w2.heap.size = N3 at *
   refine (two_append (Z := [.box N3 [byteV 1] 5]) [1] (some ⟨N3, 0, none⟩) 1 w3 HP.out H3.out HOB.out (fun w' h' => slv_box h' 0 rfl)).mono ?_
   rintro e w4 hE
   rw [HEB.out] at hE
   obtain ⟨rfl, h4⟩ := hE
   have H4 := Lib.hid' h4.less.swap
   clear h4 H3
   rw [errV_0]
   go_wp2_with fail
   go_roundw
   case rel => exact ⟨2, 2, ya, yb, rfl, rfl, by decide, HYA.out.1, HYA.out.2, HYB.out.1, HYB.out.2, H4⟩
   case measure => simp [intOf]
  ·obtain rfl : k = 2 := by simpa using hk
   clear hk hK
   have HFA := Lib.hid' ap_a2
   have HFB := Lib.hid' ap_b2
   obtain ⟨ya, hya, hsya, hea⟩ := append_one (n := 2) (d := [2]) hfa hsa (by decide) (by decide) (by decide) (by decide) (by decide) HFA.out
   obtain ⟨yb, hyb, hsyb, heb⟩ := append_one (n := 2) (d := [3]) hfb hsb (by decide) (by decide) (by decide) (by decide) (by decide) HFB.out
   have HOA := Zh (m1_ok hfa hsa ⟨by decide, by decide⟩ : (M1 xa 2).ok)
   have HOB := Zh (m1_ok hfb hsb ⟨by decide, by decide⟩ : (M1 xb 2).ok)
   have HEA := Zh (show (M1 xa 2).append [2] = (0, 2, M1 ya 3) from hea)
   have HEB := Zh (show (M1 xb 2).append [3] = (0, 2, M1 yb 3) from heb)
   have HYA := Zh (And.intro hya hsya)
   have HYB := Zh (And.intro hyb hsyb)
   clear hfa hsa hfb hsb hya hsya hea hyb hsyb heb
   go_wp2_with fail
   have H1 := Zh (H0.out.box wr.heap.size [byteV 2] 5 rfl)
   have hz1 : wr.alloc (Obj.cells #[Value.int IntKind.u8 2] 5) = wr.alloc (.cells [byteV 2].toArray 5) := rfl
   rw [hz1]
   clear hz1 H0
   generalize wr.alloc (.cells [byteV 2].toArray 5) = w1 at *
   generalize wr.heap.size = N1 at *
   refine (two_append (Z := [.box N1 [byteV 2] 5]) [2] (some ⟨N1, 0, none⟩) 1 w1 HP.out H1.out HOA.out (fun w' h' => slv_box h' 0 rfl)).mono ?_
   rintro e w2 hE
   rw [HEA.out] at hE
   obtain ⟨rfl, h2⟩ := hE
   have H2 := Lib.hid' h2.less
   clear h2 H1
   rw [errV_0]
   go_wp2_with fail
   have H3 := Zh (H2.out.swap.box w2.heap.size [byteV 3] 5 rfl)
   have hz3 : w2.alloc (Obj.cells #[Value.int IntKind.u8 3] 5) = w2.alloc (.cells [byteV 3].toArray 5) := rfl
   rw [hz3]
   clear hz3 H2
   generalize w2.alloc (.cells [byteV 3].toArray 5) = w3 at *
   generalize w2.heap.size = N3 at *
   refine (two_append (Z := [.box N3 [byteV 3] 5]) [3] (some ⟨N3, 0, none⟩) 1 w3 HP.out H3.out HOB.out (fun w' h' => slv_box h' 0 rfl)).mono ?_
   rintro e w4 hE
   rw [HEB.out] at hE
   obtain ⟨rfl, h4⟩ := hE
   have H4 := Lib.hid' h4.less.swap
   clear h4 H3
   rw [errV_0]
   go_wp2_with fail
   go_roundw
   case rel => exact ⟨3, 3, ya, yb, rfl, rfl, by decide, HYA.out.1, HYA.out.2, HYB.out.1, HYB.out.2, H4⟩
   case measure => simp [intOf]
  ·obtain rfl : k = 3 := by simpa using hk
   clear hk hK
   have HC := Zh (common30 (n := 3) (p := 3) hfa hfb)
   have HOA := Zh (m1_ok hfa hsa ⟨by decide, by decide⟩ : (M1 xa 3).ok)
   have HOB := Zh (m1_ok hfb hsb ⟨by decide, by decide⟩ : (M1 xb 3).ok)
   clear hfa hsa hfb hsb
   go_wp2_with fail
   obtain ⟨J, Pb, h1, _⟩ := H0.out.fst
   obtain ⟨J', L', h2⟩ := H0.out.snd
   have HB := Lib.hid' H0.out.toBelow
   refine (Common_any 0 3 wr h1 h2 HOA.out HOB.out).mono ?_
   rintro e w5 ⟨rfl, h5⟩
   rw [HC.out]
   have H5 := Zh (below_call HB.out HB.out.size h5)
   clear h1 h2 h5 H0
   rw [errV_0]
   go_wp2_with fail
   first | exact ⟨rfl, H5.out⟩ | (go_ret; exact ⟨rfl, H5.out⟩)
end SL
end Go.Proofs.YtddlkkmdcfamiaaGreatDoor

namespace Go.Proofs.YtddlkkmdcfamiaaGreatDoor
open Go.RowKit
theorem frkTake_put {L : List (Int × C)} (h : (frkPut L).1 = 0) (hn : L.length ≤ 65536) : frkTake (frkPut L).2 = (0, L) := by
 unfold frkPut at h ⊢
 by_cases h0 : ofErr 0 0 L ≠ 0
 ·rw [if_pos h0] at h; exact absurd h h0
 ·rw [if_neg h0] at h ⊢
  have h1 : ofErr 0 0 L = 0 := by omega
  unfold putU at h ⊢
  by_cases h2 : 65536 < (unitB 0 0 L).length
  ·rw [if_pos h2] at h; exact absurd h (by decide)
  ·rw [if_neg h2]
   have h3 := takeU_put h1 hn (by omega)
   unfold frkTake
   simp only [h3]
   simp
open SH SL in
set_option maxHeartbeats 16000000 in
theorem forkBytes_any (a b : C) (pa : Option Addr) (ca : Nat) (pb : Option Addr) (cb : Nat) (E : List Ent) (ea : Option Addr) (ec : Nat) (w : World) (hp : DK.Pow w) (ha : Bytes w (.slice pa a.d.length ca) a.d) (hb : Bytes w (.slice pb b.d.length cb) b.d) (h : EL w ea ec E) :
  Calls Tryz.prog 4 #[.agg #[.int .i64 a.k, .slice pa a.d.length ca], .agg #[.int .i64 b.k, .slice pb b.d.length cb], .slice ea E.length ec] w fun en w' => en = .returned (.bool true) ∧ Below w.heap.size w w' := by
 have HDA := Lib.hid' ha
 have HDB := Lib.hid' hb
 have HEL := Lib.hid' h
 have hla := bytes_len ha
 have hlb := bytes_len hb
 clear ha hb h
 have hs1 := ((Sep.start w).allocAt w.heap.size [.int .i64 a.k, .slice pa a.d.length ca] 36 rfl).allocAt (w.heap.size + 1) [.int .i64 b.k, .slice pb b.d.length cb] 36 (by simp)
 obtain ⟨w1, hw1⟩ : ∃ w1, (w.alloc (.cells #[.int .i64 a.k, .slice pa a.d.length ca] 36)).alloc (.cells #[.int .i64 b.k, .slice pb b.d.length cb] 36) = w1 := ⟨_, rfl⟩
 have hs2 : Sep w NoF [.box (w.heap.size + 1) [.int .i64 b.k, .slice pb b.d.length cb] 36, .box w.heap.size [.int .i64 a.k, .slice pa a.d.length ca] 36] w1 := by rw [← hw1]; exact hs1
 have HS1 := Lib.hid' hs2
 have HA := Zh (alive30_any w1 (hp.below hs2.toBelow))
 clear hs1 hs2 hp
 go_enter Tryz.func4, Tryz.ntmps4
 go_upto_region 1 with fail
 try rw [hw1]
 clear hw1
 go_wp2_with fail
 refine HA.out.mono ?_
 clear HA
 rintro en w2 ⟨rfl, hb2⟩
 have HS2 := Zh (HS1.out.below hb2)
 clear hb2 HS1
 have q0 := HS2.out.cell 1 rfl 0 rfl; have q1 := HS2.out.cell 1 rfl 1 rfl; have ql := HS2.out.lt 1 rfl
 have r0 := HS2.out.cell 0 rfl 0 rfl; have r1 := HS2.out.cell 0 rfl 1 rfl; have rl := HS2.out.lt 0 rfl
 go_wp2_with fail
 have HL5 := Zh (long5_any [(a, pa, ca), (b, pb, cb)] 2 (by decide) (some ⟨w2.heap.size, 0, none⟩) 2 _ (SlV.new w2 [.int .i64 a.k, .slice pa a.d.length ca, .int .i64 b.k, .slice pb b.d.length cb] 2 36 (by unfold maxLen; decide)) (by
  intro x hx
  rcases List.mem_cons.1 hx with rfl | hx
  ·show a.d.length ≤ _; omega
  ·obtain rfl := List.mem_singleton.1 hx
   show b.d.length ≤ _; omega))
 have HS3 := Zh (HS2.out.below (show Below w2.heap.size w2 (w2.alloc (.cells #[.int .i64 a.k, .slice pa a.d.length ca, .int .i64 b.k, .slice pb b.d.length cb] 36)) by go_grown))
 have e0 : w2.alloc (.cells [Value.int .i64 a.k, .slice pa a.d.length ca, .int .i64 b.k, .slice pb b.d.length cb].toArray 36) = w2.alloc (.cells #[.int .i64 a.k, .slice pa a.d.length ca, .int .i64 b.k, .slice pb b.d.length cb] 36) := rfl
 rw [e0] at HL5
 clear e0 q0 q1 ql r0 r1 rl HS2
 generalize (w2.alloc (.cells #[.int .i64 a.k, .slice pa a.d.length ca, .int .i64 b.k, .slice pb b.d.length cb] 36)) = w3 at *
 have hq5 : ([(a, pa, ca), (b, pb, cb)].any long5 || decide (2 < [(a, pa, ca), (b, pb, cb)].length)) = (decide (100 < a.d.length) || decide (100 < b.d.length)) := by simp [long5]
 rw [hq5] at HL5
 clear hq5
 have HL5 : Hid (Calls Tryz.prog 10 #[.slice (some ⟨w2.heap.size, 0, none⟩) 2 2, .int .i64 2] w3 fun e w' => e = .returned (.bool (decide (100 < a.d.length) || decide (100 < b.d.length))) ∧ Below w3.heap.size w3 w') := HL5
 refine HL5.out.mono ?_
 clear HL5
 rintro en w4 ⟨rfl, hb4⟩
 have HS4 := Zh (HS3.out.below hb4)
 clear hb4 HS3
 by_cases h5 : 100 < a.d.length ∨ 100 < b.d.length
 ·have h5b : (decide (100 < a.d.length) || decide (100 < b.d.length)) = true := by simpa using h5
  rw [h5b]
  clear h5 h5b
  go_wp2_with fail
  go_ret
  exact ⟨rfl, HS4.out.toBelow⟩
 have h5b : (decide (100 < a.d.length) || decide (100 < b.d.length)) = false := by simp; omega
 rw [h5b]
 have HLA := Zh (show a.d.length ≤ 1099511627776 by omega)
 have HLB := Zh (show b.d.length ≤ 1099511627776 by omega)
 clear h5 h5b
 have HL8 := Zh (long8_any E 60 (by decide) ea ec w4 (HEL.out.below (Nat.le_refl _) HS4.out.toBelow))
 go_wp2_with fail
 refine HL8.out.mono ?_
 clear HL8
 rintro en w5 ⟨rfl, hb5⟩
 have HS5 := Zh (HS4.out.below hb5)
 clear hb5 HS4
 cases h8 : (E.any longE || decide (60 < E.length))
 rotate_left
 ·go_wp2_with fail
  go_ret
  exact ⟨rfl, HS5.out.toBelow⟩
 have HN := Zh (show E.length ≤ 60 ∧ ∀ x ∈ E, x.2.1.d.length ≤ 100 by
  rw [Bool.or_eq_false_iff] at h8
  refine ⟨by have := h8.2; simp at this; exact this, fun x hx => ?_⟩
  have := List.any_eq_false.1 h8.1 x hx
  simpa [longE] using this)
 clear h8
 go_upto_region 5 with fail
 generalize hg : agreeC a b = g
 have HS0 : Sep w NoF [.box (w.heap.size + 1) [.int .i64 b.k, .slice pb b.d.length cb] 36, .box w.heap.size [.int .i64 a.k, .slice pa a.d.length ca] 36] w5.drew := HS5.out.drew
 go_cut [30] (fun v30 wc => v30 = .bool false ∧ Sep w NoF [.box (w.heap.size + 1) [.int .i64 b.k, .slice pb b.d.length cb] 36, .box w.heap.size [.int .i64 a.k, .slice pa a.d.length ca] 36] wc)
 case first =>
  refine wp_region_held_drew (S := (fun w' => Sep w NoF [.box (w.heap.size + 1) [.int .i64 b.k, .slice pb b.d.length cb] 36, .box w.heap.size [.int .i64 a.k, .slice pa a.d.length ca] 36] w')) (by kernel_rfl) HS0 (fun hH0 => ?_)
  refine tA 0 (.agg #[.int .i64 a.k, .slice pa a.d.length ca]) rfl hH0 ?_ ?_
  ·intro w hSw; have q0 := hSw.cell 1 rfl 0 rfl; have q1 := hSw.cell 1 rfl 1 rfl; go_simp
  simp only [Act.put, gA, gZ, gS, sA, sZ, sS]
  refine tA 1 (.agg #[.int .i64 b.k, .slice pb b.d.length cb]) rfl hH0 ?_ ?_
  ·intro w hSw; have q0 := hSw.cell 0 rfl 0 rfl; have q1 := hSw.cell 0 rfl 1 rfl; go_simp
  simp only [Act.put, gA, gZ, gS, sA, sZ, sS]
  refine tA 3 (.agg #[.int .i64 a.k, .slice pa a.d.length ca]) rfl hH0 ?_ ?_
  ·intro w hSw; have q0 := hSw.cell 1 rfl 0 rfl; have q1 := hSw.cell 1 rfl 1 rfl; go_simp
  simp only [Act.put, gA, gZ, gS, sA, sZ, sS]
  refine tA 5 (.agg #[.int .i64 b.k, .slice pb b.d.length cb]) rfl hH0 ?_ ?_
  ·intro w hSw; have q0 := hSw.cell 0 rfl 0 rfl; have q1 := hSw.cell 0 rfl 1 rfl; go_simp
  simp only [Act.put, gA, gZ, gS, sA, sZ, sS]
  refine rD 2 rfl (fun K hK => ?_)
  go_simp
  refine (Agree_any (.agg #[.int .i64 a.k, .slice pa a.d.length ca]) (.agg #[.int .i64 b.k, .slice pb b.d.length cb]) a b _ ⟨pa, ca, rfl, HS0.oldBytes HDA.out⟩ ⟨pb, cb, rfl, HS0.oldBytes HDB.out⟩).mono ?_
  rintro en wc1 ⟨rfl, hbc⟩
  rw [hg]
  have HS1 : Sep w NoF [.box (w.heap.size + 1) [.int .i64 b.k, .slice pb b.d.length cb] 36, .box w.heap.size [.int .i64 a.k, .slice pa a.d.length ca] 36] wc1 := HS0.below hbc
  clear hbc
  refine hK.out _ _ ?_ (fun hH1 => ?_)
  ·exact HS1
  clear hK K
  refine rD 4 rfl (fun K hK => ?_)
  go_simp
  refine (docCell_any (.agg #[.int .i64 a.k, .slice pa a.d.length ca]) a _ ⟨pa, ca, rfl, HS1.oldBytes HDA.out⟩).mono ?_
  rintro en wc2 ⟨rfl, hbc⟩
  have HS2 : Sep w NoF [.box (w.heap.size + 1) [.int .i64 b.k, .slice pb b.d.length cb] 36, .box w.heap.size [.int .i64 a.k, .slice pa a.d.length ca] 36] wc2 := HS1.below hbc
  clear hbc
  refine hK.out _ _ ?_ (fun hH2 => ?_)
  ·exact HS2
  clear hK K
  refine rD 6 rfl (fun K hK => ?_)
  go_simp
  refine (docCell_any (.agg #[.int .i64 b.k, .slice pb b.d.length cb]) b _ ⟨pb, cb, rfl, HS2.oldBytes HDB.out⟩).mono ?_
  rintro en wc3 ⟨rfl, hbc⟩
  have HS3 : Sep w NoF [.box (w.heap.size + 1) [.int .i64 b.k, .slice pb b.d.length cb] 36, .box w.heap.size [.int .i64 a.k, .slice pa a.d.length ca] 36] wc3 := HS2.below hbc
  clear hbc
  refine hK.out _ _ ?_ (fun hH3 => ?_)
  ·exact HS3
  clear hK K
  refine rD 7 rfl (fun K hK => ?_)
  go_simp
  refine (rAgree_any a b _ HLA.out HLB.out).mono ?_
  rintro en wc4 ⟨rfl, hbc⟩
  rw [hg]
  have HS4 : Sep w NoF [.box (w.heap.size + 1) [.int .i64 b.k, .slice pb b.d.length cb] 36, .box w.heap.size [.int .i64 a.k, .slice pa a.d.length ca] 36] wc4 := HS3.below hbc
  clear hbc
  refine hK.out _ _ ?_ (fun hH4 => ?_)
  ·exact HS4
  clear hK K
  refine tA 8 (.bool false) rfl hH4 ?_ ?_
  ·intro w hSw; go_simp
  simp only [Act.put, gA, gZ, gS, sA, sZ, sS]
  refine wpAnyH_done (by kernel_rfl) ?_ _
  go_wp2_with fail
  go_meet
  exact ⟨rfl, HS4⟩
 case rest =>
 obtain ⟨rfl, h9⟩ := hcut
 obtain ⟨w9, hw9⟩ : ∃ w9, w9 = wc := ⟨_, rfl⟩
 rw [← hw9] at h9 ⊢
 clear hw9 HS0 HS5 hg
 have HB9 := Lib.hid' h9.toBelow
 clear h9
 have hlen : (docE E).length = E.length := docE_len E
 have HPU := Zh (frkPut_any E ea ec w9 (HEL.out.below (Nat.le_refl _) HB9.out) (by have := HN.out.1; omega))
 have HRP := Zh (fun (aq : Option Addr) (cq : Nat) (wq : World) (hq : RList wq (.slice aq (docE E).length cq) (docE E)) => rfrkPut_any (docE E) aq cq wq hq (by
  intro p hp
  obtain ⟨x, hx, rfl⟩ := List.mem_map.1 hp
  have := HN.out.2 x hx
  show x.2.1.d.length ≤ _
  omega) (by rw [hlen]; have := HN.out.1; omega))
 have HTP := Zh (fun hq => frkTake_put (L := docE E) hq (by rw [hlen]; have := HN.out.1; omega))
 have HEN := Zh (fun (wq : World) (hq : Below w.heap.size w wq) => lEntries_any E ea ec wq (HEL.out.below (Nat.le_refl _) hq).1 (HEL.out.below (Nat.le_refl _) hq).2 (by have := HN.out.1; omega))
 rw [hlen] at HRP
 have HLEN := Lib.hid' hlen
 clear hlen HN
 generalize frkPut (docE E) = r at *
 obtain ⟨z, X⟩ := r
 simp only at HTP
 go_wp2_with fail
 refine HPU.out.mono ?_
 clear HPU
 rintro en w10 ⟨xa, xc, rfl, ho, hb10⟩
 have H10 := Zh (((Sep.start w).below HB9.out).belowRow hb10 ho)
 simp only at H10 ⊢
 clear ho hb10 HB9
 go_wp2_with fail
 refine (HEN.out _ H10.out.toBelow).mono ?_
 rintro en w11 ⟨a3, c3, rfl, ho3, hb11⟩
 have HR3 := Zh (show RList w11 (.slice a3 E.length c3) (docE E) by unfold RList; rw [HLEN.out]; exact SlV.of_own ho3)
 have H11 := Zh (H10.out.below hb11)
 clear ho3 hb11 H10
 go_wp2_with fail
 refine (HRP.out a3 c3 _ HR3.out).mono ?_
 clear HRP HR3
 rintro en w12 ⟨ya, yc, rfl, hoy, hb12⟩
 have HY := Zh (show Bytes w12 (.slice ya X.length yc) X from SlV.of_own hoy)
 have H12 := Zh (H11.out.below hb12)
 simp only
 clear hoy hb12 H11
 have HX := Zh (show Bytes w12 (.slice xa X.length xc) X from SlV.of_own (H12.out.row 0 rfl))
 have HNB := Zh (numBytes_any _ _ X X w12 HX.out HY.out)
 rw [show (X == X) = true by simp] at HNB
 go_wp2_with fail
 refine HNB.out.mono ?_
 clear HNB
 rintro en w13 ⟨rfl, rfl⟩
 go_wp2_with fail
 refine (num_any z _).mono ?_
 rintro en w14 ⟨rfl, rfl⟩
 have hzz : ((z : Int) != (z : Int)) = false := by simp
 by_cases hz : z = 0
 rotate_left
 ·have hzb : ((z : Int) != 0) = true := by rw [bne_iff_ne]; omega
  clear hz
  go_wp2_with fail
  go_ret
  exact ⟨rfl, H12.out.toBelow⟩
 subst hz
 have HFT := Zh (frkTake_all X xa xc w12 HX.out)
 rw [HTP.out rfl] at HFT
 clear HTP hzz
 go_wp2_with fail
 refine HFT.out.mono ?_
 clear HFT HX HY
 rintro en w15 ⟨E', a5, c5, rfl, hE, hl, hel, hb15⟩
 have HE := Lib.hid' hE
 have HL := Lib.hid' hl
 have HE5 := Lib.hid' hel
 have H15 := Zh (H12.out.below hb15)
 clear hE hl hel hb15 H12
 simp only [errV_0]
 go_wp2_with fail
 refine (HEN.out _ H15.out.toBelow).mono ?_
 rintro en w16 ⟨a6, c6, rfl, ho6, hb16⟩
 have HAR := Zh (are_any E' (docE E) a5 c5 a6 c6 w16 (HE5.out.below (Nat.le_refl _) hb16) (by unfold RList; rw [HLEN.out]; exact SlV.of_own ho6) (by have := HL.out; omega))
 rw [show decide (E'.map noAd = docE E) = true from decide_eq_true HE.out, HLEN.out] at HAR
 have H16 := Zh (H15.out.below hb16)
 clear ho6 hb16 H15 HE5 HEN
 go_wp2_with fail
 refine HAR.out.mono ?_
 clear HAR
 rintro en w17 ⟨rfl, hb17⟩
 have HB17 := Zh (H16.out.toBelow.trans (hb17.mono H16.out.toBelow.size))
 clear hb17
 go_wp2_with fail
 go_ret
 exact ⟨rfl, HB17.out⟩
end Go.Proofs.YtddlkkmdcfamiaaGreatDoor
