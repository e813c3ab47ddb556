/- Proved here: a part of the proof (34 of 34). -/
import Derived.Test.YtddlkkmdcfamiaaGreatDoorA33
import Derived.Test.YtddlkkmdcfamiaaGreatDoorA24
import Derived.Test.YtddlkkmdcfamiaaGreatDoorA26
import Derived.Lib.SlBytesConst
import Derived.Test.YtddlkkmdcfamiaaGreatDoorA27
import Derived.Test.YtddlkkmdcfamiaaGreatDoorA30
set_option linter.unusedSimpArgs false
set_option linter.unusedVariables false
set_option maxRecDepth 100000
namespace Go.Proofs.YtddlkkmdcfamiaaGreatDoor
open Go.RowKit
namespace SL
open DK SH SQ
def Cl.addN (room : Int) : Nat → Cl → Nat × Cl
 | 0, M => (0, M)
 | k + 1, M => if (M.add room).1 ≠ 0 then M.add room else Cl.addN room k (M.add room).2
/-- a cluster without units -/
def cl0 (X : List (List Int)) : Cl := ⟨[], ⟨1, X⟩, ⟨0, 0⟩⟩
def newCl (units room : Int) (X : List (List Int)) : Nat × Cl :=
 if units < 1 ∨ 8 < units then (1, cl0 X) else
 if (⟨1, X⟩ : Pj).check ≠ 0 then ((⟨1, X⟩ : Pj).check, cl0 X) else
 if (unitsOf (⟨1, X⟩ : Pj).all).any (fun u => decide (units ≤ u)) = true then (1, cl0 X) else
 if (Cl.addN room units.toNat (cl0 X)).1 ≠ 0 then ((Cl.addN room units.toNat (cl0 X)).1, cl0 X) else
 (0, { (Cl.addN room units.toNat (cl0 X)).2 with q := ⟨1, 0⟩ })
theorem add_len (M : Cl) (room : Int) : (M.add room).2.us.length ≤ M.us.length + 1 ∧ (M.add room).2.p = M.p ∧ (M.add room).2.q = M.q := by
 unfold Cl.add
 split
 ·exact ⟨Nat.le_succ _, rfl, rfl⟩
 ·have := Cl.do_len (M.grow (newU room)) M.us.length sealA
  refine ⟨?_, this.2.1, this.2.2⟩
  rw [this.1]
  show (M.us ++ [newU room]).length ≤ _
  simp
theorem addN_step {room : Int} {k : Nat} {M : Cl} (h : (M.add room).1 = 0) : Cl.addN room (k + 1) M = Cl.addN room k (M.add room).2 := by
 show (if (M.add room).1 ≠ 0 then _ else _) = _
 rw [if_neg (by rw [h]; decide)]
theorem addN_stop {room : Int} {k : Nat} {M : Cl} (h : (M.add room).1 ≠ 0) : Cl.addN room (k + 1) M = M.add room := by
 show (if (M.add room).1 ≠ 0 then _ else _) = _
 rw [if_pos h]
/-- what New answers: an error, or a cluster beside L -/
def NewR (r : Nat × Cl) (L : List Asn) (W : World) (e : Ending) (w' : World) : Prop :=
 (r.1 ≠ 0 ∧ e = .returned (.tuple #[.pointer none, errV r.1]) ∧ Sep W NoF L w') ∨ (r.1 = 0 ∧ ∃ c J, e = .returned (.tuple #[ptrV c, .nilIface]) ∧ ClAt c r.2 J L W w')
theorem chs_below {w w' : World} {a : Option Addr} {c : Nat} {X : List Ch} (h : Chs w a c X) (hb : Below w.heap.size w w') : Chs w' a c X := h.below (Nat.le_refl _) hb
set_option maxHeartbeats 16000000 in
theorem New_any {L : List Asn} {W : World} (units room : Int) (a : Option Addr) (c : Nat) (X : List Ch) (w : World) (hp : Pow W) (hL : Sep W NoF L w) (hX : Chs w a c X) (ht : (flatC X).length ≤ 1099511627776) :
  Calls Tryz.prog 19 #[.int .i64 units, .int .i64 room, .slice a X.length c] w (NewR (newCl units room (X.map (·.1))) L W) := by
 have HP := Lib.hid' hp
 have HL := Lib.hid' hL
 have HX := Lib.hid' hX
 have HN := Zh (show newCl units room (X.map (·.1)) = _ from rfl)
 have hXl := hX.len
 clear hp hL hX
 by_cases hu : units < 1 ∨ 8 < units
 ·have HR := Zh (show newCl units room (X.map (·.1)) = (1, cl0 (X.map (·.1))) by unfold newCl; rw [if_pos hu])
  go_enter Tryz.func19, Tryz.ntmps19
  rcases hu with hu | hu
  ·go_wp2_with fail
   go_ret2
   rw [HR.out]
   exact .inl ⟨show (1 : Nat) ≠ 0 by decide, rfl, HL.out.below (by go_grown)⟩
  ·have hu1 : ¬ units < 1 := by omega
   go_wp2_with fail
   go_ret2
   rw [HR.out]
   exact .inl ⟨show (1 : Nat) ≠ 0 by decide, rfl, HL.out.below (by go_grown)⟩
 have hu1 : ¬ units < 1 := by omega
 have hu8 : ¬ 8 < units := by omega
 have HU := Lib.hid' hu
 clear hu
 go_enter Tryz.func19, Tryz.ntmps19
 go_wp2_with fail
 have hb1 : Below w.heap.size w (w.alloc (.cells #[.int .i64 1, .slice a X.length c] 83)) := by go_grown
 obtain ⟨n, rfl⟩ : ∃ n : Nat, units = n := ⟨units.toNat, by omega⟩
 have hn8 : n ≤ 8 := by omega
 have hz0 : w.heap.size < (w.alloc (.cells #[.int .i64 1, .slice a X.length c] 83)).heap.size := by simp
 have p0 : (w.alloc (.cells #[.int .i64 1, .slice a X.length c] 83)).cell? ⟨w.heap.size, 0, none⟩ = some (.int .i64 1) := by simp [go_sem]
 have p1 : (w.alloc (.cells #[.int .i64 1, .slice a X.length c] 83)).cell? ⟨w.heap.size, 1, none⟩ = some (.slice a X.length c) := by simp [go_sem]
 generalize w.alloc (.cells #[.int .i64 1, .slice a X.length c] 83) = w1 at *
 refine (pcheck_any 1 a c X w1 (chs_below HX.out hb1) ht).mono ?_
 rintro e w2 ⟨rfl, hb2⟩
 by_cases hz : (docJ 1 X).check = 0
 rotate_left
 ·have HR := Zh (show newCl n room (X.map (·.1)) = ((docJ 1 X).check, cl0 (X.map (·.1))) by unfold newCl; rw [if_neg HU.out, if_pos (show (⟨1, X.map (·.1)⟩ : Pj).check ≠ 0 from hz)]; rfl)
  rw [errV_pos hz]
  have HZ := Lib.hid' hz
  have HB := Zh ((HL.out.below hb1).below hb2)
  clear hz
  go_wp2_with fail
  go_ret2
  rw [HR.out]
  exact .inl ⟨HZ.out, by rw [errV_pos HZ.out]; rfl, HB.out⟩
 have HZ := Lib.hid' hz
 rw [hz, errV_0]
 have hb12 : Below w.heap.size w w2 := below_call hb1 hb1.size hb2
 have p02 := (hb2.cell (p := ⟨w.heap.size, 0, none⟩) hz0).trans p0
 have p12 := (hb2.cell (p := ⟨w.heap.size, 1, none⟩) hz0).trans p1
 have hz2 : w.heap.size < w2.heap.size := Nat.lt_of_lt_of_le hz0 hb2.size
 clear hz p0 p1 hz0 hb1 hb2
 go_wp2_with fail
 refine (punits_any 1 a c X w2 (chs_below HX.out hb12) ht).mono ?_
 rintro e w3 hun
 obtain ⟨ua, uc, rfl, ho, hb3⟩ : ∃ ua uc, e = .returned (.slice ua (unitsOf (flatC X)).length uc) ∧ w3.ownsRow w2.heap.size 3 1 (.slice ua (unitsOf (flatC X)).length uc) (unitsOf (flatC X)).length (zVs (unitsOf (flatC X))) ∧ Below w2.heap.size w2 w3 := hun
 have hb13 : Below w.heap.size w w3 := below_call hb12 hb12.size hb3
 have p03 := (hb3.cell (p := ⟨w.heap.size, 0, none⟩) hz2).trans p02
 have p13 := (hb3.cell (p := ⟨w.heap.size, 1, none⟩) hz2).trans p12
 have hz3 : w.heap.size < w3.heap.size := Nat.lt_of_lt_of_le hz2 hb3.size
 have HZS := Zh (show Zs w3 (.slice ua (unitsOf (flatC X)).length uc) (unitsOf (flatC X)) from SlV.of_own ho)
 obtain ⟨l, hl⟩ : ∃ l, unitsOf (flatC X) = l := ⟨_, rfl⟩
 rw [hl] at HZS ⊢
 have HLL := Lib.hid' hl
 have hll : l.length ≤ 1099511627776 := by rw [← hl]; exact Nat.le_trans (unitsOf_len _) ht
 have HB13 := Lib.hid' hb13
 clear hl ho hb3 hb12 p02 p12 hz2 hb13
 go_wp2_with fail
 go_loop [31] (fun v31 => ∃ k : Nat, v31 = .int .i64 k ∧ k ≤ l.length ∧ Hid (∀ y ∈ l.take k, y < (n : Int))) (fun v31 => l.length - (intOf v31).toNat)
 case atStart => exact ⟨0, rfl, Nat.zero_le _, Zh (by simp)⟩
 case round =>
  obtain ⟨k, rfl, hk, HNO⟩ := hrel
  by_cases hlt : k < l.length
  ·obtain ⟨gb, go, rfl, hgb, hgc⟩ := HZS.out.at hlt
   have HM := Zh (show l[k] ∈ l from List.getElem_mem hlt)
   have HT := Zh (fun (h : l[k] < (n : Int)) => show ∀ y ∈ l.take (k + 1), y < (n : Int) from fun y hy => by
    rw [List.take_succ_eq_append_getElem hlt] at hy
    rcases List.mem_append.1 hy with hy | hy
    ·exact HNO.out y hy
    ·rw [List.mem_singleton.1 hy]; exact h)
   generalize l[k] = y at *
   by_cases hy : (n : Int) ≤ y
   ·have HR := Zh (show newCl n room (X.map (·.1)) = (1, cl0 (X.map (·.1))) by
     unfold newCl
     rw [if_neg HU.out, if_neg (show ¬ (⟨1, X.map (·.1)⟩ : Pj).check ≠ 0 from fun h => h HZ.out), if_pos]
     rw [List.any_eq_true]
     exact ⟨y, by rw [show unitsOf (⟨1, X.map (·.1)⟩ : Pj).all = l from HLL.out]; exact HM.out, by simpa using hy⟩)
    go_wp2_with fail
    go_ret2
    rw [HR.out]
    exact .inl ⟨show (1 : Nat) ≠ 0 by decide, rfl, HL.out.below HB13.out⟩
   ·have HT2 := Zh (HT.out (by omega))
    go_wp2_with fail
    go_round
    case rel => exact ⟨k + 1, by go_num, by omega, HT2⟩
    case measure => simp [intOf]; omega
  ·have HNA := Zh (show ∀ y ∈ l, y < (n : Int) from fun y hy => HNO.out y (by rw [List.take_of_length_le (by omega)]; exact hy))
   clear HNO HZS
   go_wp2_with fail
   have hpk := pj_ok HZ.out
   have hXn : X.length ≤ 4 := by have := hpk.n.2; simpa [docJ] using this
   have hXe : ∀ x ∈ X, x.1.length ≤ 4 := fun x hx => (hpk.each x.1 (List.mem_map_of_mem (f := (·.1)) hx)).2
   refine (pcopy_any 1 a c X w3 (chs_below HX.out HB13.out) (by omega) (fun x hx => by have := hXe x hx; omega)).mono ?_
   rintro e w4 ⟨a4, c4, K4, rfl, hj, hmap, hb4⟩
   have H4 := Zh ((HL.out.below HB13.out).pastJ hb4 hj)
   have hKl : K4.length = X.length := by have := congrArg List.length hmap; simpa using this
   have HMP := Lib.hid' hmap
   have hp04 := (hb4.cell (p := ⟨w.heap.size, 0, none⟩) hz3).trans p03
   rw [show pjV 1 a4 c4 K4 = .agg #[.int .i64 1, .slice a4 K4.length c4] from rfl]
   clear hpk hXe hj hmap hb4 p03 p13 hp04 hz3 hXn
   have HKL := Lib.hid' hKl
   clear hKl
   go_wp2_with fail
   refine (SQ.new_any _).mono ?_
   rintro e w5 ⟨rfl, h5⟩
   have H5 := Zh (H4.out.call0 h5)
   generalize w4.heap.size = b5 at *
   clear h5 H4
   go_wp2_with fail
   have G := ((((H5.out.allocAt w5.heap.size [.slice none 0 0, .slice none 0 0, .int .i64 1, .slice a4 K4.length c4, ptrV b5] 92 rfl).nilRow 154 1).nilRow 157 1).pool0)
   have G2 := ((((((G.focus 5 rfl).focus 6 rfl).focus 3 rfl).focus 4 rfl).focus 6 rfl).focus 6 rfl)
   have HC := Zh (show ClAt w5.heap.size (cl0 (X.map (·.1))) ⟨a4, c4, K4⟩ L W (w5.alloc (.cells #[.slice none 0 0, .slice none 0 0, .int .i64 1, .slice a4 K4.length c4, ptrV b5] 92)) from ⟨⟨b5, .slice none 0 0, .slice none 0 0, [], ⟨a4, c4, K4⟩, NoF, [nilB]⟩, rfl, ⟨rfl, HMP.out⟩, G2⟩)
   clear G G2 H5
   obtain ⟨w6, hw6⟩ : ∃ w6, w5.alloc (.cells #[.slice none 0 0, .slice none 0 0, .int .i64 1, .slice a4 K4.length c4, ptrV b5] 92) = w6 := ⟨_, rfl⟩
   have hzw : w5.alloc (.cells #[.slice none 0 0, .slice none 0 0, .int .i64 1, .slice a4 K4.length c4, .pointer (some ⟨b5, 0, none⟩)] 92) = w6 := hw6
   rw [hw6] at HC
   first | rw [hzw] | rw [hw6]
   clear hw6 hzw
   generalize w5.heap.size = cc at *
   go_loopw [46] (fun v46 wr => ∃ (k : Nat) (M' : Cl), v46 = .int .i64 k ∧ k ≤ n ∧ Hid (ClAt cc M' ⟨a4, c4, K4⟩ L W wr) ∧ Hid (M'.us.length ≤ k ∧ M'.q = ⟨0, 0⟩) ∧ Hid (Cl.addN room n (cl0 (X.map (·.1))) = Cl.addN room (n - k) M')) (fun v46 _ => n - (intOf v46).toNat)
   case atStart => exact ⟨0, _, rfl, Nat.zero_le _, HC, Lib.hid' ⟨Nat.zero_le _, rfl⟩, Lib.hid' rfl⟩
   case round =>
    clear HC
    obtain ⟨k, M', rfl, hk, HC, HQ, HE⟩ := hrel
    by_cases hlt2 : k < n
    ·have HADD := Zh (add_any room wr HP.out HC.out (by have := HQ.out.1; omega))
     go_wp2_with fail
     refine HADD.out.mono ?_
     rintro e w7 ⟨rfl, h7⟩
     have H7 := Lib.hid' h7
     clear h7 HADD
     have HLE := Zh (add_len M' room)
     by_cases h0 : (M'.add room).1 = 0
     ·have HE2 := Zh (show Cl.addN room n (cl0 (X.map (·.1))) = Cl.addN room (n - (k + 1)) (M'.add room).2 by
       rw [HE.out, show n - k = (n - (k + 1)) + 1 by omega, addN_step h0])
      rw [h0, errV_0]
      clear h0
      go_wp2_with fail
      go_roundw
      case rel => exact ⟨k + 1, (M'.add room).2, by go_num, by omega, H7, Lib.hid' ⟨by have := HLE.out.1; have := HQ.out.1; omega, HLE.out.2.2.trans HQ.out.2⟩, HE2⟩
      case measure => simp [intOf]; omega
     ·have HR := Zh (show newCl n room (X.map (·.1)) = ((M'.add room).1, cl0 (X.map (·.1))) by
       have hE2 : Cl.addN room n (cl0 (X.map (·.1))) = M'.add room := by rw [HE.out, show n - k = (n - (k + 1)) + 1 by omega, addN_stop h0]
       unfold newCl
       rw [if_neg HU.out, if_neg (show ¬ (⟨1, X.map (·.1)⟩ : Pj).check ≠ 0 from fun h => h HZ.out), if_neg, if_pos]
       ·rw [show Int.toNat (n : Int) = n by omega, hE2]
       ·rw [show Int.toNat (n : Int) = n by omega, hE2]; exact h0
       ·rw [Bool.not_eq_true, List.any_eq_false]
        intro y hy
        rw [show unitsOf (⟨1, X.map (·.1)⟩ : Pj).all = l from HLL.out] at hy
        have := HNA.out y hy
        simp; omega)
      rw [errV_pos h0]
      have H0 := Lib.hid' h0
      clear h0
      go_wp2_with fail
      go_ret2
      rw [HR.out]
      exact .inl ⟨H0.out, by rw [errV_pos H0.out]; rfl, H7.out.side⟩
    ·obtain rfl : k = n := by omega
     have HE2 := Zh (show Cl.addN room k (cl0 (X.map (·.1))) = (0, M') by rw [HE.out, Nat.sub_self]; rfl)
     have HR := Zh (show newCl k room (X.map (·.1)) = (0, { M' with q := ⟨1, 0⟩ }) by
      unfold newCl
      rw [if_neg HU.out, if_neg (show ¬ (⟨1, X.map (·.1)⟩ : Pj).check ≠ 0 from fun h => h HZ.out), if_neg, if_neg]
      ·rw [show Int.toNat (k : Int) = k by omega, HE2.out]
      ·rw [show Int.toNat (k : Int) = k by omega, HE2.out]; simp
      ·rw [Bool.not_eq_true, List.any_eq_false]
       intro y hy
       rw [show unitsOf (⟨1, X.map (·.1)⟩ : Pj).all = l from HLL.out] at hy
       have := HNA.out y hy
       simp; omega)
     obtain ⟨bq, Kq, hb4, hsq, _, hback⟩ := HC.out.seqd
     have hcl := HC.out.c2.2
     rw [HQ.out.2] at hsq
     have HSET := Zh (SQ.set_any 1 0 hsq)
     rw [show (⟨0, 0⟩ : Q).set 1 0 = (0, ⟨1, 0⟩) from rfl] at HSET
     have HBK := Lib.hid' hback
     clear hsq hback
     go_wp2_with fail
     refine HSET.out.mono ?_
     rintro e w8 ⟨rfl, h8⟩
     have H8 := Zh (HBK.out _ _ h8).1
     clear h8
     rw [errV_0]
     go_wp2_with fail
     go_ret2
     rw [HR.out]
     exact .inr ⟨rfl, cc, ⟨a4, c4, K4⟩, rfl, H8.out⟩
end SL
end Go.Proofs.YtddlkkmdcfamiaaGreatDoor

namespace Go.Proofs.YtddlkkmdcfamiaaGreatDoor
open Go.RowKit
namespace SL
open DK SH SQ
theorem add_one {r : Int} (h : 400 ≤ r ∧ r ≤ 1073741824) : ∃ x, Fine r 1 u1 x ∧ Sd x.d ∧ (cl0 [[0]]).add r = (0, ⟨[x], ⟨1, [[0]]⟩, ⟨0, 0⟩⟩) := by
 obtain ⟨S, D, S', D', hx, e, hF⟩ := (Fine.new r).act (by decide) (by omega) sealA
 have ha : (apU U.new sealA).1 = 0 ∧ (apU U.new sealA).2.2 = u1 := ap1
 have hsd : Sd D' := by
  have h2 := Sd.doS (D := D) (S := S) (by have : newD r = D := congrArg Un.d hx; rw [← this]; exact Sd.new ⟨by omega, h.2⟩) sealA
  rw [e] at h2; exact h2
 rw [ha.1, ha.2] at hF
 simp only [if_pos] at hF
 refine ⟨_, hF, hsd, ?_⟩
 have hd : (cl0 [[0]]).grow (newU r) = ⟨[⟨D, some S⟩], ⟨1, [[0]]⟩, ⟨0, 0⟩⟩ := by
  unfold Cl.grow cl0 newU
  rw [hx]; rfl
 unfold Cl.add
 rw [if_neg (by omega), hd]
 show (((⟨[⟨D, some S⟩], ⟨1, [[0]]⟩, ⟨0, 0⟩⟩ : Cl).do 0 sealA).1, ((⟨[⟨D, some S⟩], ⟨1, [[0]]⟩, ⟨0, 0⟩⟩ : Cl).do 0 sealA).2.2) = _
 rw [do_on (u := 0) sealA (show (⟨[⟨D, some S⟩], ⟨1, [[0]]⟩, ⟨0, 0⟩⟩ : Cl).us[0]? = some ⟨D, some S⟩ from rfl), e]
 rw [ha.1]; rfl
theorem uni1 : unitsOf [0] = [0] := by
 have h1 : sortI [0] = [0] := by unfold sortI; simp
 unfold unitsOf
 rw [h1]; rfl
theorem chk1 : (⟨1, [[0]]⟩ : Pj).check = 0 := by
 have h1 : (⟨1, [[0]]⟩ : Pj).all = [0] := rfl
 unfold Pj.check
 rw [h1, uni1]
 decide
theorem new_one {r : Int} (h : 400 ≤ r ∧ r ≤ 1073741824) : ∃ x, Fine r 1 u1 x ∧ Sd x.d ∧ newCl 1 r [[0]] = (0, M1 x 0) := by
 obtain ⟨x, hx, hs, e⟩ := add_one h
 refine ⟨x, hx, hs, ?_⟩
 have h1 : Cl.addN r (Int.toNat 1) (cl0 [[0]]) = (0, ⟨[x], ⟨1, [[0]]⟩, ⟨0, 0⟩⟩) := by
  show (if ((cl0 [[0]]).add r).1 ≠ 0 then (cl0 [[0]]).add r else Cl.addN r 0 ((cl0 [[0]]).add r).2) = _
  rw [e]; rfl
 unfold newCl
 rw [if_neg (by omega), if_neg (by rw [chk1]; decide), if_neg (by rw [show (⟨1, [[0]]⟩ : Pj).all = [0] from rfl, uni1]; decide), h1]
 rfl
theorem m1_ok {r : Int} {k : Nat} {u : U} {x : Un} {n : Int} (h : Fine r k u x) (hs : Sd x.d) (hn : 0 ≤ n ∧ n ≤ 1048576) : (M1 x n).ok :=
 ⟨chk1, by show [x].length ≤ 8; simp, fun v hv => by
  have : v = 0 := by simpa [M1, Pj.all] using hv
  subst this
  exact ⟨Int.le_refl _, by show (0 : Int) < (([x] : List Un).length : Int); simp⟩, ⟨by show (0 : Int) ≤ 1 ∧ (1 : Int) ≤ _; decide, hn⟩, fun y hy => by
  have : y = x := by simpa [M1] using hy
  rw [this]; exact hs⟩
end SL
end Go.Proofs.YtddlkkmdcfamiaaGreatDoor

namespace Go.Proofs.YtddlkkmdcfamiaaGreatDoor
open Go.RowKit
namespace SL
open DK SH SQ
/-- a cluster's parts -/
def clB (c : Nat) (M : Cl) (P : ClP) : List Asn := clK c M P ++ (Asn.pool P.Z P.vs :: P.Us.map (unA P.vs))
theorem clL_eq (c : Nat) (M : Cl) (P : ClP) (L : List Asn) : clL c M P L = clB c M P ++ L := by unfold clL clB; simp
/-- two clusters, with what lies ahead of them -/
def Two (Z : List Asn) (a : Nat) (Ma : Cl) (b : Nat) (Mb : Cl) (W w : World) : Prop := ∃ Pa Pb, ClOK Ma Pa ∧ ClOK Mb Pb ∧ Sep W NoF (Z ++ (clB a Ma Pa ++ clB b Mb Pb)) w
theorem Two.toBelow {Z : List Asn} {a b : Nat} {Ma Mb : Cl} {W w : World} (h : Two Z a Ma b Mb W w) : Below W.heap.size W w := by
 obtain ⟨_, _, _, _, H⟩ := h
 exact H.toBelow
theorem Two.swap {a b : Nat} {Ma Mb : Cl} {W w : World} (h : Two [] a Ma b Mb W w) : Two [] b Mb a Ma W w := by
 obtain ⟨Pa, Pb, h1, h2, H⟩ := h
 exact ⟨Pb, Pa, h2, h1, (show Sep W NoF (clB a Ma Pa ++ clB b Mb Pb) w from H).perm List.perm_append_comm⟩
theorem Two.less {Z : List Asn} {a b : Nat} {Ma Mb : Cl} {W w : World} (h : Two Z a Ma b Mb W w) : Two [] a Ma b Mb W w := by
 obtain ⟨Pa, Pb, h1, h2, H⟩ := h
 exact ⟨Pa, Pb, h1, h2, H.keepOnly (List.sublist_append_right _ _)⟩
theorem Two.box {a b : Nat} {Ma Mb : Cl} {W w : World} (h : Two [] a Ma b Mb W w) (N : Nat) (R : List Value) (t : Nat) (hN : w.heap.size = N) : Two [.box N R t] a Ma b Mb W (w.alloc (.cells R.toArray t)) := by
 obtain ⟨Pa, Pb, h1, h2, H⟩ := h
 exact ⟨Pa, Pb, h1, h2, H.allocAt N R t hN⟩
/-- the first of two clusters, by itself; and back -/
theorem Two.fst {Z : List Asn} {a b : Nat} {Ma Mb : Cl} {W w : World} (h : Two Z a Ma b Mb W w) : ∃ J Pb, ClAt a Ma J (Z ++ clB b Mb Pb) W w ∧ ∀ Ma' w', ClAt a Ma' J (Z ++ clB b Mb Pb) W w' → Two Z a Ma' b Mb W w' := by
 obtain ⟨Pa, Pb, h1, h2, H⟩ := h
 have p : ∀ X : List Asn, (Z ++ (X ++ clB b Mb Pb)).Perm (X ++ (Z ++ clB b Mb Pb)) := fun X => by
  rw [← List.append_assoc, ← List.append_assoc]
  exact List.perm_append_comm.append_right _
 refine ⟨Pa.J, Pb, ⟨Pa, rfl, h1, by rw [clL_eq]; exact H.perm (p _)⟩, fun Ma' w' h' => ?_⟩
 obtain ⟨P', _, h3, H'⟩ := h'
 rw [clL_eq] at H'
 exact ⟨P', Pb, h3, h2, H'.perm (p _).symm⟩
theorem Two.snd {a b : Nat} {Ma Mb : Cl} {W w : World} (h : Two [] a Ma b Mb W w) : ∃ J L, ClAt b Mb J L W w := by
 obtain ⟨J, P, h1, _⟩ := h.swap.fst
 exact ⟨J, _, h1⟩
/-- an append to the first of two -/
theorem two_append {Z : List Asn} {a b : Nat} {Ma Mb : Cl} {W : World} (d : List UInt8) (da : Option Addr) (dc : Nat) (w : World) (hp : Pow W) (h : Two Z a Ma b Mb W w) (hok : Ma.ok) (hB : ∀ {L : List Asn} (w' : World), Sep W NoF (Z ++ L) w' → Bytes w' (.slice da d.length dc) d) :
  Calls Tryz.prog 20 #[ptrV a, .slice da d.length dc] w fun e w' => e = .returned (.tuple #[.int .i64 (Ma.append d).2.1, errV (Ma.append d).1]) ∧ Two Z a (Ma.append d).2.2 b Mb W w' := by
 obtain ⟨J, Pb, h1, hback⟩ := h.fst
 refine (append_any d da dc w hp h1 hok (fun M' w' h' => hB w' h'.side)).mono ?_
 intro e w' hE
 obtain ⟨he, h2⟩ := hE
 exact ⟨he, hback _ _ h2⟩
/-- a new cluster beside nothing, and beside another one -/
theorem chs_one {w : World} : ∃ w0 : World, (w.alloc (.cells #[.int .i64 0] 3)).alloc (.cells #[.slice (some ⟨w.heap.size, 0, none⟩) 1 1] 55) = w0 ∧ Below w.heap.size w w0 ∧ Chs w0 (some ⟨w.heap.size + 1, 0, none⟩) 1 [([0], some ⟨w.heap.size, 0, none⟩, 1)] := by
 have g1 := (Sep.start w).allocAt w.heap.size [.int .i64 0] 3 rfl
 have g2 := g1.allocAt (w.heap.size + 1) [.slice (some ⟨w.heap.size, 0, none⟩) 1 1] 55 (by simp)
 exact ⟨_, rfl, g2.toBelow, slv_box g2 0 rfl, fun x hx => by
  obtain rfl := List.mem_singleton.1 hx
  exact slv_box g2 1 rfl⟩
def bA (k : Nat) : UInt8 := UInt8.ofNat k
def bB (k : Nat) : UInt8 := UInt8.ofNat (k + k / 2)
def ua : Nat → U
 | 0 => u1
 | k + 1 => (apU (ua k) ⟨2, 1, k, [bA k]⟩).2.2
def ub : Nat → U
 | 0 => u1
 | k + 1 => (apU (ub k) ⟨2, 1, k, [bB k]⟩).2.2
theorem ap_a0 : apU (ua 0) ⟨2, 1, 0, [0]⟩ = (0, 0, ua 1) := by first | rfl | kernel_rfl
theorem ap_a1 : apU (ua 1) ⟨2, 1, 1, [1]⟩ = (0, 0, ua 2) := by first | rfl | kernel_rfl
theorem ap_a2 : apU (ua 2) ⟨2, 1, 2, [2]⟩ = (0, 0, ua 3) := by first | rfl | kernel_rfl
theorem ap_b0 : apU (ub 0) ⟨2, 1, 0, [0]⟩ = (0, 0, ub 1) := by first | rfl | kernel_rfl
theorem ap_b1 : apU (ub 1) ⟨2, 1, 1, [1]⟩ = (0, 0, ub 2) := by first | rfl | kernel_rfl
theorem ap_b2 : apU (ub 2) ⟨2, 1, 2, [3]⟩ = (0, 0, ub 3) := by first | rfl | kernel_rfl
theorem ra : (ua 3).read 1 0 = (0, ⟨1, [0]⟩) ∧ (ua 3).read 1 1 = (0, ⟨1, [1]⟩) ∧ (ua 3).read 1 2 = (0, ⟨1, [2]⟩) := by first | exact ⟨rfl, rfl, rfl⟩ | exact ⟨by kernel_rfl, by kernel_rfl, by kernel_rfl⟩
theorem rb : (ub 3).read 1 0 = (0, ⟨1, [0]⟩) ∧ (ub 3).read 1 1 = (0, ⟨1, [1]⟩) ∧ (ub 3).read 1 2 = (0, ⟨1, [3]⟩) := by first | exact ⟨rfl, rfl, rfl⟩ | exact ⟨by kernel_rfl, by kernel_rfl, by kernel_rfl⟩
theorem ag0 : agreeC ⟨1, [0]⟩ ⟨1, [0]⟩ = true ∧ agreeC ⟨1, [1]⟩ ⟨1, [1]⟩ = true ∧ agreeC ⟨1, [2]⟩ ⟨1, [3]⟩ = false := by decide
theorem common30 {r s : Int} {k m : Nat} {x y : Un} {n p : Int} (h : Fine r k (ua 3) x) (h' : Fine s m (ub 3) y) : common (M1 x n) (M1 y p) 0 3 = (0, 2) := by
 have a0 := read_one (n := n) (a := 0) h (by decide) (by decide)
 have a1 := read_one (n := n) (a := 1) h (by decide) (by decide)
 have a2 := read_one (n := n) (a := 2) h (by decide) (by decide)
 have b0 := read_one (n := p) (a := 0) h' (by decide) (by decide)
 have b1 := read_one (n := p) (a := 1) h' (by decide) (by decide)
 have b2 := read_one (n := p) (a := 2) h' (by decide) (by decide)
 rw [ra.1] at a0; rw [ra.2.1] at a1; rw [ra.2.2] at a2
 rw [rb.1] at b0; rw [rb.2.1] at b1; rw [rb.2.2] at b2
 have g0 : agreeAt (M1 x n) (M1 y p) 0 = (0, true) := by unfold agreeAt; rw [a0, b0]; simp [ag0.1]
 have g1 : agreeAt (M1 x n) (M1 y p) 1 = (0, true) := by unfold agreeAt; rw [a1, b1]; simp [ag0.2.1]
 have g2 : agreeAt (M1 x n) (M1 y p) 2 = (0, false) := by unfold agreeAt; rw [a2, b2]; simp [ag0.2.2]
 unfold common
 rw [if_neg (by decide)]
 show commonF (M1 x n) (M1 y p) 3 0 = _
 rw [commonF_next (by rw [g0]) (by rw [g0])]
 rw [commonF_next (a := 0 + 1) (by show (agreeAt (M1 x n) (M1 y p) 1).1 = 0; rw [g1]) (by show (agreeAt (M1 x n) (M1 y p) 1).2 = true; rw [g1])]
 rw [commonF_here (a := 0 + 1 + 1) (by show (agreeAt (M1 x n) (M1 y p) 2).1 = 0; rw [g2]) (by show (agreeAt (M1 x n) (M1 y p) 2).2 = false; rw [g2])]
 rfl
end SL
end Go.Proofs.YtddlkkmdcfamiaaGreatDoor

namespace Go.Proofs.YtddlkkmdcfamiaaGreatDoor
open Go.RowKit
namespace SL
open DK SH SQ
theorem Two.of {a b : Nat} {Ma Mb : Cl} {Pa : ClP} {J : CJ} {W w : World} (h1 : ClOK Ma Pa) (h : ClAt b Mb J (clB a Ma Pa) W w) : Two [] a Ma b Mb W w := by
 obtain ⟨Pb, _, h2, H⟩ := h
 rw [clL_eq] at H
 exact ⟨Pa, Pb, h1, h2, H.perm List.perm_append_comm⟩
set_option maxHeartbeats 8000000 in
theorem alive30_any (w : World) (hp : Pow w) : Calls Tryz.prog 5 #[] w fun e w' => e = .returned (.bool true) ∧ Below w.heap.size w w' := by
 have HP := Lib.hid' hp
 obtain ⟨x1, hx1, hs1, hn1⟩ := new_one (r := 1048576) (by decide)
 have HN1 := Lib.hid' hn1
 have HF := Zh (And.intro hx1 hs1)
 have HO := Zh (m1_ok hx1 hs1 ⟨by decide, by decide⟩ : (M1 x1 0).ok)
 clear hx1 hs1 hn1 hp
 go_enter Tryz.func5, Tryz.ntmps5
 go_wp2_with fail
 obtain ⟨w0, hw0, hb0, hX⟩ := chs_one (w := w)
 rw [hw0]
 have hL : Sep w NoF [] w0 := (Sep.start w).below hb0
 clear hw0 hb0
 have HNW := Zh (New_any 1 1048576 _ _ _ w0 HP.out hL hX (by show ([0] : List Int).length ≤ _; decide))
 clear hX hL
 refine HNW.out.mono ?_
 rintro e w1 hE
 unfold NewR at hE
 rw [show newCl 1 1048576 (([([0], some ⟨w.heap.size, 0, none⟩, 1)] : List Ch).map (·.1)) = (0, M1 x1 0) from HN1.out] at hE
 obtain ⟨ca, Pa, rfl, hoka, h1⟩ : ∃ c P, e = .returned (.tuple #[ptrV c, .nilIface]) ∧ ClOK (M1 x1 0) P ∧ Sep w NoF (clB c (M1 x1 0) P) w1 := by
  rcases hE with ⟨h0, _⟩ | ⟨_, c, J, h, P, _, h2, h3⟩
  ·exact absurd rfl h0
  ·rw [clL_eq, List.append_nil] at h3
   exact ⟨c, P, h, h2, h3⟩
 have H1 := Lib.hid' h1
 have HK := Lib.hid' hoka
 clear hE h1 HNW hoka
 go_wp2_with fail
 obtain ⟨w2, hw2, hb2, hX⟩ := chs_one (w := w1)
 rw [hw2]
 have hL : Sep w NoF (clB ca (M1 x1 0) Pa) w2 := H1.out.below hb2
 clear hw2 hb2 H1
 have HNW := Zh (New_any 1 1048576 _ _ _ w2 HP.out hL hX (by show ([0] : List Int).length ≤ _; decide))
 clear hX hL
 refine HNW.out.mono ?_
 rintro e w3 hE
 unfold NewR at hE
 rw [show newCl 1 1048576 (([([0], some ⟨w1.heap.size, 0, none⟩, 1)] : List Ch).map (·.1)) = (0, M1 x1 0) from HN1.out] at hE
 obtain ⟨cb, rfl, h3⟩ : ∃ c, e = .returned (.tuple #[ptrV c, .nilIface]) ∧ Two [] ca (M1 x1 0) c (M1 x1 0) w w3 := by
  rcases hE with ⟨h0, _⟩ | ⟨_, c, J, h, h2⟩
  ·exact absurd rfl h0
  ·exact ⟨c, h, Two.of HK.out h2⟩
 have H3 := Lib.hid' h3
 clear hE h3 HNW HN1 HK
 generalize w1.heap.size = N9 at *
 go_wp2_with fail
 go_loopw [33] (fun v33 wr => ∃ (K : Nat) (k : Int) (xa xb : Un), k = (K : Int) ∧ v33 = .int .i64 k ∧ K ≤ 3 ∧ Fine 1048576 (K + 1) (ua K) xa ∧ Sd xa.d ∧ Fine 1048576 (K + 1) (ub K) xb ∧ Sd xb.d ∧ Hid (Two [] ca (M1 xa k) cb (M1 xb k) w wr)) (fun v33 _ => (3 - intOf v33).toNat)
 case atStart => exact ⟨0, 0, x1, x1, rfl, rfl, by decide, HF.out.1, HF.out.2, HF.out.1, HF.out.2, H3⟩
 case round =>
  clear H3 HF HO
  obtain ⟨K, k, xa, xb, hk, rfl, hK, hfa, hsa, hfb, hsb, H0⟩ := hrel
  rcases (show K = 0 ∨ K = 1 ∨ K = 2 ∨ K = 3 by omega) with rfl | rfl | rfl | rfl
  ·obtain rfl : k = 0 := by simpa using hk
   clear hk hK
   have HFA := Lib.hid' ap_a0
   have HFB := Lib.hid' ap_b0
   obtain ⟨ya, hya, hsya, hea⟩ := append_one (n := 0) (d := [0]) hfa hsa (by decide) (by decide) (by decide) (by decide) (by decide) HFA.out
   obtain ⟨yb, hyb, hsyb, heb⟩ := append_one (n := 0) (d := [0]) hfb hsb (by decide) (by decide) (by decide) (by decide) (by decide) HFB.out
   have HOA := Zh (m1_ok hfa hsa ⟨by decide, by decide⟩ : (M1 xa 0).ok)
   have HOB := Zh (m1_ok hfb hsb ⟨by decide, by decide⟩ : (M1 xb 0).ok)
   have HEA := Zh (show (M1 xa 0).append [0] = (0, 0, M1 ya 1) from hea)
   have HEB := Zh (show (M1 xb 0).append [0] = (0, 0, M1 yb 1) from heb)
   have HYA := Zh (And.intro hya hsya)
   have HYB := Zh (And.intro hyb hsyb)
   clear hfa hsa hfb hsb hya hsya hea hyb hsyb heb
   go_wp2_with fail
   have H1 := Zh (H0.out.box wr.heap.size [byteV 0] 5 rfl)
   have hz1 : wr.alloc (Obj.cells #[Value.int IntKind.u8 0] 5) = wr.alloc (.cells [byteV 0].toArray 5) := rfl
   rw [hz1]
   clear hz1 H0
   generalize wr.alloc (.cells [byteV 0].toArray 5) = w1 at *
   generalize wr.heap.size = N1 at *
   refine (two_append (Z := [.box N1 [byteV 0] 5]) [0] (some ⟨N1, 0, none⟩) 1 w1 HP.out H1.out HOA.out (fun w' h' => slv_box h' 0 rfl)).mono ?_
   rintro e w2 hE
   rw [HEA.out] at hE
   obtain ⟨rfl, h2⟩ := hE
   have H2 := Lib.hid' h2.less
   clear h2 H1
   rw [errV_0]
   go_wp2_with fail
   have H3 := Zh (H2.out.swap.box w2.heap.size [byteV 0] 5 rfl)
   have hz3 : w2.alloc (Obj.cells #[Value.int IntKind.u8 0] 5) = w2.alloc (.cells [byteV 0].toArray 5) := rfl
   rw [hz3]
   clear hz3 H2
   generalize w2.alloc (.cells [byteV 0].toArray 5) = w3 at *
   generalize w2.heap.size = N3 at *
   refine (two_append (Z := [.box N3 [byteV 0] 5]) [0] (some ⟨N3, 0, none⟩) 1 w3 HP.out H3.out HOB.out (fun w' h' => slv_box h' 0 rfl)).mono ?_
   rintro e w4 hE
   rw [HEB.out] at hE
   obtain ⟨rfl, h4⟩ := hE
   have H4 := Lib.hid' h4.less.swap
   clear h4 H3
   rw [errV_0]
   go_wp2_with fail
   go_roundw
   case rel => exact ⟨1, 1, ya, yb, rfl, rfl, by decide, HYA.out.1, HYA.out.2, HYB.out.1, HYB.out.2, H4⟩
   case measure => simp [intOf]
  ·obtain rfl : k = 1 := by simpa using hk
   clear hk hK
   have HFA := Lib.hid' ap_a1
   have HFB := Lib.hid' ap_b1
   obtain ⟨ya, hya, hsya, hea⟩ := append_one (n := 1) (d := [1]) hfa hsa (by decide) (by decide) (by decide) (by decide) (by decide) HFA.out
   obtain ⟨yb, hyb, hsyb, heb⟩ := append_one (n := 1) (d := [1]) hfb hsb (by decide) (by decide) (by decide) (by decide) (by decide) HFB.out
   have HOA := Zh (m1_ok hfa hsa ⟨by decide, by decide⟩ : (M1 xa 1).ok)
   have HOB := Zh (m1_ok hfb hsb ⟨by decide, by decide⟩ : (M1 xb 1).ok)
   have HEA := Zh (show (M1 xa 1).append [1] = (0, 1, M1 ya 2) from hea)
   have HEB := Zh (show (M1 xb 1).append [1] = (0, 1, M1 yb 2) from heb)
   have HYA := Zh (And.intro hya hsya)
   have HYB := Zh (And.intro hyb hsyb)
   clear hfa hsa hfb hsb hya hsya hea hyb hsyb heb
   go_wp2_with fail
   have H1 := Zh (H0.out.box wr.heap.size [byteV 1] 5 rfl)
   have hz1 : wr.alloc (Obj.cells #[Value.int IntKind.u8 1] 5) = wr.alloc (.cells [byteV 1].toArray 5) := rfl
   rw [hz1]
   clear hz1 H0
   generalize wr.alloc (.cells [byteV 1].toArray 5) = w1 at *
   generalize wr.heap.size = N1 at *
   refine (two_append (Z := [.box N1 [byteV 1] 5]) [1] (some ⟨N1, 0, none⟩) 1 w1 HP.out H1.out HOA.out (fun w' h' => slv_box h' 0 rfl)).mono ?_
   rintro e w2 hE
   rw [HEA.out] at hE
   obtain ⟨rfl, h2⟩ := hE
   have H2 := Lib.hid' h2.less
   clear h2 H1
   rw [errV_0]
   go_wp2_with fail
   have H3 := Zh (H2.out.swap.box w2.heap.size [byteV 1] 5 rfl)
   have hz3 : w2.alloc (Obj.cells #[Value.int IntKind.u8 1] 5) = w2.alloc (.cells [byteV 1].toArray 5) := rfl
   rw [hz3]
   clear hz3 H2
   generalize w2.alloc (.cells [byteV 1].toArray 5) = w3 at *
   generalize w2.heap.size = N3 at *
   refine (two_append (Z := [.box N3 [byteV 1] 5]) [1] (some ⟨N3, 0, none⟩) 1 w3 HP.out H3.out HOB.out (fun w' h' => slv_box h' 0 rfl)).mono ?_
   rintro e w4 hE
   rw [HEB.out] at hE
   obtain ⟨rfl, h4⟩ := hE
   have H4 := Lib.hid' h4.less.swap
   clear h4 H3
   rw [errV_0]
   go_wp2_with fail
   go_roundw
   case rel => exact ⟨2, 2, ya, yb, rfl, rfl, by decide, HYA.out.1, HYA.out.2, HYB.out.1, HYB.out.2, H4⟩
   case measure => simp [intOf]
  ·obtain rfl : k = 2 := by simpa using hk
   clear hk hK
   have HFA := Lib.hid' ap_a2
   have HFB := Lib.hid' ap_b2
   obtain ⟨ya, hya, hsya, hea⟩ := append_one (n := 2) (d := [2]) hfa hsa (by decide) (by decide) (by decide) (by decide) (by decide) HFA.out
   obtain ⟨yb, hyb, hsyb, heb⟩ := append_one (n := 2) (d := [3]) hfb hsb (by decide) (by decide) (by decide) (by decide) (by decide) HFB.out
   have HOA := Zh (m1_ok hfa hsa ⟨by decide, by decide⟩ : (M1 xa 2).ok)
   have HOB := Zh (m1_ok hfb hsb ⟨by decide, by decide⟩ : (M1 xb 2).ok)
   have HEA := Zh (show (M1 xa 2).append [2] = (0, 2, M1 ya 3) from hea)
   have HEB := Zh (show (M1 xb 2).append [3] = (0, 2, M1 yb 3) from heb)
   have HYA := Zh (And.intro hya hsya)
   have HYB := Zh (And.intro hyb hsyb)
   clear hfa hsa hfb hsb hya hsya hea hyb hsyb heb
   go_wp2_with fail
   have H1 := Zh (H0.out.box wr.heap.size [byteV 2] 5 rfl)
   have hz1 : wr.alloc (Obj.cells #[Value.int IntKind.u8 2] 5) = wr.alloc (.cells [byteV 2].toArray 5) := rfl
   rw [hz1]
   clear hz1 H0
   generalize wr.alloc (.cells [byteV 2].toArray 5) = w1 at *
   generalize wr.heap.size = N1 at *
   refine (two_append (Z := [.box N1 [byteV 2] 5]) [2] (some ⟨N1, 0, none⟩) 1 w1 HP.out H1.out HOA.out (fun w' h' => slv_box h' 0 rfl)).mono ?_
   rintro e w2 hE
   rw [HEA.out] at hE
   obtain ⟨rfl, h2⟩ := hE
   have H2 := Lib.hid' h2.less
   clear h2 H1
   rw [errV_0]
   go_wp2_with fail
   have H3 := Zh (H2.out.swap.box w2.heap.size [byteV 3] 5 rfl)
   have hz3 : w2.alloc (Obj.cells #[Value.int IntKind.u8 3] 5) = w2.alloc (.cells [byteV 3].toArray 5) := rfl
   rw [hz3]
   clear hz3 H2
   generalize w2.alloc (.cells [byteV 3].toArray 5) = w3 at *
   generalize w2.heap.size = N3 at *
   refine (two_append (Z := [.box N3 [byteV 3] 5]) [3] (some ⟨N3, 0, none⟩) 1 w3 HP.out H3.out HOB.out (fun w' h' => slv_box h' 0 rfl)).mono ?_
   rintro e w4 hE
   rw [HEB.out] at hE
   obtain ⟨rfl, h4⟩ := hE
   have H4 := Lib.hid' h4.less.swap
   clear h4 H3
   rw [errV_0]
   go_wp2_with fail
   go_roundw
   case rel => exact ⟨3, 3, ya, yb, rfl, rfl, by decide, HYA.out.1, HYA.out.2, HYB.out.1, HYB.out.2, H4⟩
   case measure => simp [intOf]
  ·obtain rfl : k = 3 := by simpa using hk
   clear hk hK
   have HC := Zh (common30 (n := 3) (p := 3) hfa hfb)
   have HOA := Zh (m1_ok hfa hsa ⟨by decide, by decide⟩ : (M1 xa 3).ok)
   have HOB := Zh (m1_ok hfb hsb ⟨by decide, by decide⟩ : (M1 xb 3).ok)
   clear hfa hsa hfb hsb
   go_wp2_with fail
   obtain ⟨J, Pb, h1, _⟩ := H0.out.fst
   obtain ⟨J', L', h2⟩ := H0.out.snd
   have HB := Lib.hid' H0.out.toBelow
   refine (Common_any 0 3 wr h1 h2 HOA.out HOB.out).mono ?_
   rintro e w5 ⟨rfl, h5⟩
   rw [HC.out]
   have H5 := Zh (below_call HB.out HB.out.size h5)
   clear h1 h2 h5 H0
   rw [errV_0]
   go_wp2_with fail
   first | exact ⟨rfl, H5.out⟩ | (go_ret; exact ⟨rfl, H5.out⟩)
end SL
end Go.Proofs.YtddlkkmdcfamiaaGreatDoor

namespace Go.Proofs.YtddlkkmdcfamiaaGreatDoor
open Go.RowKit
open SH SL in
set_option maxHeartbeats 4000000 in
theorem forkTakes_any (b : List UInt8) (ba : Option Addr) (bc : Nat) (w : World) (hp : DK.Pow w) (hb : Bytes w (.slice ba b.length bc) b) :
  Calls Tryz.prog 3 #[.slice ba b.length bc] w fun en w' => en = .returned (.bool true) ∧ Below w.heap.size w w' := by
 have HD := Lib.hid' hb
 have hdl := bytes_len hb
 clear hb
 have HA := Zh (alive30_any w hp)
 go_enter Tryz.func3, Tryz.ntmps3
 go_wp2_with fail
 refine HA.out.mono ?_
 rintro en w1 ⟨rfl, hb1⟩
 have HB1 := Lib.hid' hb1
 clear hb1 HA
 by_cases h3000 : 3000 < b.length
 ·go_wp2_with fail
  go_ret
  exact ⟨rfl, HB1.out⟩
 have HT := Zh (frkTake_all b ba bc w1 (SlV.below HD.out (Nat.le_refl _) HB1.out))
 have HR := Zh (fun (wq : World) (h : Below w.heap.size w wq) => rfrkTake_any b ba bc wq (SlV.below HD.out (Nat.le_refl _) h))
 generalize frkTake b = p at *
 obtain ⟨n, L⟩ := p
 go_wp2_with fail
 refine HT.out.mono ?_
 clear HT
 rintro en w2 ⟨E, a, c, rfl, hE, hl, hel, hb2⟩
 simp only at hE ⊢
 have HE := Lib.hid' hE
 have HL := Lib.hid' hl
 have HEL := Lib.hid' hel
 have HB2 := Zh (HB1.out.trans (hb2.mono HB1.out.size))
 clear hE hl hel hb2
 go_wp2_with fail
 refine (HR.out _ HB2.out).mono ?_
 clear HR
 rintro en w3 ⟨a', c', rfl, hr, hb3⟩
 have HA := Zh (are_any E L a c a' c' w3 (HEL.out.below (Nat.le_refl _) hb3) hr (by have := HL.out; omega))
 rw [show decide (E.map noAd = L) = true from decide_eq_true HE.out] at HA
 have HB3 := Zh (HB2.out.trans (hb3.mono HB2.out.size))
 simp only
 clear hr hb3
 go_wp2_with fail
 refine HA.out.mono ?_
 clear HA
 rintro en w4 ⟨rfl, hb4⟩
 have HB4 := Zh (HB3.out.trans (hb4.mono HB3.out.size))
 clear hb4
 go_wp2_with fail
 refine (num_any n _).mono ?_
 rintro en w5 ⟨rfl, rfl⟩
 go_wp2_with fail
 go_ret
 exact ⟨by simp, HB4.out⟩
end Go.Proofs.YtddlkkmdcfamiaaGreatDoor
