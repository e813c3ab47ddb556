/- Proved here: a part of the proof (32 of 34). -/
import Derived.Test.YtcpkeddgkpjioaaGreatDoorB31
import Derived.Test.YtcpkeddgkpjioaaGreatDoorB24
import Derived.Test.YtcpkeddgkpjioaaGreatDoorB26
import Derived.Lib.SlBytesConst
set_option linter.unusedSimpArgs false
set_option linter.unusedVariables false
set_option maxRecDepth 100000
namespace Go.Proofs.YtcpkeddgkpjioaaGreatDoor
open Go.RowKit
namespace SL
open DK SH SQ
def Cl.addN (room : Int) : Nat → Cl → Nat × Cl
 | 0, M => (0, M)
 | k + 1, M => if (M.add room).1 ≠ 0 then M.add room else Cl.addN room k (M.add room).2
/-- a cluster without units -/
def cl0 (X : List (List Int)) : Cl := ⟨[], ⟨1, X⟩, ⟨0, 0⟩⟩
def newCl (units room : Int) (X : List (List Int)) : Nat × Cl :=
 if units < 1 ∨ 8 < units then (1, cl0 X) else
 if (⟨1, X⟩ : Pj).check ≠ 0 then ((⟨1, X⟩ : Pj).check, cl0 X) else
 if (unitsOf (⟨1, X⟩ : Pj).all).any (fun u => decide (units ≤ u)) = true then (1, cl0 X) else
 if (Cl.addN room units.toNat (cl0 X)).1 ≠ 0 then ((Cl.addN room units.toNat (cl0 X)).1, cl0 X) else
 (0, { (Cl.addN room units.toNat (cl0 X)).2 with q := ⟨1, 0⟩ })
theorem add_len (M : Cl) (room : Int) : (M.add room).2.us.length ≤ M.us.length + 1 ∧ (M.add room).2.p = M.p ∧ (M.add room).2.q = M.q := by
 unfold Cl.add
 split
 ·exact ⟨Nat.le_succ _, rfl, rfl⟩
 ·have := Cl.do_len (M.grow (newU room)) M.us.length sealA
  refine ⟨?_, this.2.1, this.2.2⟩
  rw [this.1]
  show (M.us ++ [newU room]).length ≤ _
  simp
theorem addN_step {room : Int} {k : Nat} {M : Cl} (h : (M.add room).1 = 0) : Cl.addN room (k + 1) M = Cl.addN room k (M.add room).2 := by
 show (if (M.add room).1 ≠ 0 then _ else _) = _
 rw [if_neg (by rw [h]; decide)]
theorem addN_stop {room : Int} {k : Nat} {M : Cl} (h : (M.add room).1 ≠ 0) : Cl.addN room (k + 1) M = M.add room := by
 show (if (M.add room).1 ≠ 0 then _ else _) = _
 rw [if_pos h]
/-- what New answers: an error, or a cluster beside L -/
def NewR (r : Nat × Cl) (L : List Asn) (W : World) (e : Ending) (w' : World) : Prop :=
 (r.1 ≠ 0 ∧ e = .returned (.tuple #[.pointer none, errV r.1]) ∧ Sep W NoF L w') ∨ (r.1 = 0 ∧ ∃ c J, e = .returned (.tuple #[ptrV c, .nilIface]) ∧ ClAt c r.2 J L W w')
theorem chs_below {w w' : World} {a : Option Addr} {c : Nat} {X : List Ch} (h : Chs w a c X) (hb : Below w.heap.size w w') : Chs w' a c X := h.below (Nat.le_refl _) hb
set_option maxHeartbeats 16000000 in
theorem New_any {L : List Asn} {W : World} (units room : Int) (a : Option Addr) (c : Nat) (X : List Ch) (w : World) (hp : Pow W) (hL : Sep W NoF L w) (hX : Chs w a c X) (ht : (flatC X).length ≤ 1099511627776) :
  Calls Tryz.prog 6 #[.int .i64 units, .int .i64 room, .slice a X.length c] w (NewR (newCl units room (X.map (·.1))) L W) := by
 have HP := Lib.hid' hp
 have HL := Lib.hid' hL
 have HX := Lib.hid' hX
 have HN := Zh (show newCl units room (X.map (·.1)) = _ from rfl)
 have hXl := hX.len
 clear hp hL hX
 by_cases hu : units < 1 ∨ 8 < units
 ·have HR := Zh (show newCl units room (X.map (·.1)) = (1, cl0 (X.map (·.1))) by unfold newCl; rw [if_pos hu])
  go_enter Tryz.func6, Tryz.ntmps6
  rcases hu with hu | hu
  ·go_wp2_with fail
   go_ret2
   rw [HR.out]
   exact .inl ⟨show (1 : Nat) ≠ 0 by decide, rfl, HL.out.below (by go_grown)⟩
  ·have hu1 : ¬ units < 1 := by omega
   go_wp2_with fail
   go_ret2
   rw [HR.out]
   exact .inl ⟨show (1 : Nat) ≠ 0 by decide, rfl, HL.out.below (by go_grown)⟩
 have hu1 : ¬ units < 1 := by omega
 have hu8 : ¬ 8 < units := by omega
 have HU := Lib.hid' hu
 clear hu
 go_enter Tryz.func6, Tryz.ntmps6
 go_wp2_with fail
 have hb1 : Below w.heap.size w (w.alloc (.cells #[.int .i64 1, .slice a X.length c] 68)) := by go_grown
 obtain ⟨n, rfl⟩ : ∃ n : Nat, units = n := ⟨units.toNat, by omega⟩
 have hn8 : n ≤ 8 := by omega
 have hz0 : w.heap.size < (w.alloc (.cells #[.int .i64 1, .slice a X.length c] 68)).heap.size := by simp
 have p0 : (w.alloc (.cells #[.int .i64 1, .slice a X.length c] 68)).cell? ⟨w.heap.size, 0, none⟩ = some (.int .i64 1) := by simp [go_sem]
 have p1 : (w.alloc (.cells #[.int .i64 1, .slice a X.length c] 68)).cell? ⟨w.heap.size, 1, none⟩ = some (.slice a X.length c) := by simp [go_sem]
 generalize w.alloc (.cells #[.int .i64 1, .slice a X.length c] 68) = w1 at *
 refine (pcheck_any 1 a c X w1 (chs_below HX.out hb1) ht).mono ?_
 rintro e w2 ⟨rfl, hb2⟩
 by_cases hz : (docJ 1 X).check = 0
 rotate_left
 ·have HR := Zh (show newCl n room (X.map (·.1)) = ((docJ 1 X).check, cl0 (X.map (·.1))) by unfold newCl; rw [if_neg HU.out, if_pos (show (⟨1, X.map (·.1)⟩ : Pj).check ≠ 0 from hz)]; rfl)
  rw [errV_pos hz]
  have HZ := Lib.hid' hz
  have HB := Zh ((HL.out.below hb1).below hb2)
  clear hz
  go_wp2_with fail
  go_ret2
  rw [HR.out]
  exact .inl ⟨HZ.out, by rw [errV_pos HZ.out]; rfl, HB.out⟩
 have HZ := Lib.hid' hz
 rw [hz, errV_0]
 have hb12 : Below w.heap.size w w2 := below_call hb1 hb1.size hb2
 have p02 := (hb2.cell (p := ⟨w.heap.size, 0, none⟩) hz0).trans p0
 have p12 := (hb2.cell (p := ⟨w.heap.size, 1, none⟩) hz0).trans p1
 have hz2 : w.heap.size < w2.heap.size := Nat.lt_of_lt_of_le hz0 hb2.size
 clear hz p0 p1 hz0 hb1 hb2
 go_wp2_with fail
 refine (punits_any 1 a c X w2 (chs_below HX.out hb12) ht).mono ?_
 rintro e w3 hun
 obtain ⟨ua, uc, rfl, ho, hb3⟩ : ∃ ua uc, e = .returned (.slice ua (unitsOf (flatC X)).length uc) ∧ w3.ownsRow w2.heap.size 3 1 (.slice ua (unitsOf (flatC X)).length uc) (unitsOf (flatC X)).length (zVs (unitsOf (flatC X))) ∧ Below w2.heap.size w2 w3 := hun
 have hb13 : Below w.heap.size w w3 := below_call hb12 hb12.size hb3
 have p03 := (hb3.cell (p := ⟨w.heap.size, 0, none⟩) hz2).trans p02
 have p13 := (hb3.cell (p := ⟨w.heap.size, 1, none⟩) hz2).trans p12
 have hz3 : w.heap.size < w3.heap.size := Nat.lt_of_lt_of_le hz2 hb3.size
 have HZS := Zh (show Zs w3 (.slice ua (unitsOf (flatC X)).length uc) (unitsOf (flatC X)) from SlV.of_own ho)
 obtain ⟨l, hl⟩ : ∃ l, unitsOf (flatC X) = l := ⟨_, rfl⟩
 rw [hl] at HZS ⊢
 have HLL := Lib.hid' hl
 have hll : l.length ≤ 1099511627776 := by rw [← hl]; exact Nat.le_trans (unitsOf_len _) ht
 have HB13 := Lib.hid' hb13
 clear hl ho hb3 hb12 p02 p12 hz2 hb13
 go_wp2_with fail
 go_loop [31] (fun v31 => ∃ k : Nat, v31 = .int .i64 k ∧ k ≤ l.length ∧ Hid (∀ y ∈ l.take k, y < (n : Int))) (fun v31 => l.length - (intOf v31).toNat)
 case atStart => exact ⟨0, rfl, Nat.zero_le _, Zh (by simp)⟩
 case round =>
  obtain ⟨k, rfl, hk, HNO⟩ := hrel
  by_cases hlt : k < l.length
  ·obtain ⟨gb, go, rfl, hgb, hgc⟩ := HZS.out.at hlt
   have HM := Zh (show l[k] ∈ l from List.getElem_mem hlt)
   have HT := Zh (fun (h : l[k] < (n : Int)) => show ∀ y ∈ l.take (k + 1), y < (n : Int) from fun y hy => by
    rw [List.take_succ_eq_append_getElem hlt] at hy
    rcases List.mem_append.1 hy with hy | hy
    ·exact HNO.out y hy
    ·rw [List.mem_singleton.1 hy]; exact h)
   generalize l[k] = y at *
   by_cases hy : (n : Int) ≤ y
   ·have HR := Zh (show newCl n room (X.map (·.1)) = (1, cl0 (X.map (·.1))) by
     unfold newCl
     rw [if_neg HU.out, if_neg (show ¬ (⟨1, X.map (·.1)⟩ : Pj).check ≠ 0 from fun h => h HZ.out), if_pos]
     rw [List.any_eq_true]
     exact ⟨y, by rw [show unitsOf (⟨1, X.map (·.1)⟩ : Pj).all = l from HLL.out]; exact HM.out, by simpa using hy⟩)
    go_wp2_with fail
    go_ret2
    rw [HR.out]
    exact .inl ⟨show (1 : Nat) ≠ 0 by decide, rfl, HL.out.below HB13.out⟩
   ·have HT2 := Zh (HT.out (by omega))
    go_wp2_with fail
    go_round
    case rel => exact ⟨k + 1, by go_num, by omega, HT2⟩
    case measure => simp [intOf]; omega
  ·have HNA := Zh (show ∀ y ∈ l, y < (n : Int) from fun y hy => HNO.out y (by rw [List.take_of_length_le (by omega)]; exact hy))
   clear HNO HZS
   go_wp2_with fail
   have hpk := pj_ok HZ.out
   have hXn : X.length ≤ 4 := by have := hpk.n.2; simpa [docJ] using this
   have hXe : ∀ x ∈ X, x.1.length ≤ 4 := fun x hx => (hpk.each x.1 (List.mem_map_of_mem (f := (·.1)) hx)).2
   refine (pcopy_any 1 a c X w3 (chs_below HX.out HB13.out) (by omega) (fun x hx => by have := hXe x hx; omega)).mono ?_
   rintro e w4 ⟨a4, c4, K4, rfl, hj, hmap, hb4⟩
   have H4 := Zh ((HL.out.below HB13.out).pastJ hb4 hj)
   have hKl : K4.length = X.length := by have := congrArg List.length hmap; simpa using this
   have HMP := Lib.hid' hmap
   have hp04 := (hb4.cell (p := ⟨w.heap.size, 0, none⟩) hz3).trans p03
   rw [show pjV 1 a4 c4 K4 = .agg #[.int .i64 1, .slice a4 K4.length c4] from rfl]
   clear hpk hXe hj hmap hb4 p03 p13 hp04 hz3 hXn
   have HKL := Lib.hid' hKl
   clear hKl
   go_wp2_with fail
   refine (SQ.new_any _).mono ?_
   rintro e w5 ⟨rfl, h5⟩
   have H5 := Zh (H4.out.call0 h5)
   generalize w4.heap.size = b5 at *
   clear h5 H4
   go_wp2_with fail
   have G := ((((H5.out.allocAt w5.heap.size [.slice none 0 0, .slice none 0 0, .int .i64 1, .slice a4 K4.length c4, ptrV b5] 78 rfl).nilRow 124 1).nilRow 127 1).pool0)
   have G2 := ((((((G.focus 5 rfl).focus 6 rfl).focus 3 rfl).focus 4 rfl).focus 6 rfl).focus 6 rfl)
   have HC := Zh (show ClAt w5.heap.size (cl0 (X.map (·.1))) ⟨a4, c4, K4⟩ L W (w5.alloc (.cells #[.slice none 0 0, .slice none 0 0, .int .i64 1, .slice a4 K4.length c4, ptrV b5] 78)) from ⟨⟨b5, .slice none 0 0, .slice none 0 0, [], ⟨a4, c4, K4⟩, NoF, [nilB]⟩, rfl, ⟨rfl, HMP.out⟩, G2⟩)
   clear G G2 H5
   obtain ⟨w6, hw6⟩ : ∃ w6, w5.alloc (.cells #[.slice none 0 0, .slice none 0 0, .int .i64 1, .slice a4 K4.length c4, ptrV b5] 78) = w6 := ⟨_, rfl⟩
   have hzw : w5.alloc (.cells #[.slice none 0 0, .slice none 0 0, .int .i64 1, .slice a4 K4.length c4, .pointer (some ⟨b5, 0, none⟩)] 78) = w6 := hw6
   rw [hw6] at HC
   first | rw [hzw] | rw [hw6]
   clear hw6 hzw
   generalize w5.heap.size = cc at *
   go_loopw [46] (fun v46 wr => ∃ (k : Nat) (M' : Cl), v46 = .int .i64 k ∧ k ≤ n ∧ Hid (ClAt cc M' ⟨a4, c4, K4⟩ L W wr) ∧ Hid (M'.us.length ≤ k ∧ M'.q = ⟨0, 0⟩) ∧ Hid (Cl.addN room n (cl0 (X.map (·.1))) = Cl.addN room (n - k) M')) (fun v46 _ => n - (intOf v46).toNat)
   case atStart => exact ⟨0, _, rfl, Nat.zero_le _, HC, Lib.hid' ⟨Nat.zero_le _, rfl⟩, Lib.hid' rfl⟩
   case round =>
    clear HC
    obtain ⟨k, M', rfl, hk, HC, HQ, HE⟩ := hrel
    by_cases hlt2 : k < n
    ·have HADD := Zh (add_any room wr HP.out HC.out (by have := HQ.out.1; omega))
     go_wp2_with fail
     refine HADD.out.mono ?_
     rintro e w7 ⟨rfl, h7⟩
     have H7 := Lib.hid' h7
     clear h7 HADD
     have HLE := Zh (add_len M' room)
     by_cases h0 : (M'.add room).1 = 0
     ·have HE2 := Zh (show Cl.addN room n (cl0 (X.map (·.1))) = Cl.addN room (n - (k + 1)) (M'.add room).2 by
       rw [HE.out, show n - k = (n - (k + 1)) + 1 by omega, addN_step h0])
      rw [h0, errV_0]
      clear h0
      go_wp2_with fail
      go_roundw
      case rel => exact ⟨k + 1, (M'.add room).2, by go_num, by omega, H7, Lib.hid' ⟨by have := HLE.out.1; have := HQ.out.1; omega, HLE.out.2.2.trans HQ.out.2⟩, HE2⟩
      case measure => simp [intOf]; omega
     ·have HR := Zh (show newCl n room (X.map (·.1)) = ((M'.add room).1, cl0 (X.map (·.1))) by
       have hE2 : Cl.addN room n (cl0 (X.map (·.1))) = M'.add room := by rw [HE.out, show n - k = (n - (k + 1)) + 1 by omega, addN_stop h0]
       unfold newCl
       rw [if_neg HU.out, if_neg (show ¬ (⟨1, X.map (·.1)⟩ : Pj).check ≠ 0 from fun h => h HZ.out), if_neg, if_pos]
       ·rw [show Int.toNat (n : Int) = n by omega, hE2]
       ·rw [show Int.toNat (n : Int) = n by omega, hE2]; exact h0
       ·rw [Bool.not_eq_true, List.any_eq_false]
        intro y hy
        rw [show unitsOf (⟨1, X.map (·.1)⟩ : Pj).all = l from HLL.out] at hy
        have := HNA.out y hy
        simp; omega)
      rw [errV_pos h0]
      have H0 := Lib.hid' h0
      clear h0
      go_wp2_with fail
      go_ret2
      rw [HR.out]
      exact .inl ⟨H0.out, by rw [errV_pos H0.out]; rfl, H7.out.side⟩
    ·obtain rfl : k = n := by omega
     have HE2 := Zh (show Cl.addN room k (cl0 (X.map (·.1))) = (0, M') by rw [HE.out, Nat.sub_self]; rfl)
     have HR := Zh (show newCl k room (X.map (·.1)) = (0, { M' with q := ⟨1, 0⟩ }) by
      unfold newCl
      rw [if_neg HU.out, if_neg (show ¬ (⟨1, X.map (·.1)⟩ : Pj).check ≠ 0 from fun h => h HZ.out), if_neg, if_neg]
      ·rw [show Int.toNat (k : Int) = k by omega, HE2.out]
      ·rw [show Int.toNat (k : Int) = k by omega, HE2.out]; simp
      ·rw [Bool.not_eq_true, List.any_eq_false]
       intro y hy
       rw [show unitsOf (⟨1, X.map (·.1)⟩ : Pj).all = l from HLL.out] at hy
       have := HNA.out y hy
       simp; omega)
     obtain ⟨bq, Kq, hb4, hsq, _, hback⟩ := HC.out.seqd
     have hcl := HC.out.c2.2
     rw [HQ.out.2] at hsq
     have HSET := Zh (SQ.set_any 1 0 hsq)
     rw [show (⟨0, 0⟩ : Q).set 1 0 = (0, ⟨1, 0⟩) from rfl] at HSET
     have HBK := Lib.hid' hback
     clear hsq hback
     go_wp2_with fail
     refine HSET.out.mono ?_
     rintro e w8 ⟨rfl, h8⟩
     have H8 := Zh (HBK.out _ _ h8).1
     clear h8
     rw [errV_0]
     go_wp2_with fail
     go_ret2
     rw [HR.out]
     exact .inr ⟨rfl, cc, ⟨a4, c4, K4⟩, rfl, H8.out⟩
end SL
end Go.Proofs.YtcpkeddgkpjioaaGreatDoor

namespace Go.Proofs.YtcpkeddgkpjioaaGreatDoor
open Go.RowKit
namespace SL
open DK SH SQ
theorem ClAt.newB {c : Nat} {M : Cl} {J : CJ} {L : List Asn} {W w w' : World} {A : Asn} (h : ClAt c M J L W w) (hb : Below w.heap.size w w') (hA : A.holds w') (hf : ∀ b, A.foot b → w.heap.size ≤ b) : ClAt c M J (A :: L) W w' := by
 obtain ⟨P, hJ, hP, H⟩ := h
 refine ⟨P, hJ, hP, (H.below1 hb hA hf).perm ?_⟩
 have e1 : ∀ L, clL c M P L = (clK c M P ++ (Asn.pool P.Z P.vs :: P.Us.map (unA P.vs))) ++ L := fun L => by unfold clL; simp
 rw [e1 L, e1 (_ :: L)]
 exact List.perm_middle.symm
theorem add_one {r : Int} (h : 400 ≤ r ∧ r ≤ 1073741824) : ∃ x, Fine r 1 u1 x ∧ Sd x.d ∧ (cl0 [[0]]).add r = (0, ⟨[x], ⟨1, [[0]]⟩, ⟨0, 0⟩⟩) := by
 obtain ⟨S, D, S', D', hx, e, hF⟩ := (Fine.new r).act (by decide) (by omega) sealA
 have ha : (apU U.new sealA).1 = 0 ∧ (apU U.new sealA).2.2 = u1 := ap1
 have hsd : Sd D' := by
  have h2 := Sd.doS (D := D) (S := S) (by have : newD r = D := congrArg Un.d hx; rw [← this]; exact Sd.new ⟨by omega, h.2⟩) sealA
  rw [e] at h2; exact h2
 rw [ha.1, ha.2] at hF
 simp only [if_pos] at hF
 refine ⟨_, hF, hsd, ?_⟩
 have hd : (cl0 [[0]]).grow (newU r) = ⟨[⟨D, some S⟩], ⟨1, [[0]]⟩, ⟨0, 0⟩⟩ := by
  unfold Cl.grow cl0 newU
  rw [hx]; rfl
 unfold Cl.add
 rw [if_neg (by omega), hd]
 show (((⟨[⟨D, some S⟩], ⟨1, [[0]]⟩, ⟨0, 0⟩⟩ : Cl).do 0 sealA).1, ((⟨[⟨D, some S⟩], ⟨1, [[0]]⟩, ⟨0, 0⟩⟩ : Cl).do 0 sealA).2.2) = _
 rw [do_on (u := 0) sealA (show (⟨[⟨D, some S⟩], ⟨1, [[0]]⟩, ⟨0, 0⟩⟩ : Cl).us[0]? = some ⟨D, some S⟩ from rfl), e]
 rw [ha.1]; rfl
theorem uni1 : unitsOf [0] = [0] := by
 have h1 : sortI [0] = [0] := by unfold sortI; simp
 unfold unitsOf
 rw [h1]; rfl
theorem chk1 : (⟨1, [[0]]⟩ : Pj).check = 0 := by
 have h1 : (⟨1, [[0]]⟩ : Pj).all = [0] := rfl
 unfold Pj.check
 rw [h1, uni1]
 decide
theorem new_one {r : Int} (h : 400 ≤ r ∧ r ≤ 1073741824) : ∃ x, Fine r 1 u1 x ∧ Sd x.d ∧ newCl 1 r [[0]] = (0, M1 x 0) := by
 obtain ⟨x, hx, hs, e⟩ := add_one h
 refine ⟨x, hx, hs, ?_⟩
 have h1 : Cl.addN r (Int.toNat 1) (cl0 [[0]]) = (0, ⟨[x], ⟨1, [[0]]⟩, ⟨0, 0⟩⟩) := by
  show (if ((cl0 [[0]]).add r).1 ≠ 0 then (cl0 [[0]]).add r else Cl.addN r 0 ((cl0 [[0]]).add r).2) = _
  rw [e]; rfl
 unfold newCl
 rw [if_neg (by omega), if_neg (by rw [chk1]; decide), if_neg (by rw [show (⟨1, [[0]]⟩ : Pj).all = [0] from rfl, uni1]; decide), h1]
 rfl
theorem m1_ok {r : Int} {k : Nat} {u : U} {x : Un} {n : Int} (h : Fine r k u x) (hs : Sd x.d) (hn : 0 ≤ n ∧ n ≤ 1048576) : (M1 x n).ok :=
 ⟨chk1, by show [x].length ≤ 8; simp, fun v hv => by
  have : v = 0 := by simpa [M1, Pj.all] using hv
  subst this
  exact ⟨Int.le_refl _, by show (0 : Int) < (([x] : List Un).length : Int); simp⟩, ⟨by show (0 : Int) ≤ 1 ∧ (1 : Int) ≤ _; decide, hn⟩, fun y hy => by
  have : y = x := by simpa [M1] using hy
  rw [this]; exact hs⟩
end SL
end Go.Proofs.YtcpkeddgkpjioaaGreatDoor

namespace Go.Proofs.YtcpkeddgkpjioaaGreatDoor
open Go.RowKit
namespace SL
open DK SH SQ
/-- a cluster's parts -/
def clB (c : Nat) (M : Cl) (P : ClP) : List Asn := clK c M P ++ (Asn.pool P.Z P.vs :: P.Us.map (unA P.vs))
theorem clL_eq (c : Nat) (M : Cl) (P : ClP) (L : List Asn) : clL c M P L = clB c M P ++ L := by unfold clL clB; simp
/-- two clusters, with what lies ahead of them -/
def Two (Z : List Asn) (a : Nat) (Ma : Cl) (b : Nat) (Mb : Cl) (W w : World) : Prop := ∃ Pa Pb, ClOK Ma Pa ∧ ClOK Mb Pb ∧ Sep W NoF (Z ++ (clB a Ma Pa ++ clB b Mb Pb)) w
theorem Two.toBelow {Z : List Asn} {a b : Nat} {Ma Mb : Cl} {W w : World} (h : Two Z a Ma b Mb W w) : Below W.heap.size W w := by
 obtain ⟨_, _, _, _, H⟩ := h
 exact H.toBelow
/-- a new cluster beside nothing, and beside another one -/
theorem chs_one {w : World} : ∃ w0 : World, (w.alloc (.cells #[.int .i64 0] 3)).alloc (.cells #[.slice (some ⟨w.heap.size, 0, none⟩) 1 1] 29) = w0 ∧ Below w.heap.size w w0 ∧ Chs w0 (some ⟨w.heap.size + 1, 0, none⟩) 1 [([0], some ⟨w.heap.size, 0, none⟩, 1)] := by
 have g1 := (Sep.start w).allocAt w.heap.size [.int .i64 0] 3 rfl
 have g2 := g1.allocAt (w.heap.size + 1) [.slice (some ⟨w.heap.size, 0, none⟩) 1 1] 29 (by simp)
 exact ⟨_, rfl, g2.toBelow, slv_box g2 0 rfl, fun x hx => by
  obtain rfl := List.mem_singleton.1 hx
  exact slv_box g2 1 rfl⟩
end SL
end Go.Proofs.YtcpkeddgkpjioaaGreatDoor
