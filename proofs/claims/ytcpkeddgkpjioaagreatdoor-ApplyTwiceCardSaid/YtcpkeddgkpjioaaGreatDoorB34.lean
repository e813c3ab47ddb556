/- Proved here: a part of the proof (34 of 34). -/
import Derived.Test.YtcpkeddgkpjioaaGreatDoorB33
import Derived.Deep.DeepCutAuto
import Derived.Deep.CutBlock
set_option linter.unusedSimpArgs false
set_option linter.unusedVariables false
set_option maxRecDepth 100000
namespace Go.Proofs.YtcpkeddgkpjioaaGreatDoor
open Go.RowKit
namespace SL
open DK SH SQ
theorem two_of {Z : List Asn} {a b : Nat} {Ma Mb : Cl} {Pb : ClP} {J : CJ} {W w : World} (h2 : ClOK Mb Pb) (h : ClAt a Ma J (Z ++ clB b Mb Pb) W w) : Two Z a Ma b Mb W w := by
 obtain ⟨P', _, h3, H'⟩ := h
 rw [clL_eq] at H'
 have p : ∀ X : List Asn, (Z ++ (X ++ clB b Mb Pb)).Perm (X ++ (Z ++ clB b Mb Pb)) := fun X => by
  rw [← List.append_assoc, ← List.append_assoc]
  exact List.perm_append_comm.append_right _
 exact ⟨P', Pb, h3, h2, H'.perm (p _).symm⟩
theorem Two.fst2 {Z : List Asn} {a b : Nat} {Ma Mb : Cl} {W w : World} (h : Two Z a Ma b Mb W w) : ∃ J Pb, ClOK Mb Pb ∧ ClAt a Ma J (Z ++ clB b Mb Pb) W w := by
 obtain ⟨Pa, Pb, h1, h2, H⟩ := h
 have p : ∀ X : List Asn, (Z ++ (X ++ clB b Mb Pb)).Perm (X ++ (Z ++ clB b Mb Pb)) := fun X => by
  rw [← List.append_assoc, ← List.append_assoc]
  exact List.perm_append_comm.append_right _
 exact ⟨Pa.J, Pb, h2, ⟨Pa, rfl, h1, by rw [clL_eq]; exact H.perm (p _)⟩⟩
theorem Two.swapZ {Z : List Asn} {a b : Nat} {Ma Mb : Cl} {W w : World} (h : Two Z a Ma b Mb W w) : Two Z b Mb a Ma W w := by
 obtain ⟨Pa, Pb, h1, h2, H⟩ := h
 exact ⟨Pb, Pa, h2, h1, H.perm (List.perm_append_comm.append_left Z)⟩
theorem Two.permZ {Z Z' : List Asn} {a b : Nat} {Ma Mb : Cl} {W w : World} (h : Two Z a Ma b Mb W w) (p : Z.Perm Z') : Two Z' a Ma b Mb W w := by
 obtain ⟨Pa, Pb, h1, h2, H⟩ := h
 exact ⟨Pa, Pb, h1, h2, H.perm (p.append_right _)⟩
theorem Two.focusZ {Z : List Asn} {a b : Nat} {Ma Mb : Cl} {W w : World} {A : Asn} (h : Two Z a Ma b Mb W w) (i : Nat) (hi : Z[i]? = some A) : Two (A :: Z.eraseIdx i) a Ma b Mb W w := h.permZ (perm_get hi)
theorem Two.side {Z : List Asn} {a b : Nat} {Ma Mb : Cl} {W w : World} (h : Two Z a Ma b Mb W w) : Sep W NoF Z w := by
 obtain ⟨Pa, Pb, h1, h2, H⟩ := h
 exact H.keepOnly (List.sublist_append_left _ _)
theorem Two.below {Z : List Asn} {a b : Nat} {Ma Mb : Cl} {W w w' : World} (h : Two Z a Ma b Mb W w) (hb : Below w.heap.size w w') : Two Z a Ma b Mb W w' := by
 obtain ⟨Pa, Pb, h1, h2, H⟩ := h
 exact ⟨Pa, Pb, h1, h2, H.below hb⟩
theorem Two.boxZ {Z : List Asn} {a b : Nat} {Ma Mb : Cl} {W w : World} (h : Two Z a Ma b Mb W w) (N : Nat) (R : List Value) (t : Nat) (hN : w.heap.size = N) : Two (.box N R t :: Z) a Ma b Mb W (w.alloc (.cells R.toArray t)) := by
 obtain ⟨Pa, Pb, h1, h2, H⟩ := h
 exact ⟨Pa, Pb, h1, h2, H.allocAt N R t hN⟩
theorem Two.setZ {Z : List Asn} {a b : Nat} {Ma Mb : Cl} {W w : World} {N : Nat} {R : List Value} {t : Nat} (h : Two (.box N R t :: Z) a Ma b Mb W w) (j : Nat) (v : Value) : Two (.box N (R.set j v) t :: Z) a Ma b Mb W (w.setCell ⟨N, j, none⟩ v) := by
 obtain ⟨Pa, Pb, h1, h2, H⟩ := h
 exact ⟨Pa, Pb, h1, h2, H.set 0 rfl j v⟩
theorem Two.subZ {Z Z' : List Asn} {a b : Nat} {Ma Mb : Cl} {W w : World} (h : Two Z a Ma b Mb W w) (hs : Z'.Sublist Z) : Two Z' a Ma b Mb W w := by
 obtain ⟨Pa, Pb, h1, h2, H⟩ := h
 exact ⟨Pa, Pb, h1, h2, H.keepOnly (hs.append_right _)⟩
theorem Two.newZ {Z : List Asn} {a b : Nat} {Ma Mb : Cl} {W w w' : World} {A : Asn} (h : Two Z a Ma b Mb W w) (hb : Below w.heap.size w w') (hA : A.holds w') (hf : ∀ b, A.foot b → w.heap.size ≤ b) : Two (A :: Z) a Ma b Mb W w' := by
 obtain ⟨Pa, Pb, h1, h2, H⟩ := h
 exact ⟨Pa, Pb, h1, h2, H.below1 hb hA hf⟩
theorem two_take {Z : List Asn} {a ap b : Nat} {Ma Mb : Cl} {W : World} (x : Sp) (e t f : Int) (X : List CE) (pa : Option Addr) (pk : Nat) (w : World) (hp : Pow W) (h : Two (Asn.appl ap x :: Z) a Ma b Mb W w) (hok : Ma.ok) (hx : 0 ≤ x.a ∧ x.a ≤ 1048576) (hX : CEs W pa pk X) :
  Calls Tryz.prog 17 #[ptrV ap, ptrV a, pclV e t f pa X.length pk] w fun en w' => en = .returned (.tuple #[rcV (takeA Ma x e t f X), errV (takeA Ma x e t f X).1]) ∧ Two (Asn.appl ap (takeA Ma x e t f X).2.2 :: Z) a (takeA Ma x e t f X).2.1 b Mb W w' := by
 obtain ⟨J, Pb, h2, h1⟩ := h.fst2
 refine (atake_any x e t f X pa pk w hp (show ClAt a Ma J (Asn.appl ap x :: (Z ++ clB b Mb Pb)) W w from h1) hok hx (fun M' w' h' => hX.below h'.toBelow)).mono ?_
 rintro en w' ⟨rfl, h3⟩
 exact ⟨rfl, two_of h2 (show ClAt a _ J ((Asn.appl ap _ :: Z) ++ clB b Mb Pb) W w' from h3)⟩
theorem two_read {Z : List Asn} {a b : Nat} {Ma Mb : Cl} {W : World} (n : Int) (w : World) (h : Two Z a Ma b Mb W w) (hok : Ma.ok) : Calls Tryz.prog 10 #[ptrV a, .int .i64 n] w (ReadR (Ma.read n).1 (Ma.read n).2 w) := by
 obtain ⟨J, Pb, _, h1⟩ := h.fst2
 exact Read_any n w h1 hok
theorem chs_01 {w : World} : ∃ w0 : World, (w.alloc (.cells #[.int .i64 0, .int .i64 1] 3)).alloc (.cells #[.slice (some ⟨w.heap.size, 0, none⟩) 2 2] 29) = w0 ∧ Below w.heap.size w w0 ∧ Chs w0 (some ⟨w.heap.size + 1, 0, none⟩) 1 [([0, 1], some ⟨w.heap.size, 0, none⟩, 2)] := by
 have g1 := (Sep.start w).allocAt w.heap.size [.int .i64 0, .int .i64 1] 3 rfl
 have g2 := g1.allocAt (w.heap.size + 1) [.slice (some ⟨w.heap.size, 0, none⟩) 2 2] 29 (by simp)
 exact ⟨_, rfl, g2.toBelow, slv_box g2 0 rfl, fun x hx => by
  obtain rfl := List.mem_singleton.1 hx
  exact slv_boxN (n := 2) g2 1 rfl (by decide)⟩
def one01 : List (List Int) := [[0, 1]]
theorem chk_of1 {X : List (List Int)} (h1 : 1 ≤ X.length ∧ X.length ≤ 4) (h2 : X.any wrongC = false) (h3 : X.flatten.any oddU = false) (h4 : X.flatten.Nodup) : (⟨1, X⟩ : Pj).check = 0 := by
 unfold Pj.check
 rw [if_neg (by show ¬ ((1 : Int) < 0 ∨ 1099511627776 < (1 : Int)); decide), if_neg (show ¬ (X.length < 1 ∨ 4 < X.length ∨ X.any wrongC = true) from by rintro (h | h | h); omega; omega; rw [h2] at h; cases h), if_neg (by show ¬ X.flatten.any oddU = true; rw [h3]; decide), if_neg]
 intro h
 exact (unitsOf_nodup X.flatten).1 h h4
theorem new_tw : ∃ M, newCl 2 16777216 one01 = (0, M) ∧ Even 16777216 1 0 M ∧ AllIn M := by
 obtain ⟨xs, h1, h2, e⟩ := addN_fine (r := 16777216) (by decide) (2 : Int).toNat (cl0 one01)
 have e' : Cl.addN 16777216 (2 : Int).toNat (cl0 one01) = (0, ⟨xs, ⟨1, one01⟩, ⟨0, 0⟩⟩) := by rw [e]; unfold cl0; simp
 have hc : (⟨1, one01⟩ : Pj).check = 0 := chk_of1 (by decide) (by decide) (by decide) (by decide)
 have hl : xs.length = 2 := h1
 refine ⟨⟨xs, ⟨1, one01⟩, ⟨1, 0⟩⟩, ?_, ⟨⟨hc, by show xs.length ≤ 8; omega, fun u hm => ?_, ⟨by show (0 : Int) ≤ 1 ∧ (1 : Int) ≤ _; decide, by show (0 : Int) ≤ 0 ∧ (0 : Int) ≤ _; decide⟩, fun x hx => (h2 x hx).2⟩, rfl, by show ([0, 1] : List Int).Nodup; simp, by decide, fun i x hx => ⟨u1, (h2 x (List.mem_of_getElem? hx)).1, rfl, rfl⟩⟩, fun i hi => ?_⟩
 ·unfold newCl
  rw [if_neg (by omega), if_neg (by rw [hc]; decide), if_neg, e']
  ·rfl
  ·rw [List.any_eq_true]
   rintro ⟨u, hm, hd⟩
   have hm2 : u ∈ ([0, 1] : List Int) := (unitsOf_mem u _).1 hm
   have : (2 : Int) ≤ u := by simpa using hd
   simp at hm2; omega
 ·have hm2 : u ∈ ([0, 1] : List Int) := hm
  show 0 ≤ u ∧ u < (xs.length : Int)
  rw [hl]
  simp at hm2; omega
 ·have hi2 : i < xs.length := hi
  show (i : Int) ∈ ([0, 1] : List Int)
  simp; omega
theorem rcV_two (r : Nat × Cl × Sp) : ∃ p q : Int, rcV r = .agg #[.int .i64 p, .int .i64 q] := by
 unfold rcV
 split
 ·exact ⟨_, _, rfl⟩
 ·exact ⟨_, _, rfl⟩
/-- while the clusters and appliers are made -/
def StA (NC NX : Nat) (M : Cl) (W : World) : Nat → World → Prop
 | 0, w => Sep W NoF [.box NX [.pointer none, .pointer none] 56, .box NC [.pointer none, .pointer none] 54] w
 | 1, w => ∃ c0 b0 P0, ClOK M P0 ∧ Sep W NoF ([Asn.appl b0 ⟨1, 0⟩, .box NX [ptrV b0, .pointer none] 56, .box NC [ptrV c0, .pointer none] 54] ++ clB c0 M P0) w
 | _, w => ∃ c0 c1 b0 b1, Two [Asn.appl b0 ⟨1, 0⟩, Asn.appl b1 ⟨1, 0⟩, .box NX [ptrV b0, ptrV b1] 56, .box NC [ptrV c0, ptrV c1] 54] c0 M c1 M W w
set_option maxHeartbeats 40000000 in
theorem applyTwice_any (ya : Option Addr) (yc : Nat) (Y : List PE) (w : World) (hp : DK.Pow w) (hY : PEs w ya yc Y) :
  Calls Tryz.prog 4 #[.slice ya Y.length yc] w fun en w' => en = .returned (.bool true) ∧ Below w.heap.size w w' := by
 have HP := Lib.hid' hp
 have HY := Lib.hid' hY
 have HA := Zh (alive26_any w hp)
 obtain ⟨M0, hn0, hE0, hA0⟩ := new_tw
 have HN0 := Lib.hid' hn0
 have HE0 := Lib.hid' hE0
 have HA0 := Lib.hid' hA0
 clear hp hY hn0 hE0 hA0
 go_enter Tryz.func4, Tryz.ntmps4
 go_wp2_with fail
 refine HA.out.mono ?_
 clear HA
 rintro en w1 ⟨rfl, hb1⟩
 have HB1 := Lib.hid' hb1
 clear hb1
 by_cases hlen : 20 < Y.length
 ·have hl2 : (20 : Int) < Y.length := by omega
  clear hlen
  go_wp2_with fail
  go_ret
  exact ⟨rfl, HB1.out⟩
 have hl2 : ¬ (20 : Int) < Y.length := by omega
 have HLEN := Lib.hid' hlen
 clear hlen
 go_upto_block 3 with fail
 have hs0 : Sep w NoF [.box (w1.heap.size + 1) [.pointer none, .pointer none] 56, .box w1.heap.size [.pointer none, .pointer none] 54] ((w1.alloc (.cells #[.pointer none, .pointer none] 54)).alloc (.cells #[.pointer none, .pointer none] 56)) :=
  ((((Sep.start w).below HB1.out).allocAt w1.heap.size [.pointer none, .pointer none] 54 rfl).allocAt (w1.heap.size + 1) [.pointer none, .pointer none] 56 (by simp))
 obtain ⟨NX, hNX⟩ : ∃ n, w1.heap.size + 1 = n := ⟨_, rfl⟩
 rw [hNX] at hs0 ⊢
 clear hNX HB1
 generalize (w1.alloc (.cells #[.pointer none, .pointer none] 54)).alloc (.cells #[.pointer none, .pointer none] 56) = w2 at *
 generalize w1.heap.size = NC at *
 have HS0 := Zh (show StA NC NX M0 w 0 w2 from hs0)
 clear hs0
 go_loopw [25] (fun v25 wr => ∃ K : Nat, v25 = .int .i64 K ∧ K ≤ 2 ∧ Hid (StA NC NX M0 w K wr)) (fun v25 _ => (2 - intOf v25).toNat)
 case atStart => exact ⟨0, rfl, by decide, HS0⟩
 case round =>
  clear HS0
  obtain ⟨K, rfl, hK, HS⟩ := hrel
  rcases (show K = 0 ∨ K = 1 ∨ K = 2 by omega) with rfl | rfl | rfl
  ·have hs : Sep w NoF [.box NX [.pointer none, .pointer none] 56, .box NC [.pointer none, .pointer none] 54] wr := HS.out
   have H0 := Lib.hid' hs
   clear hs HS
   go_wp2_with fail
   obtain ⟨w3, hw3, hb3, hX3⟩ := chs_01 (w := wr)
   rw [hw3]
   have hS3 := H0.out.below hb3
   clear hw3 hb3 H0
   have HNW := Zh (New_any 2 16777216 _ _ _ w3 HP.out hS3 hX3 (by show ([0, 1] : List Int).length ≤ _; decide))
   clear hX3 hS3
   refine HNW.out.mono ?_
   rintro e w4 hE
   unfold NewR at hE
   rw [show newCl 2 16777216 (([([0, 1], some ⟨wr.heap.size, 0, none⟩, 2)] : List Ch).map (·.1)) = (0, M0) from HN0.out] at hE
   obtain ⟨c0, P0, rfl, hP0, h4⟩ : ∃ c0 P0, e = .returned (.tuple #[ptrV c0, .nilIface]) ∧ ClOK M0 P0 ∧ Sep w NoF ([.box NX [.pointer none, .pointer none] 56, .box NC [.pointer none, .pointer none] 54] ++ clB c0 M0 P0) w4 := by
    rcases hE with ⟨h0, _⟩ | ⟨_, c, J, he, P, _, hP, H⟩
    ·exact absurd rfl h0
    ·rw [clL_eq] at H
     exact ⟨c, P, he, hP, H.perm List.perm_append_comm⟩
   have H4 := Lib.hid' h4
   have HP0 := Lib.hid' hP0
   clear hE h4 HNW hP0
   have q0 := H4.out.cell 1 rfl 0 rfl; have qf := H4.out.free 1 rfl 0; have ql := H4.out.lt 1 rfl
   have H5 := Zh (H4.out.set 1 rfl 0 (ptrV c0))
   go_wp2_with fail
   clear q0 qf ql H4
   generalize w4.setCell ⟨NC, 0, none⟩ (ptrV c0) = w5 at *
   refine (anew_any 1 0 w5).mono ?_
   rintro e w6 hE
   unfold NewAp at hE
   rw [if_neg (by decide)] at hE
   obtain ⟨rfl, hs6⟩ := hE
   have H6 := Zh (H5.out.below1 (A := Asn.appl w5.heap.size ⟨1, 0⟩) hs6.toBelow (hs6.at 0 rfl) (fun b hb => by have : b = w5.heap.size := hb; omega))
   clear hs6 H5
   generalize w5.heap.size = b0 at *
   have q0 := H6.out.cell 2 rfl 0 rfl; have qf := H6.out.free 2 rfl 0; have ql := H6.out.lt 2 rfl
   have H7 := Zh ((H6.out.set 2 rfl 0 (ptrV b0)).focus 1 rfl)
   go_wp2_with fail
   clear q0 qf ql H6
   go_roundw
   case rel => exact ⟨1, rfl, by decide, Lib.hid' ⟨c0, b0, P0, HP0.out, H7.out⟩⟩
   case measure => simp [intOf]
  ·obtain ⟨c0, b0, P0, hP0, hs⟩ : ∃ c0 b0 P0, ClOK M0 P0 ∧ Sep w NoF ([Asn.appl b0 ⟨1, 0⟩, .box NX [ptrV b0, .pointer none] 56, .box NC [ptrV c0, .pointer none] 54] ++ clB c0 M0 P0) wr := HS.out
   have H0 := Lib.hid' hs
   have HP0 := Lib.hid' hP0
   clear hs HS hP0
   go_wp2_with fail
   obtain ⟨w3, hw3, hb3, hX3⟩ := chs_01 (w := wr)
   rw [hw3]
   have hS3 := H0.out.below hb3
   clear hw3 hb3 H0
   have HNW := Zh (New_any 2 16777216 _ _ _ w3 HP.out hS3 hX3 (by show ([0, 1] : List Int).length ≤ _; decide))
   clear hX3 hS3
   refine HNW.out.mono ?_
   rintro e w4 hE
   unfold NewR at hE
   rw [show newCl 2 16777216 (([([0, 1], some ⟨wr.heap.size, 0, none⟩, 2)] : List Ch).map (·.1)) = (0, M0) from HN0.out] at hE
   obtain ⟨c1, rfl, h4⟩ : ∃ c1, e = .returned (.tuple #[ptrV c1, .nilIface]) ∧ Two [Asn.appl b0 ⟨1, 0⟩, .box NX [ptrV b0, .pointer none] 56, .box NC [ptrV c0, .pointer none] 54] c0 M0 c1 M0 w w4 := by
    rcases hE with ⟨h0, _⟩ | ⟨_, c, J, he, h⟩
    ·exact absurd rfl h0
    ·exact ⟨c, he, (two_of HP0.out h).swapZ⟩
   have H4 := Lib.hid' h4
   clear hE h4 HNW HP0
   have q0 := H4.out.side.cell 2 rfl 1 rfl; have qf := H4.out.side.free 2 rfl 1; have ql := H4.out.side.lt 2 rfl
   have H5 := Zh ((H4.out.focusZ 2 rfl).setZ 1 (ptrV c1))
   go_wp2_with fail
   clear q0 qf ql H4
   generalize w4.setCell ⟨NC, 1, none⟩ (ptrV c1) = w5 at *
   refine (anew_any 1 0 w5).mono ?_
   rintro e w6 hE
   unfold NewAp at hE
   rw [if_neg (by decide)] at hE
   obtain ⟨rfl, hs6⟩ := hE
   have H6 := Zh (H5.out.newZ (A := Asn.appl w5.heap.size ⟨1, 0⟩) hs6.toBelow (hs6.at 0 rfl) (fun b hb => by have : b = w5.heap.size := hb; omega))
   clear hs6 H5
   generalize w5.heap.size = b1 at *
   have q0 := H6.out.side.cell 3 rfl 1 rfl; have qf := H6.out.side.free 3 rfl 1; have ql := H6.out.side.lt 3 rfl
   have H7 := Zh ((((((H6.out.focusZ 3 rfl).setZ 1 (ptrV b1)).focusZ 2 rfl).focusZ 1 rfl).focusZ 2 rfl).focusZ 3 rfl)
   go_wp2_with fail
   clear q0 qf ql H6
   go_roundw
   case rel => exact ⟨2, rfl, by decide, Lib.hid' ⟨c0, c1, b0, b1, H7.out⟩⟩
   case measure => simp [intOf]
  ·obtain ⟨c0, c1, b0, b1, hs⟩ : ∃ c0 c1 b0 b1, Two [Asn.appl b0 ⟨1, 0⟩, Asn.appl b1 ⟨1, 0⟩, .box NX [ptrV b0, ptrV b1] 56, .box NC [ptrV c0, ptrV c1] 54] c0 M0 c1 M0 w wr := HS.out
   have H0 := Lib.hid' hs
   clear hs HS hK
   have hyl : Y.length ≤ 20 := by have := HLEN.out; omega
   go_wp2_with fail
   rw [show ((2 : Nat) : Int) = 2 from rfl]
   clear hl2 HLEN HN0
   go_loopw [8, 51] (fun v8 v51 wr => ∃ (k : Nat) (far : Int) (M : Cl) (x : Sp) (l : Int), v8 = .int .i64 far ∧ v51 = .int .i64 k ∧ k ≤ Y.length ∧ 0 ≤ far ∧ far ≤ 1048576 ∧ Hid (Two [Asn.appl b0 x, Asn.appl b1 x, .box NX [ptrV b0, ptrV b1] 56, .box NC [ptrV c0, ptrV c1] 54] c0 M c1 M w wr) ∧ Hid (Even 16777216 (14 * k + 1) l M) ∧ Hid (AllIn M) ∧ Hid (0 ≤ x.a ∧ x.a ≤ 1048576)) (fun _ v51 _ => Y.length - (intOf v51).toNat)
   case atStart => exact ⟨0, 0, M0, ⟨1, 0⟩, 0, rfl, rfl, Nat.zero_le _, by decide, by decide, H0, HE0, HA0, Zh (by decide)⟩
   case round =>
    clear H0 HE0 HA0
    obtain ⟨k, far, M, x, l, rfl, rfl, hk, hf0, hf1, HT, HE, HAL, HXR⟩ := hrel
    by_cases hlt : k < Y.length
    ·have hy1 := HY.out.below HT.out.toBelow
     obtain ⟨b, off, rfl, hb, hc⟩ := SlV.row (f := peV) (s := 4) (fun _ => rfl) (by decide) hy1.row hlt
     have d0 := hc 0 _ rfl; have d1 := hc 1 _ rfl; have d2 := hc 2 _ rfl; have d3 := hc 3 _ rfl
     simp only [Nat.add_zero] at d0
     have HYE := Zh (HY.out.each _ (List.getElem_mem hlt))
     clear hc hy1
     generalize Y[k] = y at *
     obtain ⟨pe, pt, pf, PX, pa, pk⟩ := y
     simp only at d0 d1 d2 d3 HYE
     go_upto_region 20 with fail
     have ht := HT.out.boxZ wr.heap.size [.int .i64 pe, .int .i64 pt, .int .i64 pf, .slice pa PX.length pk] 41 rfl
     rw [show ([.int .i64 pe, .int .i64 pt, .int .i64 pf, .slice pa PX.length pk] : List Value).toArray = #[.int .i64 pe, .int .i64 pt, .int .i64 pf, .slice pa PX.length pk] from rfl] at ht
     have H1 := Lib.hid' ht
     clear ht d0 d1 d2 d3 hb HT
     generalize wr.alloc (.cells #[.int .i64 pe, .int .i64 pt, .int .i64 pf, .slice pa PX.length pk] 41) = w1 at *
     generalize wr.heap.size = NP at *
     have HL5 := Zh (long5_any PX 12 (by decide) pa pk w1 (HYE.out.below H1.out.toBelow))
     have p3 := H1.out.side.cell 0 rfl 3 rfl; have pl := H1.out.side.lt 0 rfl
     go_wp2_with fail
     refine HL5.out.mono ?_
     clear HL5 p3 pl
     rintro en w2 ⟨rfl, hb2⟩
     have H2 := Zh (H1.out.below hb2)
     clear hb2 H1
     cases hl5 : long5 PX 12 with
     | true =>
      go_wp2_with fail
      go_ret
      exact ⟨rfl, H2.out.toBelow⟩
     | false =>
     have hP12 := long5_no hl5
     obtain ⟨⟨l', hE'⟩, hx', h2⟩ := take_twice HE.out HAL.out x HXR.out pe pt pf PX hP12 (by omega) (by omega)
     have hup := takeA_up HE.out.ok x pe pt pf PX
     have HE2 := Lib.hid' hE'
     have HX2 := Lib.hid' hx'
     have H22 := Lib.hid' h2
     have HA2 := Zh (HAL.out.up hup)
     have HTK := Zh (fun (Z : List Asn) (ap a b : Nat) (Mb : Cl) (wq : World) (hq : Two (Asn.appl ap x :: Z) a M b Mb w wq) => two_take x pe pt pf PX pa pk wq HP.out hq HE.out.ok HXR.out HYE.out)
     have HT2 := Zh (fun (Z : List Asn) (ap a b : Nat) (Mb : Cl) (wq : World) (hq : Two (Asn.appl ap (takeA M x pe pt pf PX).2.2 :: Z) a (takeA M x pe pt pf PX).2.1 b Mb w wq) => two_take (takeA M x pe pt pf PX).2.2 pe pt pf PX pa pk wq HP.out hq hup.ok hx' HYE.out)
     obtain ⟨rp, rq, hrv⟩ := rcV_two (takeA M x pe pt pf PX)
     have HRV := Lib.hid' hrv
     clear hl5 hP12 hE' hx' h2 hup hrv HE HAL HXR
     generalize takeA M x pe pt pf PX = r at *
     obtain ⟨z, M2, x2⟩ := r
     simp only at HE2 HX2 H22 HA2 HTK HT2
     have p0 := H2.out.side.cell 0 rfl 0 rfl; have p1 := H2.out.side.cell 0 rfl 1 rfl; have p2 := H2.out.side.cell 0 rfl 2 rfl; have p3 := H2.out.side.cell 0 rfl 3 rfl; have pl := H2.out.side.lt 0 rfl
     have x0 := H2.out.side.cell 3 rfl 0 rfl; have xl := H2.out.side.lt 3 rfl; have c0' := H2.out.side.cell 4 rfl 0 rfl; have cl := H2.out.side.lt 4 rfl
     rw [show pclV pe pt pf pa PX.length pk = .agg #[.int .i64 pe, .int .i64 pt, .int .i64 pf, .slice pa PX.length pk] from rfl] at HTK HT2
     go_wp2_with fail
     refine (HTK.out _ b0 c0 c1 M _ (H2.out.focusZ 1 rfl)).mono ?_
     clear p0 p1 p2 p3 pl x0 xl c0' cl
     rintro en w3 ⟨rfl, h3⟩
     have h3b := ((h3.swapZ).boxZ w3.heap.size [.int .i64 rp, .int .i64 rq] 49 rfl)
     rw [show ([.int .i64 rp, .int .i64 rq] : List Value).toArray = #[.int .i64 rp, .int .i64 rq] from rfl] at h3b
     have H3 := Lib.hid' h3b
     clear h3 h3b H2
     rw [HRV.out]
     go_upto_region 23 with fail
     generalize w3.alloc (.cells #[.int .i64 rp, .int .i64 rq] 49) = w4 at *
     generalize w3.heap.size = NR at *
     have p0 := H3.out.side.cell 2 rfl 0 rfl; have p1 := H3.out.side.cell 2 rfl 1 rfl; have p2 := H3.out.side.cell 2 rfl 2 rfl; have p3 := H3.out.side.cell 2 rfl 3 rfl; have pl := H3.out.side.lt 2 rfl
     have x1 := H3.out.side.cell 4 rfl 1 rfl; have xl := H3.out.side.lt 4 rfl; have c1' := H3.out.side.cell 5 rfl 1 rfl; have cl := H3.out.side.lt 5 rfl
     go_wp2_with fail
     refine (HTK.out _ b1 c1 c0 M2 _ (H3.out.focusZ 3 rfl)).mono ?_
     clear p0 p1 p2 p3 pl x1 xl c1' cl HTK
     rintro en w5 ⟨rfl, h5⟩
     have h5b := (h5.boxZ w5.heap.size [.int .i64 rp, .int .i64 rq] 49 rfl)
     rw [show ([.int .i64 rp, .int .i64 rq] : List Value).toArray = #[.int .i64 rp, .int .i64 rq] from rfl] at h5b
     have H5 := Lib.hid' h5b
     clear h5 h5b H3
     rw [HRV.out]
     go_upto_region 24 with fail
     generalize w5.alloc (.cells #[.int .i64 rp, .int .i64 rq] 49) = w6 at *
     generalize w5.heap.size = NS at *
     have r0 := H5.out.side.cell 2 rfl 0 rfl; have r1 := H5.out.side.cell 2 rfl 1 rfl; have rl := H5.out.side.lt 2 rfl
     have s0 := H5.out.side.cell 0 rfl 0 rfl; have s1 := H5.out.side.cell 0 rfl 1 rfl; have sl := H5.out.side.lt 0 rfl
     go_upto_region 26 with (go_at_call 18; refine (num_any _ _).mono ?_; rintro en wz ⟨rfl, rfl⟩)
     clear r0 r1 rl s0 s1 sl
     by_cases hz : z = 0
     ·subst hz
      rw [H22.out rfl] at HT2
      rw [errV_0]
      have p0 := H5.out.side.cell 4 rfl 0 rfl; have p1 := H5.out.side.cell 4 rfl 1 rfl; have p2 := H5.out.side.cell 4 rfl 2 rfl; have p3 := H5.out.side.cell 4 rfl 3 rfl; have pl := H5.out.side.lt 4 rfl
      have x1 := H5.out.side.cell 5 rfl 1 rfl; have xl := H5.out.side.lt 5 rfl; have c1' := H5.out.side.cell 6 rfl 1 rfl; have cl := H5.out.side.lt 6 rfl
      clear H22
      go_wp2_with fail
      refine (HT2.out _ b1 c1 c0 M2 _ (H5.out.focusZ 1 rfl)).mono ?_
      clear p0 p1 p2 p3 pl x1 xl c1' cl HT2
      rintro en w7 ⟨rfl, h7⟩
      have H7 := Lib.hid' h7
      clear h7 H5
      rw [HRV.out, errV_0]
      have r0 := H7.out.side.cell 2 rfl 0 rfl; have r1 := H7.out.side.cell 2 rfl 1 rfl; have rf0 := H7.out.side.free 2 rfl 0; have rf1 := H7.out.side.free 2 rfl 1; have rl := H7.out.side.lt 2 rfl
      have H8 := Zh (((H7.out.focusZ 2 rfl).setZ 0 (.int .i64 rp)).setZ 1 (.int .i64 rq))
      go_upto_region 28 with fail
      clear r0 r1 rf0 rf1 rl H7
      generalize (w7.setCell ⟨NR, 0, none⟩ (.int .i64 rp)).setCell ⟨NR, 1, none⟩ (.int .i64 rq) = w8 at *
      have r0 := H8.out.side.cell 0 rfl 0 rfl; have r1 := H8.out.side.cell 0 rfl 1 rfl; have rl := H8.out.side.lt 0 rfl
      have s0 := H8.out.side.cell 2 rfl 0 rfl; have s1 := H8.out.side.cell 2 rfl 1 rfl; have sl := H8.out.side.lt 2 rfl
      go_upto_region 30 with fail
      clear r0 r1 rl s0 s1 sl
      have x0 := H8.out.side.cell 5 rfl 0 rfl; have xl := H8.out.side.lt 5 rfl
      have b1' := H8.out.side.cell 3 rfl 1 rfl; have bl := H8.out.side.lt 3 rfl
      have H9 := Zh (((H8.out.swapZ).focusZ 3 rfl).subZ ((((((List.Sublist.refl _).cons _).cons _).cons_cons _).cons _).cons_cons _))
      go_wp2_with (go_at_call 19; refine (aapplied_any _ b1' bl).mono ?_; rintro en wz ⟨rfl, rfl⟩)
      go_roundw
      case rel => exact ⟨k + 1, max far x2.a, M2, x2, l', rfl, by go_num, by omega, by have := HX2.out; omega, by have := HX2.out; omega, H9, Zh (HE2.out.mono (by omega)), HA2, HX2⟩
      case measure => simp [intOf]; omega
     ·rw [errV_pos hz]
      have hze : ((z : Int) == 0) = false := by simpa using (by omega : ¬ (z : Int) = 0)
      clear hz
      go_upto_region 30 with fail
      have x0 := H5.out.side.cell 5 rfl 0 rfl; have xl := H5.out.side.lt 5 rfl
      have b1' := H5.out.side.cell 3 rfl 1 rfl; have bl := H5.out.side.lt 3 rfl
      have H9 := Zh (((H5.out.swapZ).focusZ 3 rfl).subZ ((((((List.Sublist.refl _).cons _).cons _).cons_cons _).cons _).cons_cons _))
      go_wp2_with (go_at_call 19; refine (aapplied_any _ b1' bl).mono ?_; rintro en wz ⟨rfl, rfl⟩)
      go_roundw
      case rel => exact ⟨k + 1, max far x2.a, M2, x2, l', rfl, by go_num, by omega, by have := HX2.out; omega, by have := HX2.out; omega, H9, Zh (HE2.out.mono (by omega)), HA2, HX2⟩
      case measure => simp [intOf]; omega
    ·have HLV := Lib.hid' HE.out.live
     go_wp2_with fail
     clear HY HE HAL HXR
     go_loopw [15] (fun v15 wr => ∃ a : Int, v15 = .int .i64 a ∧ 0 ≤ a ∧ a ≤ 500 ∧ Hid (Two [Asn.appl b0 x, Asn.appl b1 x, .box NX [ptrV b0, ptrV b1] 56, .box NC [ptrV c0, ptrV c1] 54] c0 M c1 M w wr)) (fun v15 _ => (500 - intOf v15).toNat)
     case atStart => exact ⟨0, rfl, by decide, by decide, HT⟩
     case round =>
      clear HT
      obtain ⟨a, rfl, ha0, ha1, HT⟩ := hrel
      by_cases ham : a < min (far + 2) 500
      ·have hre := HLV.out.read (a := a) ha0 (by omega)
       have HR0 := Zh (fun (wq : World) (Z : List Asn) (ca cb : Nat) (hq : Two Z ca M cb M w wq) => two_read a wq hq HLV.out.ok)
       generalize M.read a = rd at *
       obtain ⟨z, y⟩ := rd
       simp only at hre HR0
       subst hre
       have q0 := HT.out.side.cell 3 rfl 0 rfl; have ql := HT.out.side.lt 3 rfl
       go_wp2_with fail
       refine (HR0.out _ _ c0 c1 HT.out).mono ?_
       rintro en w5 ⟨a5, k5, rfl, ho5, hb5⟩
       have h5 := ((HT.out.below hb5).boxZ w5.heap.size [.int .i64 y.k, .slice a5 y.d.length k5] 36 rfl)
       rw [show ([.int .i64 y.k, .slice a5 y.d.length k5] : List Value).toArray = #[.int .i64 y.k, .slice a5 y.d.length k5] from rfl] at h5
       have H5 := Lib.hid' h5
       have HBY := Zh (SlV.below (show Bytes w5 (.slice a5 y.d.length k5) y.d from SlV.of_own ho5) (Nat.le_refl _) (show Below w5.heap.size w5 (w5.alloc (.cells #[.int .i64 y.k, .slice a5 y.d.length k5] 36)) by go_grown))
       clear q0 ql ho5 hb5 h5 HT
       rw [errV_0]
       go_upto_region 36 with fail
       generalize w5.alloc (.cells #[.int .i64 y.k, .slice a5 y.d.length k5] 36) = w6 at *
       generalize w5.heap.size = N5 at *
       have q1 := H5.out.side.cell 4 rfl 1 rfl; have ql := H5.out.side.lt 4 rfl
       go_wp2_with fail
       refine (HR0.out _ _ c1 c0 H5.out.swapZ).mono ?_
       rintro en w7 ⟨a7, k7, rfl, ho7, hb7⟩
       have h7 := ((H5.out.below hb7).boxZ w7.heap.size [.int .i64 y.k, .slice a7 y.d.length k7] 36 rfl)
       rw [show ([.int .i64 y.k, .slice a7 y.d.length k7] : List Value).toArray = #[.int .i64 y.k, .slice a7 y.d.length k7] from rfl] at h7
       have H7 := Lib.hid' h7
       have hbg : Below w7.heap.size w7 (w7.alloc (.cells #[.int .i64 y.k, .slice a7 y.d.length k7] 36)) := by go_grown
       have HB7 := Zh (SlV.below (show Bytes w7 (.slice a7 y.d.length k7) y.d from SlV.of_own ho7) (Nat.le_refl _) hbg)
       have HB6 := Zh (SlV.below (SlV.below HBY.out (Nat.le_refl _) hb7) (Nat.le_refl _) hbg)
       clear q1 ql ho7 hb7 h7 hbg HBY H5 HR0
       rw [errV_0]
       go_upto_region 37 with fail
       generalize w7.alloc (.cells #[.int .i64 y.k, .slice a7 y.d.length k7] 36) = w8 at *
       generalize w7.heap.size = N7 at *
       have s0 := H7.out.side.cell 0 rfl 0 rfl; have s1 := H7.out.side.cell 0 rfl 1 rfl; have sl := H7.out.side.lt 0 rfl
       have r0 := H7.out.side.cell 1 rfl 0 rfl; have r1 := H7.out.side.cell 1 rfl 1 rfl; have rl := H7.out.side.lt 1 rfl
       have HSM := Zh (same_any (.agg #[.int .i64 y.k, .slice a5 y.d.length k5]) (.agg #[.int .i64 y.k, .slice a7 y.d.length k7]) y y w8 ⟨a5, k5, rfl, HB6.out⟩ ⟨a7, k7, rfl, HB7.out⟩)
       rw [show decide (y = y) = true by simp] at HSM
       go_wp2_with fail
       refine HSM.out.mono ?_
       clear HSM s0 s1 sl r0 r1 rl
       rintro en w9 ⟨rfl, hb9⟩
       have H9 := Zh ((H7.out.below hb9).subZ ((List.sublist_cons_self _ _).trans (List.sublist_cons_self _ _)))
       clear hb9 H7
       go_wp2_with fail
       go_roundw
       case rel => exact ⟨a + 1, by go_num, by omega, by omega, H9⟩
       case measure => simp [intOf]; omega
      ·have q0 := HT.out.side.cell 2 rfl 0 rfl; have q1 := HT.out.side.cell 2 rfl 1 rfl; have ql := HT.out.side.lt 2 rfl
       have HRC0 := Zh (fun (wq : World) (hq : Below wr.heap.size wr wq) => areceipt_any wq 0 (HT.out.side.below hq) rfl)
       have HRC1 := Zh (fun (wq : World) (hq : Below wr.heap.size wr wq) => areceipt_any wq 1 (HT.out.side.below hq) rfl)
       go_upto_region 39 with fail
       refine startD (S := (fun w' => w'.cell? ⟨NX, 0, none⟩ = some (ptrV b0) ∧ w'.cell? ⟨NX, 1, none⟩ = some (ptrV b1) ∧ NX < w'.heap.size)) (by kernel_rfl) ⟨q0, q1, ql⟩ (fun hH0 => ?_)
       simp only [List.length_cons, List.length_nil, Nat.reduceAdd, List.replicate_succ, List.replicate_zero]
       refine tD 0 144 (.pointer (some ⟨NX, 0, none⟩)) rfl rfl [(4, .pointer (some ⟨NX, 0, none⟩))] hH0 ?_
       dsimp only [sZ, sS]
       refine tD 1 145 (.pointer (some ⟨b0, 0, none⟩)) rfl rfl [(144, .pointer (some ⟨NX, 0, none⟩))] hH0 ?_
       dsimp only [sZ, sS]
       refine tD 3 147 (.pointer (some ⟨NX, 1, none⟩)) rfl rfl [(4, .pointer (some ⟨NX, 0, none⟩))] hH0 ?_
       dsimp only [sZ, sS]
       refine tD 4 148 (.pointer (some ⟨b1, 0, none⟩)) rfl rfl [(147, .pointer (some ⟨NX, 1, none⟩))] hH0 ?_
       dsimp only [sZ, sS]
       refine rD 2 rfl (fun K hK => ?_)
       go_simp
       refine (HRC0.out _ (Below.refl _ _).drew).mono ?_
       rintro en w5 ⟨rfl, hb⟩
       have HB5 := Zh ((Below.refl wr.heap.size wr).drew.trans (hb.mono (Below.refl wr.heap.size wr).drew.size))
       clear hb
       refine hK.out _ _ ?_ (fun hH1 => ?_)
       ·exact ⟨(HT.out.side.below HB5.out).cell 2 rfl 0 rfl, (HT.out.side.below HB5.out).cell 2 rfl 1 rfl, (HT.out.side.below HB5.out).lt 2 rfl⟩
       clear hK K
       try simp only [Act.put, gA, gZ, gS, sA, sZ, sS]
       refine rD 5 rfl (fun K hK => ?_)
       go_simp
       refine (HRC1.out _ HB5.out).mono ?_
       rintro en w6 ⟨rfl, hb⟩
       have HB6 := Zh (HB5.out.trans (hb.mono HB5.out.size))
       clear hb
       refine hK.out _ _ ?_ (fun hH2 => ?_)
       ·exact ⟨(HT.out.side.below HB6.out).cell 2 rfl 0 rfl, (HT.out.side.below HB6.out).cell 2 rfl 1 rfl, (HT.out.side.below HB6.out).lt 2 rfl⟩
       clear hK K
       try simp only [Act.put, gA, gZ, gS, sA, sZ, sS]
       refine tD 6 150 (.bool true) rfl rfl [(146, .agg #[.int .i64 x.e, .int .i64 x.a]), (149, .agg #[.int .i64 x.e, .int .i64 x.a])] hH2 ?_
       dsimp only [sZ, sS]
       refine tD 7 2 (.bool true) rfl rfl [(150, .bool true)] hH2 ?_
       dsimp only [sZ, sS]
       refine wpAnyH_done (by kernel_rfl) ?_ _
       go_wp2_with fail
       go_ret
       exact ⟨rfl, HT.out.toBelow.trans (HB6.out.mono HT.out.toBelow.size)⟩
end SL
end Go.Proofs.YtcpkeddgkpjioaaGreatDoor
