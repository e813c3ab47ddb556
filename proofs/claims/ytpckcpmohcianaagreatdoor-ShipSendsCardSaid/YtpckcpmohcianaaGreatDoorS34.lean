/- Proved here: a part of the proof (34 of 34). -/
import Derived.Test.YtpckcpmohcianaaGreatDoorS29
import Derived.Test.YtpckcpmohcianaaGreatDoorS7
import Derived.Test.YtpckcpmohcianaaGreatDoorS32
import Derived.Test.YtpckcpmohcianaaGreatDoorS8
set_option linter.unusedSimpArgs false
set_option linter.unusedVariables false
set_option maxRecDepth 100000
namespace Go.Proofs.YtpckcpmohcianaaGreatDoor
open Go.RowKit
namespace SL
open DK SH SQ
/-- a cell, with where its data lie -/
structure CE where
 c : C
 a : Option Addr
 k : Nat
def ceV (x : CE) : List Value := [.int .i64 x.c.k, .slice x.a x.c.d.length x.k]
abbrev ceA (x : CE) : Asn := .row 5 1 (.slice x.a x.c.d.length x.k) x.c.d.length (byteVs x.c.d)
structure CEs (w : World) (a : Option Addr) (k : Nat) (X : List CE) : Prop where
 row : SlV w (.slice a X.length k) X.length (X.flatMap ceV)
 each : ∀ x ∈ X, Bytes w (.slice x.a x.c.d.length x.k) x.c.d
theorem etCells : ElemT Tryz.prog 61 47 2 32 := ElemT.mk' (z := .agg #[.int .i64 0, .slice none 0 0]) Tryz.underlying61 (by kernel_rfl) rfl (by decide) (by decide)
/-- a row of cells that the call itself has laid, as parts -/
abbrev ceR (X : List CE) (a : Option Addr) (k : Nat) : Asn := .row 47 2 (.slice a X.length k) X.length (X.flatMap ceV)
/-- the least low mark of units -/
def minLow (M : Cl) (l : List Int) (t : Int) : Int := l.foldl (fun t u => min t (M.lowU u)) t
/-- cells from an address on, so many, up to the first empty one; an error's number -/
def nextR (M : Cl) : Nat → Int → List C → Nat × List C
 | 0, _, X => (0, X)
 | k + 1, a, X => if (M.read a).1 ≠ 0 then ((M.read a).1, X) else if (M.read a).2.k = 0 then (0, X) else nextR M k (a + 1) (X ++ [(M.read a).2])
theorem nextR_err {M : Cl} {k : Nat} {a : Int} {X : List C} (h : (M.read a).1 ≠ 0) : nextR M (k + 1) a X = ((M.read a).1, X) := by show (if _ then _ else _) = _; rw [if_pos h]
theorem nextR_end {M : Cl} {k : Nat} {a : Int} {X : List C} (h : (M.read a).1 = 0) (h2 : (M.read a).2.k = 0) : nextR M (k + 1) a X = (0, X) := by show (if _ then _ else _) = _; rw [if_neg (by rw [h]; decide), if_pos h2]
theorem nextR_on {M : Cl} {k : Nat} {a : Int} {X : List C} (h : (M.read a).1 = 0) (h2 : (M.read a).2.k ≠ 0) : nextR M (k + 1) a X = nextR M k (a + 1) (X ++ [(M.read a).2]) := by show (if _ then _ else _) = _; rw [if_neg (by rw [h]; decide), if_neg h2]
def many64 (f t : Int) : Nat := (min (f + 64) t - f).toNat
/-- the next parcel: an error's number, its mark, its cells -/
def nextS (M : Cl) (f : Int) : Nat × Int × List C := if M.tail.1 ≠ 0 then (M.tail.1, 0, []) else
 if (nextR M (many64 f M.tail.2) f []).1 ≠ 0 then ((nextR M (many64 f M.tail.2) f []).1, 0, []) else (0, minLow M M.units 1048576, (nextR M (many64 f M.tail.2) f []).2)
abbrev pclV (e t f : Int) (a : Option Addr) (n k : Nat) : Value := .agg #[.int .i64 e, .int .i64 t, .int .i64 f, .slice a n k]
def NextR (c : Nat) (M : Cl) (J : CJ) (L : List Asn) (W : World) (s : Nat) (p : Sp) (en : Ending) (w' : World) : Prop := ∃ r, nextS M p.a = r ∧
 ((r.1 ≠ 0 ∧ en = .returned (.tuple #[pclV 0 0 0 none 0 0, errV r.1]) ∧ ClAt c M J (Asn.ship s p :: L) W w') ∨
  (r.1 = 0 ∧ ∃ a k X, en = .returned (.tuple #[pclV p.e r.2.1 p.a a X.length k, .nilIface]) ∧ ClAt c M J (ceR X a k :: Asn.all (X.map ceA) :: Asn.ship s p :: L) W w' ∧ X.map (·.c) = r.2.2))
theorem stail_any {c s : Nat} {M : Cl} {J : CJ} {L : List Asn} {W : World} (w : World) (h : ClAt c M J L W w) (sl : s < w.heap.size) :
  Calls Tryz.prog 37 #[ptrV s, ptrV c] w fun en w' => en = .returned (.tuple #[.int .i64 M.tail.2, errV M.tail.1]) ∧ ClAt c M J L W w' := by
 have HT := Zh (ctail_any w h)
 clear h
 go_enter Tryz.func37, Tryz.ntmps37
 go_wp2_with fail
 refine HT.out.mono ?_
 rintro en wz ⟨rfl, hz⟩
 have HZ := Lib.hid' hz
 clear hz
 go_wp2_with fail
 go_ret2
 exact ⟨rfl, HZ.out⟩
theorem ClAt.focus {c : Nat} {M : Cl} {J : CJ} {L : List Asn} {W w : World} {A : Asn} (h : ClAt c M J L W w) (i : Nat) (hi : L[i]? = some A) : ClAt c M J (A :: L.eraseIdx i) W w := h.permL (perm_get hi)
theorem ClAt.noCells {c : Nat} {M : Cl} {J : CJ} {L : List Asn} {W w : World} (h : ClAt c M J L W w) : ClAt c M J (ceR [] none 0 :: Asn.all (([] : List CE).map ceA) :: L) W w := by
 obtain ⟨P, rfl, hP, H⟩ := ClAt.front (K := []) h
 exact ClAt.unfront (K := [_, _]) hP ((Sep.none ceA H).nilRow 47 2)
set_option maxHeartbeats 16000000 in
theorem next_any {c s : Nat} {M : Cl} {J : CJ} {L : List Asn} {W : World} (p : Sp) (w : World) (h : ClAt c M J (Asn.ship s p :: L) W w) (hok : M.ok) (hp : 0 ≤ p.a ∧ p.a ≤ 1048576) :
  Calls Tryz.prog 13 #[ptrV s, ptrV c] w (NextR c M J L W s p) := by
 have HOK := Lib.hid' hok
 have HS := Zh (show nextS M p.a = if M.tail.1 ≠ 0 then (M.tail.1, 0, []) else
  if (nextR M (many64 p.a M.tail.2) p.a []).1 ≠ 0 then ((nextR M (many64 p.a M.tail.2) p.a []).1, 0, []) else (0, minLow M M.units 1048576, (nextR M (many64 p.a M.tail.2) p.a []).2) from rfl)
 have HUF := Zh (units_facts hok)
 have hq : M.tail.1 = 0 → 0 ≤ M.tail.2 ∧ M.tail.2 ≤ 1048576 := by
  intro h0
  have e1 : M.tail.2 = M.q.n := by
   unfold Cl.tail Q.tail at h0 ⊢
   split at h0
   ·rename_i hz; exact absurd h0 hz
   ·rename_i hz; rw [if_neg hz]
  rw [e1]; exact hok.seq.n
 have HQ := Lib.hid' hq
 clear hq
 obtain ⟨pe, pa⟩ := p
 simp only at hp HS
 obtain ⟨NR, hNR⟩ : ∃ n, w.heap.size = n := ⟨_, rfl⟩
 have h1 := h.allocB NR [.int .i64 0, .int .i64 0, .int .i64 0, .slice none 0 0] 65 hNR
 obtain ⟨w1, hw1⟩ : ∃ w1, w.alloc (.cells #[.int .i64 0, .int .i64 0, .int .i64 0, .slice none 0 0] 65) = w1 := ⟨_, rfl⟩
 rw [show ([.int .i64 0, .int .i64 0, .int .i64 0, .slice none 0 0] : List Value).toArray = #[.int .i64 0, .int .i64 0, .int .i64 0, .slice none 0 0] from rfl, hw1] at h1
 have H1 := Lib.hid' h1
 have HT := Zh (stail_any w1 h1 (h1.side.lt 1 rfl))
 clear h h1 hok
 generalize M.tail = T at *
 obtain ⟨tz, tl⟩ := T
 simp only at HT HS HQ
 go_enter Tryz.func13, Tryz.ntmps13
 go_upto_region 1 with fail
 try rw [hw1]
 try rw [hNR]
 clear hw1 hNR
 have s0 := H1.out.side.cell 1 rfl 0 rfl; have sl := H1.out.side.lt 1 rfl
 clear H1
 go_wp2_with fail
 refine HT.out.mono ?_
 rintro en w1b ⟨rfl, h1b⟩
 have H1 := Lib.hid' h1b
 clear HT h1b s0 sl
 generalize w1b = w1 at *
 have s0 := H1.out.side.cell 1 rfl 0 rfl; have sl := H1.out.side.lt 1 rfl
 by_cases hz : tz = 0
 rotate_left
 ·have HR := Zh (HS.out.trans (if_pos hz))
  rw [errV_pos hz]
  have HZ := Lib.hid' hz
  have y0 := H1.out.side.cell 0 rfl 0 rfl; have y1 := H1.out.side.cell 0 rfl 1 rfl; have y2 := H1.out.side.cell 0 rfl 2 rfl; have y3 := H1.out.side.cell 0 rfl 3 rfl; have r0 := H1.out.side.free 0 rfl 0; have r1 := H1.out.side.free 0 rfl 1; have r2 := H1.out.side.free 0 rfl 2; have r3 := H1.out.side.free 0 rfl 3; have rl := H1.out.side.lt 0 rfl
  have H2 := Zh ((((H1.out.setB 0 (.int .i64 0)).setB 1 (.int .i64 0)).setB 2 (.int .i64 0)).setB 3 (.slice none 0 0))
  clear hz HS HQ
  go_wp2_with fail
  have k0 := H2.out.side.cell 0 rfl 0 rfl; have k1 := H2.out.side.cell 0 rfl 1 rfl; have k2 := H2.out.side.cell 0 rfl 2 rfl; have k3 := H2.out.side.cell 0 rfl 3 rfl
  generalize (((w1.setCell ⟨NR, 0, none⟩ (.int .i64 0)).setCell ⟨NR, 1, none⟩ (.int .i64 0)).setCell ⟨NR, 2, none⟩ (.int .i64 0)).setCell ⟨NR, 3, none⟩ (.slice none 0 0) = w2 at *
  refine bodyPost_ret (v := .tuple #[pclV 0 0 0 none 0 0, .iface 82 (.int .i64 tz)]) (by simp [results, Tryz.results13, go_sem, k0, k1, k2, k3]) rfl ?_
  exact ⟨_, rfl, .inl ⟨by rw [HR.out]; exact HZ.out, by rw [HR.out, errV_pos HZ.out], ClAt.less (K := [_]) H2.out⟩⟩
 subst hz
 have HS1 := Zh (HS.out.trans (if_neg (by simp)))
 obtain ⟨ht0, ht1⟩ := HQ.out rfl
 rw [errV_0]
 clear HS HQ
 go_upto_region 5 with fail
 have h2 := H1.out.allocB w1.heap.size [.int .i64 pe, .int .i64 1048576, .int .i64 0, .slice none 0 0] 65 rfl
 rw [show ([.int .i64 pe, .int .i64 1048576, .int .i64 0, .slice none 0 0] : List Value).toArray = #[.int .i64 pe, .int .i64 1048576, .int .i64 0, .slice none 0 0] from rfl] at h2
 clear s0 sl H1
 generalize w1.alloc (.cells #[.int .i64 pe, .int .i64 1048576, .int .i64 0, .slice none 0 0] 65) = w2 at *
 generalize w1.heap.size = NP at *
 have H2 := Lib.hid' h2
 have HPJ := Zh (Projection_any w2 h2 HOK.out)
 clear h2
 go_wp2_with fail
 refine HPJ.out.mono ?_
 clear HPJ
 rintro en w3 ⟨a3, k3, X3, rfl, hX3, hc3, hb3⟩
 have hall : flatC X3 = M.p.all := by show (X3.map (·.1)).flatten = _; rw [hc3]; rfl
 have HUN := Zh (punits_any M.p.e a3 k3 X3 w3 hX3 (by rw [hall]; have := all_len (pj_ok HOK.out.proj); omega))
 rw [show pjV M.p.e a3 k3 X3 = .agg #[.int .i64 M.p.e, .slice a3 X3.length k3] from rfl] at HUN
 have H3 := Zh (H2.out.below hb3)
 have HALL := Lib.hid' hall
 clear hX3 hc3 hb3 H2 hall
 go_wp2_with fail
 refine HUN.out.mono ?_
 clear HUN
 rintro en w4 ⟨ua, uc, rfl, ho4, hb4⟩
 rw [HALL.out] at ho4 ⊢
 rw [show unitsOf M.p.all = M.units from rfl] at ho4 ⊢
 have H4 := Zh (H3.out.belowRow hb4 ho4)
 clear ho4 hb4 H3 HALL
 have hul := HUF.out.1
 go_wp2_with fail
 go_loopw [34] (fun v34 wr => ∃ (k : Nat) (t : Int), v34 = .int .i64 k ∧ k ≤ M.units.length ∧ Hid (minLow M (M.units.take k) 1048576 = t) ∧ Hid (ClAt c M J (.row 3 1 (.slice ua M.units.length uc) M.units.length (zVs M.units) :: .box NP [.int .i64 pe, .int .i64 t, .int .i64 0, .slice none 0 0] 65 :: .box NR [.int .i64 0, .int .i64 0, .int .i64 0, .slice none 0 0] 65 :: Asn.ship s ⟨pe, pa⟩ :: L) W wr)) (fun v34 _ => M.units.length - (intOf v34).toNat)
 case atStart => exact ⟨0, 1048576, rfl, Nat.zero_le _, Lib.hid' rfl, H4⟩
 case round =>
  clear H4
  obtain ⟨k, t, rfl, hk, HT, HQ⟩ := hrel
  by_cases hlt : k < M.units.length
  ·obtain ⟨b, off, rfl, hb, hc⟩ := (show Zs wr (.slice ua M.units.length uc) M.units from SlV.of_own (HQ.out.side.row 0 rfl)).at hlt
   have HUI := Zh (HUF.out.2 _ (List.getElem_mem hlt))
   have HTK := Zh (take_succ M.units k hlt)
   have HM8 := Lib.hid' HOK.out.many
   have q1 := HQ.out.side.cell 1 rfl 1 rfl; have ql := HQ.out.side.lt 1 rfl
   generalize M.units[k] = u at *
   go_upto_region 8 with fail
   clear hb hc
   refine startD (S := (fun w' => NP < w'.heap.size)) (by kernel_rfl) ql (fun hH0 => ?_)
   simp only [List.length_cons, List.length_nil, Nat.reduceAdd, List.replicate_succ, List.replicate_zero]
   refine tD 0 38 (.pointer (some ⟨NP, 1, none⟩)) rfl rfl [(8, .pointer (some ⟨NP, 0, none⟩))] hH0 ?_
   dsimp only [sZ, sS]
   refine tD 2 40 (.pointer (some ⟨c, 0, none⟩)) rfl rfl [(1, .pointer (some ⟨c, 0, none⟩))] hH0 ?_
   dsimp only [sZ, sS]
   refine tD 3 41 (.int .i64 u) rfl rfl [(10, .int .i64 u)] hH0 ?_
   dsimp only [sZ, sS]
   refine wpAnyH_ready (rs := [1, 4]) (by kernel_rfl) (by simp) (AllReadyH.cons (o := _) rfl (fun K hK => ?_) (AllReadyH.cons (o := _) rfl (fun K hK => ?_) AllReadyH.nil))
   ·skip
    go_simp
    refine hK.out _ _ ?_ (fun hH1 => ?_)
    ·exact hH0
    clear hK K
    try simp only [Act.put, gA, gZ, gS, sA, sZ, sS]
    refine rD 4 rfl (fun K hK => ?_)
    go_simp
    have HB8 := Zh (HQ.out.below (Below.refl wr.heap.size wr).drew)
    refine (Unit_any u _ HB8.out HM8.out HUI.out).mono ?_
    rintro en w5 ⟨uv, rfl, h5, hl5⟩
    have H5 := Lib.hid' h5
    have HL5 := Lib.hid' hl5
    clear h5 hl5
    have q15 := H5.out.side.cell 1 rfl 1 rfl; have ql5 := H5.out.side.lt 1 rfl; have qf5 := H5.out.side.free 1 rfl 1
    refine hK.out _ _ ?_ (fun hH2 => ?_)
    ·exact ql5
    clear hK K
    try simp only [Act.put, gA, gZ, gS, sA, sZ, sS]
    refine rD 5 rfl (fun K hK => ?_)
    go_simp
    refine HL5.out.mono ?_
    rintro en wz ⟨rfl, rfl⟩
    refine hK.out _ _ ?_ (fun hH3 => ?_)
    ·exact ql5
    clear hK K
    try simp only [Act.put, gA, gZ, gS, sA, sZ, sS]
    refine rD 6 rfl (fun K hK => ?_)
    go_simp
    refine hK.out _ _ ?_ (fun hH4 => ?_)
    ·exact hH3
    clear hK K
    try simp only [Act.put, gA, gZ, gS, sA, sZ, sS]
    refine tD 7 45 (.pointer (some ⟨NP, 1, none⟩)) rfl rfl [(8, .pointer (some ⟨NP, 0, none⟩))] hH4 ?_
    dsimp only [sZ, sS]
    refine rD 8 rfl (fun K hK => ?_)
    go_simp
    have H6 := Zh ((H5.out.swapB.setB 1 (.int .i64 (min t (M.lowU u)))).swapB)
    refine hK.out _ _ ?_ (fun hH5 => ?_)
    ·exact H6.out.side.lt 1 rfl
    clear hK K
    refine wpAnyH_done (by kernel_rfl) ?_ _
    clear HL5 H5 HB8 HQ
    go_wp2_with fail
    go_roundw
    case rel => exact ⟨k + 1, min t (M.lowU u), by go_num, by omega, Zh (by rw [HTK.out]; unfold minLow; rw [List.foldl_append, show List.foldl (fun t u => min t (M.lowU u)) 1048576 (M.units.take k) = t from HT.out]; rfl), H6⟩
    case measure => simp [intOf]; omega
   ·skip
    go_simp
    have HB8 := Zh (HQ.out.below (Below.refl wr.heap.size wr).drew)
    refine (Unit_any u _ HB8.out HM8.out HUI.out).mono ?_
    rintro en w5 ⟨uv, rfl, h5, hl5⟩
    have H5 := Lib.hid' h5
    have HL5 := Lib.hid' hl5
    clear h5 hl5
    have q15 := H5.out.side.cell 1 rfl 1 rfl; have ql5 := H5.out.side.lt 1 rfl; have qf5 := H5.out.side.free 1 rfl 1
    refine hK.out _ _ ?_ (fun hH1 => ?_)
    ·exact ql5
    clear hK K
    try simp only [Act.put, gA, gZ, gS, sA, sZ, sS]
    refine wpAnyH_ready (rs := [1, 5]) (by kernel_rfl) (by simp) (AllReadyH.cons (o := _) rfl (fun K hK => ?_) (AllReadyH.cons (o := _) rfl (fun K hK => ?_) AllReadyH.nil))
    ·skip
     go_simp
     refine hK.out _ _ ?_ (fun hH2 => ?_)
     ·exact hH1
     clear hK K
     try simp only [Act.put, gA, gZ, gS, sA, sZ, sS]
     refine rD 5 rfl (fun K hK => ?_)
     go_simp
     refine HL5.out.mono ?_
     rintro en wz ⟨rfl, rfl⟩
     refine hK.out _ _ ?_ (fun hH3 => ?_)
     ·exact ql5
     clear hK K
     try simp only [Act.put, gA, gZ, gS, sA, sZ, sS]
     refine rD 6 rfl (fun K hK => ?_)
     go_simp
     refine hK.out _ _ ?_ (fun hH4 => ?_)
     ·exact hH3
     clear hK K
     try simp only [Act.put, gA, gZ, gS, sA, sZ, sS]
     refine tD 7 45 (.pointer (some ⟨NP, 1, none⟩)) rfl rfl [(8, .pointer (some ⟨NP, 0, none⟩))] hH4 ?_
     dsimp only [sZ, sS]
     refine rD 8 rfl (fun K hK => ?_)
     go_simp
     have H6 := Zh ((H5.out.swapB.setB 1 (.int .i64 (min t (M.lowU u)))).swapB)
     refine hK.out _ _ ?_ (fun hH5 => ?_)
     ·exact H6.out.side.lt 1 rfl
     clear hK K
     refine wpAnyH_done (by kernel_rfl) ?_ _
     clear HL5 H5 HB8 HQ
     go_wp2_with fail
     go_roundw
     case rel => exact ⟨k + 1, min t (M.lowU u), by go_num, by omega, Zh (by rw [HTK.out]; unfold minLow; rw [List.foldl_append, show List.foldl (fun t u => min t (M.lowU u)) 1048576 (M.units.take k) = t from HT.out]; rfl), H6⟩
     case measure => simp [intOf]; omega
    ·skip
     go_simp
     refine HL5.out.mono ?_
     rintro en wz ⟨rfl, rfl⟩
     refine hK.out _ _ ?_ (fun hH2 => ?_)
     ·exact ql5
     clear hK K
     try simp only [Act.put, gA, gZ, gS, sA, sZ, sS]
     refine rD 1 rfl (fun K hK => ?_)
     go_simp
     refine hK.out _ _ ?_ (fun hH3 => ?_)
     ·exact hH2
     clear hK K
     try simp only [Act.put, gA, gZ, gS, sA, sZ, sS]
     refine rD 6 rfl (fun K hK => ?_)
     go_simp
     refine hK.out _ _ ?_ (fun hH4 => ?_)
     ·exact hH3
     clear hK K
     try simp only [Act.put, gA, gZ, gS, sA, sZ, sS]
     refine tD 7 45 (.pointer (some ⟨NP, 1, none⟩)) rfl rfl [(8, .pointer (some ⟨NP, 0, none⟩))] hH4 ?_
     dsimp only [sZ, sS]
     refine rD 8 rfl (fun K hK => ?_)
     go_simp
     have H6 := Zh ((H5.out.swapB.setB 1 (.int .i64 (min t (M.lowU u)))).swapB)
     refine hK.out _ _ ?_ (fun hH5 => ?_)
     ·exact H6.out.side.lt 1 rfl
     clear hK K
     refine wpAnyH_done (by kernel_rfl) ?_ _
     clear HL5 H5 HB8 HQ
     go_wp2_with fail
     go_roundw
     case rel => exact ⟨k + 1, min t (M.lowU u), by go_num, by omega, Zh (by rw [HTK.out]; unfold minLow; rw [List.foldl_append, show List.foldl (fun t u => min t (M.lowU u)) 1048576 (M.units.take k) = t from HT.out]; rfl), H6⟩
     case measure => simp [intOf]; omega
  have HLO := Zh (show minLow M M.units 1048576 = t by rw [← HT.out, List.take_of_length_le (by omega)])
  have H5 := Lib.hid' HQ.out
  have s1 := H5.out.side.cell 3 rfl 1 rfl; have sl := H5.out.side.lt 3 rfl
  have p2 := H5.out.side.cell 1 rfl 2 rfl; have pf := H5.out.side.free 1 rfl 2; have pl := H5.out.side.lt 1 rfl
  clear HT HQ
  go_wp2_with fail
  refine (sacked_any _ s1 sl).mono ?_
  rintro en wz ⟨rfl, rfl⟩
  have h6 := ((H5.out.focus 1 rfl).setB 2 (.int .i64 pa)).swapB
  have h7 := (ClAt.less (K := [_]) h6).noCells
  have H7 := Lib.hid' h7
  go_upto_region 13 with fail
  clear h6 h7 s1 sl p2 pf pl H5
  generalize wr.setCell ⟨NP, 2, none⟩ (.int .i64 pa) = w7 at *
  go_loopw [12] (fun v12 wr => ∃ (n : Nat) (X : List CE) (ra : Option Addr) (rk : Nat), v12 = .int .i64 (pa + n) ∧ n ≤ many64 pa tl ∧ X.length = n ∧ Hid (ClAt c M J (ceR X ra rk :: Asn.all (X.map ceA) :: .box NP [.int .i64 pe, .int .i64 t, .int .i64 pa, .slice ra X.length rk] 65 :: .box NR [.int .i64 0, .int .i64 0, .int .i64 0, .slice none 0 0] 65 :: Asn.ship s ⟨pe, pa⟩ :: L) W wr) ∧ Hid (nextR M (many64 pa tl) pa [] = nextR M (many64 pa tl - n) (pa + n) (X.map (·.c)))) (fun v12 _ => many64 pa tl - (intOf v12 - pa).toNat)
  case atStart => exact ⟨0, [], none, 0, by simp, Nat.zero_le _, rfl, H7, Zh (by simp)⟩
  case round =>
   clear H7
   obtain ⟨n, X, ra, rk, rfl, hn, hXn, HC, HN⟩ := hrel
   have HXN := Lib.hid' hXn
   clear hXn
   have hm64 : many64 pa tl ≤ 64 := by unfold many64; omega
   by_cases hlt : n < many64 pa tl
   ·have hcm : pa + (n : Int) < min (pa + 64) tl := by unfold many64 at hlt; omega
    have hr0 : 0 ≤ pa + (n : Int) := by omega
    have hr1 : pa + (n : Int) ≤ 1048575 := by omega
    obtain ⟨m, hm⟩ : ∃ m, many64 pa tl - n = m + 1 := ⟨many64 pa tl - n - 1, by omega⟩
    rw [hm] at HN
    have HM := Lib.hid' hm
    have HRD := Zh (Read_any (pa + n) wr HC.out HOK.out)
    have HE1 := Zh (fun h => nextR_err (M := M) (k := m) (a := pa + n) (X := X.map (·.c)) h)
    have HE2 := Zh (fun h h2 => nextR_end (M := M) (k := m) (a := pa + n) (X := X.map (·.c)) h h2)
    have HE3 := Zh (fun h h2 => nextR_on (M := M) (k := m) (a := pa + n) (X := X.map (·.c)) h h2)
    clear hm
    generalize M.read (pa + n) = rd at *
    obtain ⟨z, x⟩ := rd
    simp only at HRD HE1 HE2 HE3
    have HLT := Lib.hid' hlt
    go_wp2_with fail
    refine HRD.out.mono ?_
    clear HRD
    rintro en w5 ⟨a5, c5, rfl, ho5, hb5⟩
    have h5 := HC.out.belowRow hb5 ho5
    have h6 := h5.allocB w5.heap.size [.int .i64 x.k, .slice a5 x.d.length c5] 47 rfl
    rw [show ([.int .i64 x.k, .slice a5 x.d.length c5] : List Value).toArray = #[.int .i64 x.k, .slice a5 x.d.length c5] from rfl] at h6
    have H6 := Lib.hid' h6
    clear h5 h6 ho5 hb5 HC
    by_cases hz : z = 0
    rotate_left
    ·have HR := Zh (show nextS M pa = (z, 0, []) by rw [HS1.out, HN.out, HE1.out hz, if_pos hz])
     have HZ := Lib.hid' hz
     rw [errV_pos hz]
     clear hz HE1 HE2 HE3 HS1
     go_upto_region 16 with fail
     generalize w5.alloc (.cells #[.int .i64 x.k, .slice a5 x.d.length c5] 47) = w6 at *
     have r0 := H6.out.side.free 5 rfl 0; have r1 := H6.out.side.free 5 rfl 1; have r2 := H6.out.side.free 5 rfl 2; have r3 := H6.out.side.free 5 rfl 3; have rl := H6.out.side.lt 5 rfl
     have y0 := H6.out.side.cell 5 rfl 0 rfl; have y1 := H6.out.side.cell 5 rfl 1 rfl; have y2 := H6.out.side.cell 5 rfl 2 rfl; have y3 := H6.out.side.cell 5 rfl 3 rfl
     have H8 := Zh (((((H6.out.focus 5 rfl).setB 0 (.int .i64 0)).setB 1 (.int .i64 0)).setB 2 (.int .i64 0)).setB 3 (.slice none 0 0))
     go_wp2_with fail
     have k0 := H8.out.side.cell 0 rfl 0 rfl; have k1 := H8.out.side.cell 0 rfl 1 rfl; have k2 := H8.out.side.cell 0 rfl 2 rfl; have k3 := H8.out.side.cell 0 rfl 3 rfl
     generalize (((w6.setCell ⟨NR, 0, none⟩ (.int .i64 0)).setCell ⟨NR, 1, none⟩ (.int .i64 0)).setCell ⟨NR, 2, none⟩ (.int .i64 0)).setCell ⟨NR, 3, none⟩ (.slice none 0 0) = w8 at *
     refine bodyPost_ret (v := .tuple #[pclV 0 0 0 none 0 0, .iface 82 (.int .i64 z)]) (by simp [results, Tryz.results13, go_sem, k0, k1, k2, k3]) rfl ?_
     exact ⟨_, rfl, .inl ⟨by rw [HR.out]; exact HZ.out, by rw [HR.out, errV_pos HZ.out], ClAt.less (K := [_, _, _, _, _, _]) H8.out⟩⟩
    subst hz
    rw [errV_0]
    by_cases hk0 : x.k = 0
    ·have HR := Zh (show nextS M pa = (0, t, X.map (·.c)) by rw [HS1.out, HN.out, HE2.out rfl hk0, if_neg (by simp), HLO.out])
     clear HE1 HE2 HE3 HS1
     obtain ⟨xk, xd⟩ := x
     simp only at hk0 H6 ⊢
     subst hk0
     go_upto_region 18 with fail
     generalize w5.alloc (.cells #[.int .i64 0, .slice a5 xd.length c5] 47) = w6 at *
     generalize w5.heap.size = N13 at *
     have x0 := H6.out.side.cell 0 rfl 0 rfl; have xl := H6.out.side.lt 0 rfl
     have y0 := H6.out.side.cell 4 rfl 0 rfl; have y1 := H6.out.side.cell 4 rfl 1 rfl; have y2 := H6.out.side.cell 4 rfl 2 rfl; have y3 := H6.out.side.cell 4 rfl 3 rfl; have yl := H6.out.side.lt 4 rfl
     have r0 := H6.out.side.free 5 rfl 0; have r1 := H6.out.side.free 5 rfl 1; have r2 := H6.out.side.free 5 rfl 2; have r3 := H6.out.side.free 5 rfl 3; have rl := H6.out.side.lt 5 rfl
     have u0 := H6.out.side.cell 5 rfl 0 rfl; have u1 := H6.out.side.cell 5 rfl 1 rfl; have u2 := H6.out.side.cell 5 rfl 2 rfl; have u3 := H6.out.side.cell 5 rfl 3 rfl
     have H8 := Zh (((((H6.out.focus 5 rfl).setB 0 (.int .i64 pe)).setB 1 (.int .i64 t)).setB 2 (.int .i64 pa)).setB 3 (.slice ra X.length rk))
     go_wp2_with fail
     have k0 := H8.out.side.cell 0 rfl 0 rfl; have k1 := H8.out.side.cell 0 rfl 1 rfl; have k2 := H8.out.side.cell 0 rfl 2 rfl; have k3 := H8.out.side.cell 0 rfl 3 rfl
     generalize (((w6.setCell ⟨NR, 0, none⟩ (.int .i64 pe)).setCell ⟨NR, 1, none⟩ (.int .i64 t)).setCell ⟨NR, 2, none⟩ (.int .i64 pa)).setCell ⟨NR, 3, none⟩ (.slice ra X.length rk) = w8 at *
     refine bodyPost_ret (v := .tuple #[pclV pe t pa ra X.length rk, .nilIface]) (by simp [results, Tryz.results13, go_sem, k0, k1, k2, k3]) rfl ?_
     exact ⟨_, rfl, .inr ⟨by rw [HR.out], ra, rk, X, by rw [HR.out], (ClAt.less (K := [_, _, _]) H8.out).sub (((List.sublist_cons_self _ _).cons_cons _).cons_cons _), by rw [HR.out]⟩⟩
    ·have HR := Zh (show nextR M (many64 pa tl) pa [] = nextR M m (pa + n + 1) (X.map (·.c) ++ [x]) by rw [HN.out, HE3.out rfl hk0])
     clear HE1 HE2 HE3 HN
     go_upto_region 18 with fail
     generalize w5.alloc (.cells #[.int .i64 x.k, .slice a5 x.d.length c5] 47) = w6 at *
     generalize w5.heap.size = N13 at *
     have x0 := H6.out.side.cell 0 rfl 0 rfl; have x1 := H6.out.side.cell 0 rfl 1 rfl; have xl := H6.out.side.lt 0 rfl
     have p3 := H6.out.side.cell 4 rfl 3 rfl; have pl := H6.out.side.lt 4 rfl
     obtain ⟨P, hPJ, hP, h8⟩ := ClAt.front (K := [_, _, _, _, _, _, _]) H6.out
     have hX64 : X.length ≤ 64 := by have := HXN.out; omega
     go_wp2_with (at_builtin; refine Sep.append etCells rfl (.tmp 76) (.tmp 78) rfl [.int .i64 x.k, .slice a5 x.d.length c5] rfl h8 2 rfl rfl rfl (by simp [Value.oneCell']) (by omega) ?_; intro a7 c7 w7 H7; have p3 := H7.cell 4 rfl 3 rfl; have pf := H7.free 4 rfl 3; have pl := H7.lt 4 rfl)
     have H8 := H7.set 4 rfl 3 (.slice a7 (X.length + 1) c7)
     have H9 := ((((((H8.focus 4 rfl).focus 4 rfl) : Sep W NoF (ceA ⟨x, a5, c5⟩ :: Asn.all (X.map ceA) :: _) _).push (f := ceA) (Ks := X) (y := ⟨x, a5, c5⟩)).focus 2 rfl).drop 3)
     have hro : Asn.row 47 2 (.slice a7 (X.length + 1) c7) (X.length + 1) (X.flatMap ceV ++ [.int .i64 x.k, .slice a5 x.d.length c5]) = ceR (X ++ [⟨x, a5, c5⟩]) a7 c7 := by
      show _ = Asn.row _ _ _ _ _
      rw [List.length_append, List.flatMap_append]
      rfl
     rw [hro] at H9
     have HD := Zh (ClAt.unfront (w := w7.setCell ⟨NP, 3, none⟩ (.slice a7 (X.length + 1) c7)) (K := [ceR (X ++ [(⟨x, a5, c5⟩ : CE)]) a7 c7, Asn.all ((X ++ [(⟨x, a5, c5⟩ : CE)]).map ceA), .box NP [.int .i64 pe, .int .i64 t, .int .i64 pa, .slice a7 (X.length + 1) c7] 65, .box NR [.int .i64 0, .int .i64 0, .int .i64 0, .slice none 0 0] 65, Asn.ship s ⟨pe, pa⟩]) hP H9)
     rw [hPJ] at HD
     have HLN := Zh (show (X ++ [(⟨x, a5, c5⟩ : CE)]).length = X.length + 1 by simp)
     clear H7 H8 H9 p3 pf pl hro
     go_roundw
     case rel => exact ⟨n + 1, X ++ [⟨x, a5, c5⟩], a7, c7, by go_num, by have := HLT.out; omega, by rw [HLN.out, HXN.out], by rw [HLN.out]; exact HD, Zh (by rw [HR.out, show many64 pa tl - (n + 1) = m by have := HM.out; omega]; simp [Int.add_assoc])⟩
     case measure => have := HLT.out; simp [intOf]; omega
   ·have hcm : ¬ pa + (n : Int) < min (pa + 64) tl := by unfold many64 at hlt hn; omega
    have HR := Zh (show nextS M pa = (0, t, X.map (·.c)) by rw [HS1.out, HN.out, show many64 pa tl - n = 0 by omega, if_neg (by simp [nextR]), HLO.out]; rfl)
    clear HN HS1
    go_upto_region 20 with fail
    have y0 := HC.out.side.cell 2 rfl 0 rfl; have y1 := HC.out.side.cell 2 rfl 1 rfl; have y2 := HC.out.side.cell 2 rfl 2 rfl; have y3 := HC.out.side.cell 2 rfl 3 rfl; have yl := HC.out.side.lt 2 rfl
    have r0 := HC.out.side.free 3 rfl 0; have r1 := HC.out.side.free 3 rfl 1; have r2 := HC.out.side.free 3 rfl 2; have r3 := HC.out.side.free 3 rfl 3; have rl := HC.out.side.lt 3 rfl
    have u0 := HC.out.side.cell 3 rfl 0 rfl; have u1 := HC.out.side.cell 3 rfl 1 rfl; have u2 := HC.out.side.cell 3 rfl 2 rfl; have u3 := HC.out.side.cell 3 rfl 3 rfl
    have H8 := Zh (((((HC.out.focus 3 rfl).setB 0 (.int .i64 pe)).setB 1 (.int .i64 t)).setB 2 (.int .i64 pa)).setB 3 (.slice ra X.length rk))
    go_wp2_with fail
    have k0 := H8.out.side.cell 0 rfl 0 rfl; have k1 := H8.out.side.cell 0 rfl 1 rfl; have k2 := H8.out.side.cell 0 rfl 2 rfl; have k3 := H8.out.side.cell 0 rfl 3 rfl
    generalize (((wr.setCell ⟨NR, 0, none⟩ (.int .i64 pe)).setCell ⟨NR, 1, none⟩ (.int .i64 t)).setCell ⟨NR, 2, none⟩ (.int .i64 pa)).setCell ⟨NR, 3, none⟩ (.slice ra X.length rk) = w8 at *
    refine bodyPost_ret (v := .tuple #[pclV pe t pa ra X.length rk, .nilIface]) (by simp [results, Tryz.results13, go_sem, k0, k1, k2, k3]) rfl ?_
    exact ⟨_, rfl, .inr ⟨by rw [HR.out], ra, rk, X, by rw [HR.out], (ClAt.less (K := [_]) H8.out).sub (((List.sublist_cons_self _ _).cons_cons _).cons_cons _), by rw [HR.out]⟩⟩
end SL
end Go.Proofs.YtpckcpmohcianaaGreatDoor

namespace Go.Proofs.YtpckcpmohcianaaGreatDoor
namespace SL
open DK SH SQ
theorem nextR_live {r : Int} {k : Nat} {M : Cl} (h : Live r k M) : ∀ (K : Nat) (a : Int) (X : List C), 0 ≤ a → a + K ≤ 1048576 → ∃ Y : List C, nextR M K a X = (0, X ++ Y) ∧ Y.length ≤ K ∧ (∀ (j : Nat) (y : C), Y[j]? = some y → M.read (a + j) = (0, y) ∧ y.k ≠ 0) ∧ (Y.length < K → (M.read (a + Y.length)).2.k = 0)
 | 0, a, X, _, _ => ⟨[], by simp [nextR], Nat.le_refl _, by simp, by simp⟩
 | K + 1, a, X, h0, h1 => by
  have hr := h.read h0 (by omega)
  by_cases hk : (M.read a).2.k = 0
  ·exact ⟨[], by rw [nextR_end hr hk]; simp, by simp, by simp, fun _ => by simpa using hk⟩
  ·obtain ⟨Y, e, hl, hy, hz⟩ := nextR_live h K (a + 1) (X ++ [(M.read a).2]) (by omega) (by omega)
   refine ⟨(M.read a).2 :: Y, by rw [nextR_on hr hk, e]; simp, by simp; omega, fun j y hj => ?_, fun hlt => ?_⟩
   ·cases j with
    | zero =>
     simp only [List.getElem?_cons_zero, Option.some.injEq] at hj
     subst hj
     rw [show a + ((0 : Nat) : Int) = a by omega]
     exact ⟨Prod.ext hr rfl, hk⟩
    | succ j =>
     have := hy j y (by simpa using hj)
     rw [show a + ((j + 1 : Nat) : Int) = a + 1 + j by omega]
     exact this
   ·have := hz (by simp only [List.length_cons] at hlt; omega)
    rw [show a + (((M.read a).2 :: Y).length : Int) = a + 1 + Y.length by simp only [List.length_cons]; omega]
    exact this
theorem nextS_live {r : Int} {k : Nat} {M : Cl} (h : Live r k M) {f : Int} (h0 : 0 ≤ f) (h1 : f ≤ 1048576) : ∃ Y : List C, nextS M f = (0, minLow M M.units 1048576, Y) ∧ Y.length ≤ 64 ∧ f + Y.length ≤ max f M.q.n ∧ (∀ (j : Nat) (y : C), Y[j]? = some y → M.read (f + j) = (0, y) ∧ y.k ≠ 0) ∧ (Y = [] → M.q.n ≤ f ∨ (M.read f).2.k = 0) := by
 have hq := h.ok.seq.n
 have hm : many64 f M.q.n ≤ 64 ∧ f + many64 f M.q.n ≤ max f M.q.n ∧ (many64 f M.q.n = 0 → M.q.n ≤ f) := by unfold many64; omega
 obtain ⟨Y, e, hl, hy, hz⟩ := nextR_live h (many64 f M.q.n) f [] h0 (by omega)
 refine ⟨Y, ?_, by omega, by omega, hy, fun hn => ?_⟩
 ·unfold nextS
  rw [h.tail]
  simp only [ne_eq, not_true_eq_false, if_false]
  rw [e]
  simp
 ·subst hn
  by_cases hm0 : many64 f M.q.n = 0
  ·exact .inl (hm.2.2 hm0)
  ·have := hz (by simp; omega)
   right
   simpa using this
end SL
end Go.Proofs.YtpckcpmohcianaaGreatDoor

namespace Go.Proofs.YtpckcpmohcianaaGreatDoor
open Go.RowKit
namespace SL
open DK SH SQ
def ux : Nat → U
 | 0 => u1
 | k + 1 => (apU (ux k) ⟨2, 1, k, [120]⟩).2.2
theorem ap_x0 : apU (ux 0) ⟨2, 1, 0, [120]⟩ = (0, 0, ux 1) := by first | rfl | kernel_rfl
theorem ap_x1 : apU (ux 1) ⟨2, 1, 1, [120]⟩ = (0, 0, ux 2) := by first | rfl | kernel_rfl
theorem ap_x2 : apU (ux 2) ⟨2, 1, 2, [120]⟩ = (0, 0, ux 3) := by first | rfl | kernel_rfl
theorem ap_x {K : Nat} (h : K < 3) : apU (ux K) ⟨2, 1, K, [120]⟩ = (0, 0, ux (K + 1)) := by
 rcases (show K = 0 ∨ K = 1 ∨ K = 2 by omega) with rfl | rfl | rfl
 ·exact ap_x0
 ·exact ap_x1
 ·exact ap_x2
theorem rx : (ux 3).read 1 1 = (0, ⟨1, [120]⟩) ∧ (ux 3).read 1 2 = (0, ⟨1, [120]⟩) := by first | exact ⟨rfl, rfl⟩ | exact ⟨by kernel_rfl, by kernel_rfl⟩
theorem next25 {r : Int} {k : Nat} {x : Un} (h : Fine r k (ux 3) x) : ∃ t, nextS (M1 x 3) 1 = (0, t, [⟨1, [120]⟩, ⟨1, [120]⟩]) := by
 have a1 := read_one (n := 3) (a := 1) h (by decide) (by decide)
 have a2 := read_one (n := 3) (a := 2) h (by decide) (by decide)
 rw [rx.1] at a1; rw [rx.2] at a2
 have ht : (M1 x 3).tail = (0, 3) := by unfold Cl.tail M1 Q.tail Q.asks; simp
 have hn : nextR (M1 x 3) (many64 1 3) 1 [] = (0, [⟨1, [120]⟩, ⟨1, [120]⟩]) := by
  rw [show many64 1 3 = 2 from rfl]
  rw [nextR_on (by rw [a1]) (by rw [a1]; decide), nextR_on (a := 1 + 1) (by show ((M1 x 3).read 2).1 = 0; rw [a2]) (by show ((M1 x 3).read 2).2.k ≠ 0; rw [a2]; decide)]
  show (0, ([] ++ [((M1 x 3).read 1).2]) ++ [((M1 x 3).read 2).2]) = _
  rw [a1, a2]; rfl
 refine ⟨minLow (M1 x 3) (M1 x 3).units 1048576, ?_⟩
 unfold nextS
 rw [ht]
 simp only [ne_eq, not_true_eq_false, if_false]
 rw [hn]
 simp
set_option maxHeartbeats 16000000 in
theorem alive25_any (w : World) (hp : Pow w) : Calls Tryz.prog 4 #[] w fun e w' => e = .returned (.bool true) ∧ Below w.heap.size w w' := by
 have HP := Lib.hid' hp
 obtain ⟨x1, hx1, hs1, hn1⟩ := new_one (r := 1048576) (by decide)
 have HN1 := Lib.hid' hn1
 have HF := Zh (And.intro hx1 hs1)
 have kc := fun (w : World) (C : Array Value) (n c : Nat) => Lib.run_convert_bytes_const (P := Tryz.prog) w 45 5 C n c Tryz.underlying45 Tryz.underlying5
 clear hx1 hs1 hn1 hp
 go_enter Tryz.func4, Tryz.ntmps4
 go_wp2_with fail
 obtain ⟨w0, hw0, hb0, hX⟩ := chs_one (w := w)
 rw [hw0]
 have hL : Sep w NoF [] w0 := (Sep.start w).below hb0
 clear hw0 hb0
 have HNW := Zh (New_any 1 1048576 _ _ _ w0 HP.out hL hX (by show ([0] : List Int).length ≤ _; decide))
 clear hX hL
 refine HNW.out.mono ?_
 rintro e w1 hE
 unfold NewR at hE
 rw [show newCl 1 1048576 (([([0], some ⟨w.heap.size, 0, none⟩, 1)] : List Ch).map (·.1)) = (0, M1 x1 0) from HN1.out] at hE
 obtain ⟨c, J, rfl, h1⟩ : ∃ c J, e = .returned (.tuple #[ptrV c, .nilIface]) ∧ ClAt c (M1 x1 0) J [] w w1 := by
  rcases hE with ⟨h0, _⟩ | ⟨_, h⟩
  ·exact absurd rfl h0
  ·exact h
 have H1 := Lib.hid' h1
 clear hE h1 HNW HN1
 go_wp2_with fail
 refine (snew_any 1 1 w1).mono ?_
 rintro e w2 hE
 unfold NewSp at hE
 rw [if_neg (by decide)] at hE
 obtain ⟨rfl, hs2⟩ := hE
 have H2 := Zh (H1.out.newB (A := Asn.ship w1.heap.size ⟨1, 1⟩) hs2.toBelow (hs2.at 0 rfl) (fun b hb => by have : b = w1.heap.size := hb; omega))
 clear hs2 H1
 generalize w1.heap.size = s at *
 go_wp2_with fail
 go_loopw [28] (fun v28 wr => ∃ (K : Nat) (x : Un), v28 = .int .i64 K ∧ K ≤ 3 ∧ Fine 1048576 (K + 1) (ux K) x ∧ Sd x.d ∧ Hid (ClAt c (M1 x K) J [Asn.ship s ⟨1, 1⟩] w wr)) (fun v28 _ => (3 - intOf v28).toNat)
 case atStart => exact ⟨0, x1, rfl, by decide, HF.out.1, HF.out.2, H2⟩
 case round =>
  clear H2 HF
  obtain ⟨K, x, rfl, hK, hfx, hsx, H0⟩ := hrel
  by_cases hlt : K < 3
  ·have hax := ap_x hlt
   obtain ⟨y, hy, hsy, he⟩ := append_one (n := (K : Int)) (d := [120]) hfx hsx (by omega) (by omega) (by omega) (by omega) (by decide) hax
   have HO := Zh (m1_ok hfx hsx ⟨by omega, by omega⟩ : (M1 x (K : Int)).ok)
   have HE := Lib.hid' he
   have HY := Zh (And.intro hy hsy)
   clear hfx hsx hax hy hsy he
   go_wp2_with fail
   have H3 := Zh (H0.out.newB (A := Asn.obj wr.heap.size (.cells #[byteV 120] 5 (1, 2))) (w' := wr.alloc (.cells #[byteV 120] 5 (1, 2))) (by go_grown) (by show (wr.heap.push _)[wr.heap.size]? = _; simp) (fun b hb => by have : b = wr.heap.size := hb; omega))
   have hz3 : wr.alloc (Obj.cells #[Value.int IntKind.u8 120] 5 (1, 2)) = wr.alloc (.cells #[byteV 120] 5 (1, 2)) := rfl
   rw [hz3]
   clear hz3 H0
   generalize wr.alloc (.cells #[byteV 120] 5 (1, 2)) = w3 at *
   generalize wr.heap.size = N3 at *
   have HAP := Zh (append_any [120] (some ⟨N3, 0, none⟩) 1 w3 HP.out H3.out HO.out (fun M' w' h' => bytes_obj (h'.side.at 0 rfl)))
   refine HAP.out.mono ?_
   rintro e w4 hE
   unfold ClR at hE
   rw [HE.out] at hE
   obtain ⟨rfl, h4⟩ := hE
   have H4 := Zh (ClAt.less (K := [_]) h4)
   clear h4 HAP H3 HE HO
   rw [errV_0]
   go_wp2_with fail
   go_roundw
   case rel => exact ⟨K + 1, y, by go_num, by omega, HY.out.1, HY.out.2, H4⟩
   case measure => simp [intOf]; omega
  ·obtain rfl : K = 3 := by omega
   obtain ⟨t, ht⟩ := next25 hfx
   have HT := Lib.hid' ht
   have HO := Zh (m1_ok hfx hsx ⟨by decide, by decide⟩ : (M1 x 3).ok)
   clear hfx hsx ht
   go_wp2_with fail
   refine (next_any ⟨1, 1⟩ wr (show ClAt c (M1 x 3) J [Asn.ship s ⟨1, 1⟩] w wr from H0.out) HO.out ⟨by decide, by decide⟩).mono ?_
   rintro e w5 ⟨r, hr, hE⟩
   rw [show nextS (M1 x 3) (⟨1, 1⟩ : Sp).a = _ from HT.out] at hr
   subst hr
   rcases hE with ⟨h0, _⟩ | ⟨_, a, k, X, rfl, h5, hX⟩
   ·exact absurd rfl h0
   have hXl : X.length = 2 := by have := congrArg List.length hX; simpa using this
   have HB := Lib.hid' h5.toBelow
   simp only [hXl]
   clear h5 hX hXl H0
   go_wp2_with fail
   go_ret
   exact ⟨rfl, HB.out.trans ((show Below w5.heap.size w5 _ by go_grown).mono HB.out.size)⟩
end SL
end Go.Proofs.YtpckcpmohcianaaGreatDoor

namespace Go.Proofs.YtpckcpmohcianaaGreatDoor
open Go.RowKit
namespace SL
open DK SH SQ
/-- an act of law 25, with where its rows lie -/
structure A25 where
 k : Int
 g : A13
 re : Int
 ra : Int
 ba : Option Addr
 bn : Nat
 bc : Nat
def a25V (x : A25) : List Value := [.int .i64 x.k, .int .i64 x.g.k, .int .i64 x.g.u, .int .i64 x.g.a, .int .i64 x.g.c.k, .slice x.g.da x.g.c.d.length x.g.dc, .slice x.g.ka x.g.ks.length x.g.kc, .slice x.g.sa x.g.sp.length x.g.sc, .int .i64 x.re, .int .i64 x.ra, .slice x.ba x.bn x.bc]
structure A25L (w : World) (a : Option Addr) (c : Nat) (X : List A25) : Prop where
 row : SlV w (.slice a X.length c) X.length (X.flatMap a25V)
 each : ∀ x ∈ X, A13At w x.g
 len : ∀ x ∈ X, x.bn ≤ 9223372036854775807
theorem A25L.below {w w' : World} {a : Option Addr} {c : Nat} {X : List A25} (h : A25L w a c X) (hb : Below w.heap.size w w') : A25L w' a c X := ⟨SlV.below h.row (Nat.le_refl _) hb, fun x hx => (h.each x hx).below hb, h.len⟩
theorem A25L.many {w : World} {a : Option Addr} {c : Nat} {X : List A25} (h : A25L w a c X) : X.length ≤ 9223372036854775807 := by
 obtain ⟨_, _, he, h1, h2, _⟩ := h.row; cases he; unfold maxLen at h2; omega
theorem a13_one {w : World} {x : A13} (h : A13At w x) : A13L (w.alloc (.cells (a13V x).toArray 49)) (some ⟨w.heap.size, 0, none⟩) 1 [x] :=
 ⟨by
  have := SlV.new w (a13V x) 1 49 (by unfold maxLen; omega)
  simpa using this, fun y hy => by
  obtain rfl := List.mem_singleton.1 hy
  exact h.below ((Below.refl _ _).alloc (Nat.le_refl _) _)⟩
/-- more acts than are looked at: let go -/
def Long25R (X : List A25) (most : Nat) (w : World) (en : Ending) (w' : World) : Prop := ∃ b : Bool, en = .returned (.bool b) ∧ (b = false → X.length ≤ most) ∧ Below w.heap.size w w'
set_option maxHeartbeats 4000000 in
theorem long25_any (X : List A25) (most : Nat) (a : Option Addr) (c : Nat) (W : World) (h : A25L W a c X) :
  Calls Tryz.prog 5 #[.slice a X.length c, .int .i64 most] W (Long25R X most W) := by
 have HS := Lib.hid' h
 have hlen := h.many
 clear h
 go_enter Tryz.func5, Tryz.ntmps5
 go_wp2_with fail
 go_loopw [9] (fun v9 wr => ∃ k : Nat, v9 = .int .i64 k ∧ k ≤ X.length ∧ Hid (Below W.heap.size W wr)) (fun v9 _ => X.length - (intOf v9).toNat)
 case atStart => exact ⟨0, rfl, Nat.zero_le _, Zh (Below.refl _ _)⟩
 case round =>
  obtain ⟨k, rfl, hk, HBW⟩ := hrel
  by_cases hlt : k < X.length
  ·have hs := HS.out.below HBW.out
   obtain ⟨b, off, rfl, hb, hc⟩ := SlV.row (f := a25V) (s := 11) (fun _ => rfl) (by decide) hs.row hlt
   have c0 := hc 0 _ rfl; have c1 := hc 1 _ rfl; have c2 := hc 2 _ rfl; have c3 := hc 3 _ rfl; have c4 := hc 4 _ rfl; have c5 := hc 5 _ rfl; have c6 := hc 6 _ rfl; have c7 := hc 7 _ rfl; have c8 := hc 8 _ rfl; have c9 := hc 9 _ rfl; have c10 := hc 10 _ rfl
   simp only [Nat.add_zero] at c0
   have HAT := Zh (hs.each _ (List.getElem_mem hlt))
   have hbn := hs.len _ (List.getElem_mem hlt)
   clear hc hs
   generalize X[k] = x at *
   obtain ⟨xk, ⟨gk, gu, ga, gc, da, dc, ks, ka, kc, sp, sa, sc⟩, re, ra, ba, bn, bc⟩ := x
   simp only at c0 c1 c2 c3 c4 c5 c6 c7 c8 c9 c10 hbn
   go_upto_region 4 with fail
   have H1 := Zh ((Sep.start wr).allocAt wr.heap.size [.int .i64 xk, .int .i64 gk, .int .i64 gu, .int .i64 ga, .int .i64 gc.k, .slice da gc.d.length dc, .slice ka ks.length kc, .slice sa sp.length sc, .int .i64 re, .int .i64 ra, .slice ba bn bc] 53 rfl)
   clear c0 c1 c2 c3 c4 c5 c6 c7 c8 c9 c10 hb
   generalize wr.alloc (.cells #[.int .i64 xk, .int .i64 gk, .int .i64 gu, .int .i64 ga, .int .i64 gc.k, .slice da gc.d.length dc, .slice ka ks.length kc, .slice sa sp.length sc, .int .i64 re, .int .i64 ra, .slice ba bn bc] 53) = w1 at *
   have HB1 := Zh (HBW.out.trans (H1.out.toBelow.mono HBW.out.size))
   have HA1 := Zh (HAT.out.below H1.out.toBelow)
   have d1 := H1.out.cell 0 rfl 1 rfl; have d2 := H1.out.cell 0 rfl 2 rfl; have d3 := H1.out.cell 0 rfl 3 rfl; have d4 := H1.out.cell 0 rfl 4 rfl; have d5 := H1.out.cell 0 rfl 5 rfl; have d6 := H1.out.cell 0 rfl 6 rfl; have d7 := H1.out.cell 0 rfl 7 rfl; have d10 := H1.out.cell 0 rfl 10 rfl; have l0 := H1.out.lt 0 rfl
   by_cases hq : 3000 < bn
   ·have hq' : decide ((3000 : Int) < (bn : Int)) = true := decide_eq_true (by omega)
    clear hq
    go_wp2_with fail
    go_ret
    exact ⟨true, rfl, (fun h => by cases h), HB1.out⟩
   ·have hq' : decide ((3000 : Int) < (bn : Int)) = false := decide_eq_false (by omega)
    have HL := Zh (long13_any [⟨gk, gu, ga, gc, da, dc, ks, ka, kc, sp, sa, sc⟩] 1 (by decide) _ _ _ (a13_one HA1.out))
    rw [show (a13V ⟨gk, gu, ga, gc, da, dc, ks, ka, kc, sp, sa, sc⟩).toArray = #[.int .i64 gk, .int .i64 gu, .int .i64 ga, .int .i64 gc.k, .slice da gc.d.length dc, .slice ka ks.length kc, .slice sa sp.length sc] from rfl] at HL
    have hal : Below w1.heap.size w1 (w1.alloc (.cells #[.int .i64 gk, .int .i64 gu, .int .i64 ga, .int .i64 gc.k, .slice da gc.d.length dc, .slice ka ks.length kc, .slice sa sp.length sc] 49)) := (Below.refl _ _).alloc (Nat.le_refl _) _
    have HAL := Lib.hid' hal
    clear hq hal
    generalize long13 [⟨gk, gu, ga, gc, da, dc, ks, ka, kc, sp, sa, sc⟩] 1 = lb at *
    cases lb with
    | true =>
     go_wp2_with (go_at_call 17; refine HL.out.mono ?_; rintro en w2 ⟨rfl, hb2⟩)
     go_ret
     exact ⟨true, rfl, (fun h => by cases h), HB1.out.trans ((HAL.out.trans (hb2.mono HAL.out.size)).mono HB1.out.size)⟩
    | false =>
     go_wp2_with (go_at_call 17; refine HL.out.mono ?_; rintro en w2 ⟨rfl, hb2⟩)
     have HB2 := Zh (HB1.out.trans ((HAL.out.trans (hb2.mono HAL.out.size)).mono HB1.out.size))
     go_roundw
     case rel => exact ⟨k + 1, by go_num, by omega, HB2⟩
     case measure => simp [intOf]; omega
  ·by_cases hm : X.length ≤ most
   ·have hm2 : decide ((most : Int) < (X.length : Int)) = false := decide_eq_false (by omega)
    have HM := Lib.hid' hm
    clear hm
    go_wp2_with fail
    go_ret
    exact ⟨_, rfl, (fun _ => HM.out), HBW.out⟩
   ·have hm2 : decide ((most : Int) < (X.length : Int)) = true := decide_eq_true (by omega)
    have HM := Lib.hid' hm
    clear hm
    go_wp2_with fail
    go_ret
    exact ⟨_, rfl, (fun h => absurd h (by first | exact (by simpa using HM.out) | simp [hm2])), HBW.out⟩
theorem ClAt.into {c : Nat} {M : Cl} {J : CJ} {L : List Asn} {W w w' : World} (h : ClAt c M J [] w w') (H : Sep W NoF L w) : ClAt c M J L W w' := by
 obtain ⟨P, hJ, hP, h2⟩ := h
 refine ⟨P, hJ, hP, ?_⟩
 have h3 := H.call0 h2
 unfold clL at h3 ⊢
 simpa using h3
theorem ClAt.drew {c : Nat} {M : Cl} {J : CJ} {L : List Asn} {W w : World} (h : ClAt c M J L W w) : ClAt c M J L W w.drew := by
 obtain ⟨P, hJ, hP, h2⟩ := h
 exact ⟨P, hJ, hP, h2.drew⟩
/-- a cluster is begun, and the document's -/
def BeginR (n : Nat) (ca : Option Addr) (m cc : Nat) (M : Cl) (L : List Asn) (W : World) (en : Ending) (w' : World) : Prop := ∃ (c : Nat) (J : CJ) (sa ba : Option Addr) (sc bc : Nat), en = .returned (.tuple #[ptrV c, .agg #[.slice sa n sc, .slice ba n bc, .int .i64 1, .slice ca m cc, .int .i64 1, .int .i64 0], .bool true]) ∧ ClAt c M J L W w'
set_option maxHeartbeats 8000000 in
theorem begin_any {L : List Asn} {W : World} (n : Nat) (ca : Option Addr) (cc : Nat) (X : List Ch) (M : Cl) (w : World) (hp : Pow W) (hS : Sep W NoF L w) (hX : Chs w ca cc X) (hlg : long11 X = false) (hnw : newCl n 1048576 (X.map (·.1)) = (0, M)) (hn : 1 ≤ n ∧ n ≤ 8) (hck : (docJ 1 X).check = 0) (hu : ∀ u ∈ flatC X, u < (n : Int)) (ht : (flatC X).length ≤ 1048576) :
  Calls Tryz.prog 6 #[.agg #[.int .i64 n, .int .i64 1048576, .slice ca X.length cc]] w (BeginR n ca X.length cc M L W) := by
 have HP := Lib.hid' hp
 have HX := Lib.hid' hX
 have HN := Lib.hid' hnw
 have HU := Lib.hid' hu
 have HC := Lib.hid' hck
 have HT := Lib.hid' ht
 have HLG := Lib.hid' hlg
 have H1 := Zh ((hS.allocAt w.heap.size [.int .i64 n, .int .i64 1048576, .slice ca X.length cc] 39 rfl).allocAt (w.heap.size + 1) [.slice none 0 0, .slice none 0 0, .int .i64 0, .slice none 0 0, .int .i64 0, .int .i64 0] 34 (by simp))
 have hb1 : Below w.heap.size w ((w.alloc (.cells #[.int .i64 n, .int .i64 1048576, .slice ca X.length cc] 39)).alloc (.cells #[.slice none 0 0, .slice none 0 0, .int .i64 0, .slice none 0 0, .int .i64 0, .int .i64 0] 34)) := by go_grown
 have HX1 := Zh (chs_below hX hb1)
 clear hp hS hX hlg hnw hu hck ht hb1
 go_enter Tryz.func6, Tryz.ntmps6
 go_upto_region 1 with fail
 rw [show (([.int .i64 n, .int .i64 1048576, .slice ca X.length cc] : List Value).toArray) = #[.int .i64 n, .int .i64 1048576, .slice ca X.length cc] from rfl, show (([.slice none 0 0, .slice none 0 0, .int .i64 0, .slice none 0 0, .int .i64 0, .int .i64 0] : List Value).toArray) = #[.slice none 0 0, .slice none 0 0, .int .i64 0, .slice none 0 0, .int .i64 0, .int .i64 0] from rfl] at H1
 generalize (w.alloc (.cells #[.int .i64 n, .int .i64 1048576, .slice ca X.length cc] 39)).alloc (.cells #[.slice none 0 0, .slice none 0 0, .int .i64 0, .slice none 0 0, .int .i64 0, .int .i64 0] 34) = w1 at *
 have d0 := H1.out.cell 1 rfl 0 rfl; have d1 := H1.out.cell 1 rfl 1 rfl; have d2 := H1.out.cell 1 rfl 2 rfl; have l0 := H1.out.lt 1 rfl
 have HLC := Zh (fun wq (hq : Below w1.heap.size w1 wq) => (show Calls Tryz.prog 18 #[.agg #[.int .i64 0, .slice ca X.length cc]] wq (fun en w' => en = .returned (.bool false) ∧ Below wq.heap.size wq w') from by have := long11_any 0 ca cc X wq (chs_below HX1.out hq); rw [HLG.out] at this; exact this))
 go_upto_region 3 with (first | (go_at_call 19; refine (sproj_any _ _ _ _ _ _).mono ?_; rintro en w2 ⟨rfl, hb2⟩) | (go_at_call 18; refine (HLC.out _ hb2).mono ?_; rintro en w3 ⟨rfl, hb3⟩))
 have hb13 := hb2.trans (hb3.mono hb2.size)
 have H3 := Zh (H1.out.below hb13)
 have HX3 := Zh (chs_below HX1.out hb13)
 clear hb2 hb3 hb13 HLC H1 HX1 d0 d1 d2 l0
 have HNW := Zh (show Calls Tryz.prog 16 #[.int .i64 n, .int .i64 1048576, .slice ca X.length cc] w3 (fun e w' => ∃ c J, e = .returned (.tuple #[ptrV c, .nilIface]) ∧ ClAt c M J (.box (w.heap.size + 1) [.slice none 0 0, .slice none 0 0, .int .i64 0, .slice none 0 0, .int .i64 0, .int .i64 0] 34 :: .box w.heap.size [.int .i64 n, .int .i64 1048576, .slice ca X.length cc] 39 :: L) W w' ∧ Below w3.heap.size w3 w') from by
  have := New_any (L := []) (W := w3) n 1048576 ca cc X w3 (HP.out.below H3.out.toBelow) (Sep.start w3) HX3.out (by have := HT.out; omega)
  rw [HN.out] at this
  refine this.mono ?_
  rintro e w' (⟨h0, _⟩ | ⟨_, c, J, he, h⟩)
  ·exact absurd rfl h0
  ·exact ⟨c, J, he, h.into H3.out, h.toBelow⟩)
 have HN13 := Zh (fun wq (hq : Below w3.heap.size w3 wq) => rnew13_any n ca cc X wq hn (chs_below HX3.out hq) HC.out HU.out HT.out)
 have d0 := H3.out.cell 1 rfl 0 rfl; have d1 := H3.out.cell 1 rfl 1 rfl; have d2 := H3.out.cell 1 rfl 2 rfl; have l0 := H3.out.lt 1 rfl
 go_upto_region 4 with (go_at_call 16; refine HNW.out.mono ?_; rintro e w4 ⟨c, J, rfl, h4, hb4⟩)
 have H4 := Lib.hid' h4
 clear h4 HNW d0 d1 d2 l0
 have d0 := H4.out.side.cell 1 rfl 0 rfl; have d1 := H4.out.side.cell 1 rfl 1 rfl; have d2 := H4.out.side.cell 1 rfl 2 rfl; have l0 := H4.out.side.lt 1 rfl
 go_upto_region 5 with (go_at_call 20; refine (HN13.out _ hb4).mono ?_; rintro en w5 ⟨sa, ba, sc, bc, rfl, hb5⟩)
 have h5 := (H4.out.below hb5).allocB w5.heap.size [.slice sa n sc, .slice ba n bc, .int .i64 1, .slice ca X.length cc, .int .i64 1, .int .i64 0] 34 rfl
 rw [show (([.slice sa n sc, .slice ba n bc, .int .i64 1, .slice ca X.length cc, .int .i64 1, .int .i64 0] : List Value).toArray) = #[.slice sa n sc, .slice ba n bc, .int .i64 1, .slice ca X.length cc, .int .i64 1, .int .i64 0] from rfl] at h5
 clear hb4 hb5 HN13 d0 d1 d2 l0 H4 H3 HX3
 generalize w5.alloc (.cells #[.slice sa n sc, .slice ba n bc, .int .i64 1, .slice ca X.length cc, .int .i64 1, .int .i64 0] 34) = w6 at *
 generalize w5.heap.size = N7 at *
 obtain ⟨H7, _⟩ : ClAt c M J (.box N7 [.slice sa n sc, .slice ba n bc, .int .i64 1, .slice ca X.length cc, .int .i64 1, .int .i64 0] 34 :: (.box (w.heap.size + 1) [.slice none 0 0, .slice none 0 0, .int .i64 0, .slice none 0 0, .int .i64 0, .int .i64 0] 34 :: .box w.heap.size [.int .i64 n, .int .i64 1048576, .slice ca X.length cc] 39 :: L)) W w6.drew ∧ True := ⟨h5.drew, trivial⟩
 clear h5
 have hs7 := H7.side
 have z0 := hs7.cell 1 rfl 0 rfl; have z1 := hs7.cell 1 rfl 1 rfl; have z2 := hs7.cell 1 rfl 2 rfl; have z3 := hs7.cell 1 rfl 3 rfl; have z4 := hs7.cell 1 rfl 4 rfl; have z5 := hs7.cell 1 rfl 5 rfl; have f0 := hs7.free 1 rfl 0; have f1 := hs7.free 1 rfl 1; have f2 := hs7.free 1 rfl 2; have f3 := hs7.free 1 rfl 3; have f4 := hs7.free 1 rfl 4; have f5 := hs7.free 1 rfl 5; have l1 := hs7.lt 1 rfl
 refine startD (S := (fun w' => w'.cell? ⟨N7, 0, none⟩ = some (.slice sa n sc) ∧ w'.cell? ⟨N7, 1, none⟩ = some (.slice ba n bc) ∧ w'.cell? ⟨N7, 2, none⟩ = some (.int .i64 1) ∧ w'.cell? ⟨N7, 3, none⟩ = some (.slice ca X.length cc) ∧ w'.cell? ⟨N7, 4, none⟩ = some (.int .i64 1) ∧ w'.cell? ⟨N7, 5, none⟩ = some (.int .i64 0) ∧ N7 < w'.heap.size)) (by kernel_rfl) ⟨hs7.cell 0 rfl 0 rfl, hs7.cell 0 rfl 1 rfl, hs7.cell 0 rfl 2 rfl, hs7.cell 0 rfl 3 rfl, hs7.cell 0 rfl 4 rfl, hs7.cell 0 rfl 5 rfl, hs7.lt 0 rfl⟩ (fun hH0 => ?_)
 simp only [List.length_cons, List.length_nil, Nat.reduceAdd, List.replicate_succ, List.replicate_zero]
 generalize w6.drew = w7 at *
 refine tD 0 33 (ptrV c) rfl rfl [(5, ptrV c)] hH0 ?_
 dsimp only [sZ, sS]
 refine tD 1 34 (.agg #[.slice sa n sc, .slice ba n bc, .int .i64 1, .slice ca X.length cc, .int .i64 1, .int .i64 0]) rfl rfl [(7, .pointer (some ⟨N7, 0, none⟩))] hH0 ?_
 dsimp only [sZ, sS]
 refine tD 2 35 (.nilIface) rfl rfl [(6, .nilIface)] hH0 ?_
 dsimp only [sZ, sS]
 refine tD 3 36 (.bool true) rfl rfl [(35, .nilIface)] hH0 ?_
 dsimp only [sZ, sS]
 refine tD 4 37 (.bool true) rfl rfl [(36, .bool true)] hH0 ?_
 dsimp only [sZ, sS]
 refine tD 5 38 (ptrV c) rfl rfl [(5, ptrV c)] hH0 ?_
 dsimp only [sZ, sS]
 refine tD 6 39 (.bool true) rfl rfl [(38, ptrV c)] hH0 ?_
 dsimp only [sZ, sS]
 refine tD 7 40 (.bool true) rfl rfl [(37, .bool true), (39, .bool true)] hH0 ?_
 dsimp only [sZ, sS]
 refine tD 8 41 (.bool true) rfl rfl [(40, .bool true)] hH0 ?_
 dsimp only [sZ, sS]
 refine tD 9 42 (.int .i64 0) rfl rfl [(8, .int .i64 0)] hH0 ?_
 dsimp only [sZ, sS]
 refine tD 10 43 (.bool true) rfl rfl [(42, .int .i64 0)] hH0 ?_
 dsimp only [sZ, sS]
 refine tD 11 44 (.bool true) rfl rfl [(41, .bool true), (43, .bool true)] hH0 ?_
 dsimp only [sZ, sS]
 refine tD 12 2 (ptrV c) rfl rfl [(33, ptrV c)] hH0 ?_
 dsimp only [sZ, sS]
 refine rD 13 rfl (fun K hK => ?_)
 go_simp
 have h8 := ((((((H7.focus 1 rfl).setB 0 (.slice sa n sc)).setB 1 (.slice ba n bc)).setB 2 (.int .i64 1)).setB 3 (.slice ca X.length cc)).setB 4 (.int .i64 1)).setB 5 (.int .i64 0)
 refine hK.out _ _ ?_ (fun hH1 => ?_)
 ·exact ⟨h8.side.cell 1 rfl 0 rfl, h8.side.cell 1 rfl 1 rfl, h8.side.cell 1 rfl 2 rfl, h8.side.cell 1 rfl 3 rfl, h8.side.cell 1 rfl 4 rfl, h8.side.cell 1 rfl 5 rfl, h8.side.lt 1 rfl⟩
 clear hK K
 try simp only [Act.put, gA, gZ, gS, sA, sZ, sS]
 refine tD 14 4 (.bool true) rfl rfl [(44, .bool true)] hH1 ?_
 dsimp only [sZ, sS]
 refine wpAnyH_done (by kernel_rfl) ?_ _
 have hs8 := h8.side
 have q0 := hs8.cell 0 rfl 0 rfl; have q1 := hs8.cell 0 rfl 1 rfl; have q2 := hs8.cell 0 rfl 2 rfl; have q3 := hs8.cell 0 rfl 3 rfl; have q4 := hs8.cell 0 rfl 4 rfl; have q5 := hs8.cell 0 rfl 5 rfl
 have H9 := Zh (ClAt.less (K := [_, _, _]) h8)
 clear h8 hs8 hs7 H7 hH0 hH1 z0 f0 z1 f1 z2 f2 z3 f3 z4 f4 z5 f5 l1
 skip
 generalize ((((((w7.setCell ⟨w.heap.size + 1, 0, none⟩ (.slice sa n sc)).setCell ⟨w.heap.size + 1, 1, none⟩ (.slice ba n bc)).setCell ⟨w.heap.size + 1, 2, none⟩ (.int .i64 1)).setCell ⟨w.heap.size + 1, 3, none⟩ (.slice ca X.length cc)).setCell ⟨w.heap.size + 1, 4, none⟩ (.int .i64 1)).setCell ⟨w.heap.size + 1, 5, none⟩ (.int .i64 0)) = w8 at *
 go_wp2_with fail
 refine bodyPost_ret (v := .tuple #[ptrV c, .agg #[.slice sa n sc, .slice ba n bc, .int .i64 1, .slice ca X.length cc, .int .i64 1, .int .i64 0], .bool true]) (by simp [results, Tryz.results6, go_sem, q0, q1, q2, q3, q4, q5]) rfl ?_
 exact ⟨c, J, sa, ba, sc, bc, rfl, H9.out⟩
end SL
end Go.Proofs.YtpckcpmohcianaaGreatDoor

namespace Go.Proofs.YtpckcpmohcianaaGreatDoor
open Go.RowKit
namespace SL
open DK SH SQ
theorem sboxL {w0 w : World} {F : Nat → Prop} {L : List Asn} (H : Sep w0 F L w) (i : Nat) {N t : Nat} {R : List Value} (hi : L[i]? = some (.box N R t)) (hl : R.length ≤ 1000) : SlV w (.slice (some ⟨N, 0, none⟩) R.length R.length) R.length R := by
 refine ⟨_, _, rfl, Nat.le_refl _, by unfold maxLen; omega, (fun h => by cases h), fun j u hj => ⟨_, rfl, ?_⟩⟩
 have e1 : (Addr.add ⟨N, 0, none⟩ j) = ⟨N, j, none⟩ := by unfold Addr.add; split <;> simp_all
 rw [e1]
 exact H.cell i hi j hj
theorem slvle2 {w : World} {a : Option Addr} {n c : Nat} {xs : List Value} (h : SlV w (.slice a n c) n xs) : n ≤ 9223372036854775807 := by
 obtain ⟨_, _, he, h1, h2, _⟩ := h; cases he; unfold maxLen at h2; omega
theorem kind8' (k : Int) : 0 ≤ (IntKind.u64.wrap k).tmod 8 ∧ (IntKind.u64.wrap k).tmod 8 < 8 := by
 have h : 0 ≤ IntKind.u64.wrap k := by
  have e : IntKind.u64.wrap k = k % 18446744073709551616 := by simp [IntKind.wrap, IntKind.signed, IntKind.bits]
  omega
 rw [Int.tmod_eq_emod_of_nonneg h]
 omega
def c012 : List (List Int) := [[0], [1, 2]]
theorem chk012 : (⟨1, c012⟩ : Pj).check = 0 := by
 unfold Pj.check
 rw [if_neg (by show ¬ ((1 : Int) < 0 ∨ 1099511627776 < (1 : Int)); decide), if_neg (show ¬ (c012.length < 1 ∨ 4 < c012.length ∨ c012.any wrongC = true) from by decide), if_neg (by show ¬ c012.flatten.any oddU = true; decide), if_neg]
 intro h
 exact (unitsOf_nodup c012.flatten).1 h (by decide)
theorem chs_012 {w : World} : ∃ w0 : World, ((w.alloc (.cells #[.int .i64 0] 3)).alloc (.cells #[.int .i64 1, .int .i64 2] 3)).alloc (.cells #[.slice (some ⟨w.heap.size, 0, none⟩) 1 1, .slice (some ⟨w.heap.size + 1, 0, none⟩) 2 2] 37) = w0 ∧ Below w.heap.size w w0 ∧ Chs w0 (some ⟨w.heap.size + 2, 0, none⟩) 2 [([0], some ⟨w.heap.size, 0, none⟩, 1), ([1, 2], some ⟨w.heap.size + 1, 0, none⟩, 2)] := by
 have g1 := (Sep.start w).allocAt w.heap.size [.int .i64 0] 3 rfl
 have g2 := g1.allocAt (w.heap.size + 1) [.int .i64 1, .int .i64 2] 3 (by simp)
 have g3 := g2.allocAt (w.heap.size + 2) [.slice (some ⟨w.heap.size, 0, none⟩) 1 1, .slice (some ⟨w.heap.size + 1, 0, none⟩) 2 2] 37 (by simp)
 refine ⟨_, rfl, g3.toBelow, sboxL g3 0 rfl (by simp), fun x hx => ?_⟩
 rcases List.mem_cons.1 hx with rfl | hx
 ·exact sboxL g3 2 rfl (by simp)
 ·obtain rfl := List.mem_singleton.1 hx
  exact sboxL g3 1 rfl (by simp)
theorem new_012 : ∃ M, newCl 3 1048576 c012 = (0, M) ∧ Live 1048576 1 M ∧ M.p = ⟨1, c012⟩ := by
 obtain ⟨M, h1, h2, h3, _⟩ := new_live (r := 1048576) (n := 3) (X := c012) (by decide) (by decide) chk012 (by decide)
 exact ⟨M, h1, h2, h3⟩
theorem home_n {M : Cl} {n : Nat} (h : ∀ x ∈ M.p.cs, x.length ≤ n) (a : Int) : (M.home a).length ≤ n := by
 unfold Cl.home
 rw [List.getD_eq_getElem?_getD]
 cases hg : M.p.cs[(a % (M.p.cs.length : Int)).toNat]? with
 | none => simp
 | some l => exact h _ (List.mem_of_getElem? hg)
/-- a log on the way: what is so behind k acts -/
structure Snd (k : Nat) (M : Cl) : Prop where
 live : Live 1048576 (1 + 4 * k) M
 p : M.p = ⟨1, c012⟩
theorem Snd.append {k : Nat} {M : Cl} (h : Snd k M) (hk : k < 40) (d : List UInt8) : Snd (k + 1) (M.append d).2.2 :=
 ⟨(h.live.append (by omega) (by omega) d).mono (by omega), (append_up h.live.ok d).1.p.trans h.p⟩
theorem Snd.putAt {k : Nat} {M : Cl} (h : Snd k M) (hk : k < 40) (a : Int) (x : C) : Snd (k + 1) (M.putAt a x).2 :=
 ⟨(h.live.putAt (n := 2) a x (home_n (by rw [h.p]; decide) a) (by omega) (by omega)).mono (by omega), (putAt_up h.live.ok a x).p.trans h.p⟩
theorem Snd.trim {k : Nat} {M : Cl} (h : Snd k M) (hk : k < 40) (b : Int) : Snd (k + 1) (M.trim b).2 := by
 have e : M.p.all.length = 3 := by rw [h.p]; rfl
 exact ⟨(h.live.trim (by omega) (by omega) b).mono (by omega), (trim_up h.live.ok b).p.trans h.p⟩
theorem Snd.stay {k : Nat} {M : Cl} (h : Snd k M) : Snd (k + 1) M := ⟨h.live.mono (by omega), h.p⟩
theorem take_ge (f e a : Int) (hf : 0 ≤ f ∧ f ≤ 1048576) : ∃ f', (takeSp ⟨1, f⟩ e a).2 = ⟨1, f'⟩ ∧ f ≤ f' ∧ f' ≤ 1048576 := by
 unfold takeSp
 split
 ·exact ⟨f, rfl, Int.le_refl _, hf.2⟩
 ·rename_i hi
  have := inB_iff.1 (by simpa only [Bool.not_eq_false] using hi)
  split
  ·exact ⟨f, rfl, Int.le_refl _, hf.2⟩
  ·show ∃ f', (if a ≤ f then (⟨1, f⟩ : Sp) else ⟨1, a⟩) = ⟨1, f'⟩ ∧ _
   split
   ·exact ⟨f, rfl, Int.le_refl _, hf.2⟩
   ·exact ⟨a, rfl, by omega, this.2⟩
set_option maxHeartbeats 40000000 in
theorem shipSends_any (from0 : Int) (ca : Option Addr) (cc : Nat) (X : List A25) (w : World) (hp : DK.Pow w) (hX : A25L w ca cc X) :
  Calls Tryz.prog 3 #[.int .i64 from0, .slice ca X.length cc] w fun en w' => en = .returned (.bool true) ∧ Below w.heap.size w w' := by
 have HP := Lib.hid' hp
 have HX := Lib.hid' hX
 have HA := Zh (alive25_any w hp)
 obtain ⟨M0, hn0, hL0, hp0⟩ := new_012
 have HN0 := Lib.hid' hn0
 have HS0 := Zh (show Snd 0 M0 from ⟨hL0, hp0⟩)
 clear hp hX hn0 hL0 hp0
 go_enter Tryz.func3, Tryz.ntmps3
 go_wp2_with fail
 refine HA.out.mono ?_
 clear HA
 rintro en w1 ⟨rfl, hb1⟩
 have HX1 := Zh (HX.out.below hb1)
 have HB1 := Lib.hid' hb1
 clear hb1
 go_wp2_with fail
 refine (long25_any X 40 ca cc w1 HX1.out).mono ?_
 rintro en w2 ⟨b, rfl, hb40, hb2⟩
 have HB2 := Zh (HB1.out.trans (hb2.mono HB1.out.size))
 clear hb2 HX1 HB1
 cases b with
 | true =>
  go_wp2_with fail
  go_ret
  exact ⟨rfl, HB2.out⟩
 | false =>
 have h40 := hb40 rfl
 clear hb40
 go_wp2_with fail
 obtain ⟨w3, hw3, hb3, hX3⟩ := chs_012 (w := w2)
 rw [show w2.heap.size + 2 = w2.heap.size + 1 + 1 from rfl] at hX3
 rw [hw3]
 have hS3 : Sep w NoF [] w3 := ((Sep.start w).below HB2.out).below hb3
 clear hw3 hb3
 have HBG := Zh (begin_any (L := []) (W := w) 3 (some ⟨w2.heap.size + 1 + 1, 0, none⟩) 2 [([0], some ⟨w2.heap.size, 0, none⟩, 1), ([1, 2], some ⟨w2.heap.size + 1, 0, none⟩, 2)] M0 w3 HP.out hS3 hX3 (by rfl) HN0.out (by decide) (show (docJ 1 _).check = 0 from chk012) (by intro u hu; have : u ∈ ([0, 1, 2] : List Int) := hu; simp only [List.mem_cons, List.mem_nil_iff, or_false] at this; omega) (by show 3 ≤ _; decide))
 clear hX3 hS3 HN0
 refine HBG.out.mono ?_
 clear HBG
 rintro e w4 ⟨c, J, va, vb, vc, vd, rfl, h4⟩
 have H4 := Lib.hid' h4
 clear h4
 go_upto_region 6 with fail
 have HB5 := Zh (H4.out.below ((Below.refl _ _).alloc (Nat.le_refl _) (.cells #[.slice va 3 vc, .slice vb 3 vd, .int .i64 1, .slice (some ⟨w2.heap.size + 1 + 1, 0, none⟩) 2 2, .int .i64 1, .int .i64 0] 34)))
 clear H4
 generalize w4.alloc (.cells #[.slice va 3 vc, .slice vb 3 vd, .int .i64 1, .slice (some ⟨w2.heap.size + 1 + 1, 0, none⟩) 2 2, .int .i64 1, .int .i64 0] 34) = w5 at *
 have HNS := fun en w' => Zh (show NewSp 1 from0 w5 en w' = if inB 1 1099511627776 = false ∨ inB from0 1048576 = false then en = .returned (.tuple #[.pointer none, errV 1]) ∧ w5 = w' else en = .returned (.tuple #[ptrV w5.heap.size, .nilIface]) ∧ Sep w5 NoF [Asn.ship w5.heap.size ⟨1, from0⟩] w' from rfl)
 cases hfr : inB from0 1048576 with
 | false =>
  have HNS2 := fun en w' => Zh ((HNS en w').out.trans (if_pos (.inr hfr)))
  clear HNS
  go_wp2_with fail
  refine (snew_any 1 from0 w5).mono ?_
  rintro e w6 hE
  rw [(HNS2 e w6).out] at hE
  obtain ⟨rfl, rfl⟩ := hE
  rw [errV_pos (by decide)]
  go_wp2_with fail
  go_ret
  exact ⟨rfl, HB5.out.toBelow⟩
 | true =>
 have HFR := Zh (inB_iff.1 hfr)
 have HNS2 := fun en w' => Zh ((HNS en w').out.trans (if_neg (by rw [hfr]; decide)))
 clear HNS hfr
 go_wp2_with fail
 refine (snew_any 1 from0 w5).mono ?_
 rintro e w6 hE
 rw [(HNS2 e w6).out] at hE
 obtain ⟨rfl, hs6⟩ := hE
 have H6 := Zh (HB5.out.newB (A := Asn.ship w5.heap.size ⟨1, from0⟩) hs6.toBelow (hs6.at 0 rfl) (fun b hb => by have : b = w5.heap.size := hb; omega))
 clear hs6 HB5 HNS2
 generalize w5.heap.size = s at *
 have hxl := slvle2 HX.out.row
 go_wp2_with fail
 go_loopw [45] (fun v45 wr => ∃ (k : Nat) (M : Cl) (f : Int), v45 = .int .i64 k ∧ k ≤ X.length ∧ 0 ≤ f ∧ f ≤ 1048576 ∧ Hid (ClAt c M J [Asn.ship s ⟨1, f⟩] w wr) ∧ Hid (Snd k M)) (fun v45 _ => X.length - (intOf v45).toNat)
 case atStart => exact ⟨0, M0, from0, rfl, Nat.zero_le _, HFR.out.1, HFR.out.2, H6, HS0⟩
 case round =>
  clear H6 HS0
  obtain ⟨k, M, f, rfl, hk, hf0, hf1, HC, HS⟩ := hrel
  by_cases hlt : k < X.length
  rotate_left
  ·go_wp2_with fail
   go_ret
   exact ⟨rfl, HC.out.toBelow⟩
  have hX2 := HX.out.below HC.out.toBelow
  obtain ⟨b, off, rfl, hb, hc⟩ := SlV.row (f := a25V) (s := 11) (fun _ => rfl) (by decide) hX2.row hlt
  have c0 := hc 0 _ rfl; have c1 := hc 1 _ rfl; have c2 := hc 2 _ rfl; have c3 := hc 3 _ rfl; have c4 := hc 4 _ rfl; have c5 := hc 5 _ rfl; have c6 := hc 6 _ rfl; have c7 := hc 7 _ rfl; have c8 := hc 8 _ rfl; have c9 := hc 9 _ rfl; have c10 := hc 10 _ rfl
  simp only [Nat.add_zero] at c0
  have HAT := Zh (HX.out.each _ (List.getElem_mem hlt))
  clear hc hX2
  generalize X[k] = x at *
  obtain ⟨xk, ⟨gk, gu, ga, gc, da, dc, ks, ka, kc, sp, sa, sc⟩, re, ra, ba, bn, bc⟩ := x
  simp only at c0 c1 c2 c3 c4 c5 c6 c7 c8 c9 c10
  go_upto_region 14 with fail
  have hB := HC.out.allocB wr.heap.size [.int .i64 xk, .int .i64 gk, .int .i64 gu, .int .i64 ga, .int .i64 gc.k, .slice da gc.d.length dc, .slice ka ks.length kc, .slice sa sp.length sc, .int .i64 re, .int .i64 ra, .slice ba bn bc] 53 rfl
  rw [show ([.int .i64 xk, .int .i64 gk, .int .i64 gu, .int .i64 ga, .int .i64 gc.k, .slice da gc.d.length dc, .slice ka ks.length kc, .slice sa sp.length sc, .int .i64 re, .int .i64 ra, .slice ba bn bc] : List Value).toArray = #[.int .i64 xk, .int .i64 gk, .int .i64 gu, .int .i64 ga, .int .i64 gc.k, .slice da gc.d.length dc, .slice ka ks.length kc, .slice sa sp.length sc, .int .i64 re, .int .i64 ra, .slice ba bn bc] from rfl] at hB
  have HB := Lib.hid' hB
  clear hB HC c0 c1 c2 c3 c4 c5 c6 c7 c8 c9 c10 hb
  generalize wr.alloc (.cells #[.int .i64 xk, .int .i64 gk, .int .i64 gu, .int .i64 ga, .int .i64 gc.k, .slice da gc.d.length dc, .slice ka ks.length kc, .slice sa sp.length sc, .int .i64 re, .int .i64 ra, .slice ba bn bc] 53) = wb at *
  generalize wr.heap.size = NA at *
  have s1 := HB.out.side.cell 1 rfl 1 rfl; have sl := HB.out.side.lt 1 rfl
  have b0 := HB.out.side.cell 0 rfl 0 rfl; have b3 := HB.out.side.cell 0 rfl 3 rfl; have b4 := HB.out.side.cell 0 rfl 4 rfl; have b5 := HB.out.side.cell 0 rfl 5 rfl; have b8 := HB.out.side.cell 0 rfl 8 rfl; have b9 := HB.out.side.cell 0 rfl 9 rfl; have bl := HB.out.side.lt 0 rfl
  go_upto_block 2 with (go_at_call 8; refine (sacked_any _ s1 sl).mono ?_; rintro en wz ⟨rfl, rfl⟩)
  have HKN := kind8' xk
  generalize (IntKind.u64.wrap xk).tmod 8 = kn at *
  go_cut [] (fun wc => Hid (∃ (M' : Cl) (f' : Int), f ≤ f' ∧ f' ≤ 1048576 ∧ ClAt c M' J [.box NA [.int .i64 xk, .int .i64 gk, .int .i64 gu, .int .i64 ga, .int .i64 gc.k, .slice da gc.d.length dc, .slice ka ks.length kc, .slice sa sp.length sc, .int .i64 re, .int .i64 ra, .slice ba bn bc] 53, Asn.ship s ⟨1, f'⟩] w wc ∧ Snd (k + 1) M'))
  case first =>
   rcases (show kn = 0 ∨ kn = 1 ∨ kn = 2 ∨ kn = 3 ∨ kn = 4 ∨ kn = 5 ∨ kn = 6 ∨ kn = 7 by omega) with h0 | h1 | h2 | h3 | h4 | h5 | h6 | h7
   all_goals clear HKN
   ·subst h0
    go_wp2_with fail
    refine (append_any gc.d da dc wb HP.out HB.out HS.out.live.ok (fun M' w' h' => SlV.below HAT.out.d (Nat.le_refl _) h'.toBelow)).mono ?_
    rintro en wa ⟨rfl, ha⟩
    have HA := Lib.hid' ha
    clear ha
    go_wp2_with fail
    go_meet
    exact Lib.hid' ⟨_, f, Int.le_refl _, hf1, HA.out, HS.out.append (by omega) _⟩
   ·subst h1
    go_wp2_with fail
    refine (Put_any ga gc da dc wb HP.out HB.out HS.out.live.ok (fun M' w' h' => SlV.below HAT.out.d (Nat.le_refl _) h'.toBelow)).mono ?_
    rintro en wa ⟨rfl, ha⟩
    have HA := Lib.hid' ha
    clear ha
    go_wp2_with fail
    go_meet
    exact Lib.hid' ⟨_, f, Int.le_refl _, hf1, HA.out, HS.out.putAt (by omega) _ _⟩
   ·subst h2
    go_wp2_with fail
    refine (Trim_any ga wb HP.out HB.out HS.out.live.ok).mono ?_
    rintro en wa ⟨rfl, ha⟩
    have HA := Lib.hid' ha
    clear ha
    go_wp2_with fail
    go_meet
    exact Lib.hid' ⟨_, f, Int.le_refl _, hf1, HA.out, HS.out.trim (by omega) _⟩
   ·subst h3
    go_wp2_with fail
    go_meet
    exact Lib.hid' ⟨M, f, Int.le_refl _, hf1, HB.out, HS.out.stay⟩
   ·subst h4
    go_wp2_with fail
    go_meet
    exact Lib.hid' ⟨M, f, Int.le_refl _, hf1, HB.out, HS.out.stay⟩
   ·subst h5
    obtain ⟨f', e1, e2, e3⟩ := take_ge f re ra ⟨hf0, hf1⟩
    have HE := Lib.hid' e1
    clear e1
    go_wp2_with fail
    refine (stake_any ⟨1, f⟩ re ra wb (HB.out.focus 1 rfl)).mono ?_
    rintro en wa ⟨rfl, ha⟩
    rw [HE.out] at ha
    have HA := Zh (ha.focus 1 rfl)
    clear ha
    go_wp2_with fail
    go_meet
    exact Lib.hid' ⟨M, f', e2, e3, HA.out, HS.out.stay⟩
   ·subst h6
    obtain ⟨f', e1, e2, e3⟩ := take_ge f re ra ⟨hf0, hf1⟩
    have HE := Lib.hid' e1
    clear e1
    go_wp2_with fail
    refine (stake_any ⟨1, f⟩ re ra wb (HB.out.focus 1 rfl)).mono ?_
    rintro en wa ⟨rfl, ha⟩
    rw [HE.out] at ha
    have HA := Zh (ha.focus 1 rfl)
    clear ha
    go_wp2_with fail
    go_meet
    exact Lib.hid' ⟨M, f', e2, e3, HA.out, HS.out.stay⟩
   ·subst h7
    go_wp2_with fail
    go_meet
    exact Lib.hid' ⟨M, f, Int.le_refl _, hf1, HB.out, HS.out.stay⟩
  case rest =>
  obtain ⟨M', f', hff, hf2, hcl, hsn⟩ := hcut.out
  have HC := Zh (ClAt.less (K := [_]) hcl)
  have HL := Lib.hid' hsn.live
  have HS' := Lib.hid' hsn
  clear hcl hsn b0 b3 b4 b5 b8 b9 bl s1 sl HKN HB HS HAT
  have hf0' : 0 ≤ f' := by omega
  clear hf0 hf1
  obtain ⟨Y, hY, hY64, hYm, hYr, hYe⟩ := nextS_live HL.out hf0' hf2
  have HYR := Lib.hid' hYr
  have HNX := Zh (next_any ⟨1, f'⟩ wc HC.out HL.out.ok ⟨hf0', hf2⟩)
  have HY := Lib.hid' hY
  have hq0 := HL.out.ok.seq.n
  clear hYr hYe hY HC
  go_wp2_with fail
  refine HNX.out.mono ?_
  clear HNX
  rintro en w7 ⟨r, hr, hE⟩
  rw [show nextS M' (⟨1, f'⟩ : Sp).a = _ from HY.out] at hr
  subst hr
  rcases hE with ⟨h0, _⟩ | ⟨_, pa, pk, Z, rfl, h7, hZ⟩
  ·exact absurd rfl h0
  simp only at hZ
  have hZl : Z.length = Y.length := by rw [← hZ, List.length_map]
  have hB := h7.allocB w7.heap.size [.int .i64 1, .int .i64 (minLow M' M'.units 1048576), .int .i64 f', .slice pa Z.length pk] 65 rfl
  rw [show ([.int .i64 1, .int .i64 (minLow M' M'.units 1048576), .int .i64 f', .slice pa Z.length pk] : List Value).toArray = #[.int .i64 1, .int .i64 (minLow M' M'.units 1048576), .int .i64 f', .slice pa Z.length pk] from rfl] at hB
  have HB := Lib.hid' hB
  have HZ := Lib.hid' hZ
  have hZ64 : Z.length ≤ 64 := by omega
  have hZm : f' + (Z.length : Int) ≤ 1048576 := by omega
  have hZ2 : ¬ (64 : Int) < (Z.length : Int) := by omega
  have hff2 : ¬ f' < f := by omega
  clear hB h7 hZl hZ HY hY64 hYm hff hq0
  generalize minLow M' M'.units 1048576 = tm at *
  go_upto_region 26 with fail
  generalize w7.alloc (.cells #[.int .i64 1, .int .i64 tm, .int .i64 f', .slice pa Z.length pk] 65) = w8 at *
  generalize w7.heap.size = NP at *
  have HB9 := HB.out.drew
  clear HB
  have hs9 := HB9.side
  have p2 := hs9.cell 0 rfl 2 rfl; have p3 := hs9.cell 0 rfl 3 rfl; have pl := hs9.lt 0 rfl; have s1 := hs9.cell 3 rfl 1 rfl; have sl := hs9.lt 3 rfl
  clear hs9
  refine startD (S := (fun w' => w'.cell? ⟨NP, 2, none⟩ = some (.int .i64 f') ∧ w'.cell? ⟨NP, 3, none⟩ = some (.slice pa Z.length pk) ∧ NP < w'.heap.size)) (by kernel_rfl) ⟨p2, p3, pl⟩ (fun hH0 => ?_)
  simp only [List.length_cons, List.length_nil, Nat.reduceAdd, List.replicate_succ, List.replicate_zero]
  generalize w8.drew = w9 at *
  refine tD 0 96 (ptrV s) rfl rfl [(8, ptrV s)] hH0 ?_
  dsimp only [sZ, sS]
  refine tD 2 98 (.int .i64 f) rfl rfl [(12, .int .i64 f)] hH0 ?_
  dsimp only [sZ, sS]
  refine rD 1 rfl (fun K hK => ?_)
  go_simp
  refine (sacked_any _ s1 sl).mono ?_
  rintro en wz ⟨rfl, rfl⟩
  refine hK.out _ _ ?_ (fun hH1 => ?_)
  ·exact hH0
  clear hK K
  try simp only [Act.put, gA, gZ, gS, sA, sZ, sS]
  refine tD 3 99 (.bool false) rfl rfl [(97, .int .i64 f'), (98, .int .i64 f)] hH1 ?_
  dsimp only [sZ, sS]
  refine tD 4 100 (.bool false) rfl rfl [(99, .bool false)] hH1 ?_
  dsimp only [sZ, sS]
  refine tD 5 101 (.nilIface) rfl rfl [(14, .nilIface)] hH1 ?_
  dsimp only [sZ, sS]
  refine tD 6 102 (.bool false) rfl rfl [(101, .nilIface)] hH1 ?_
  dsimp only [sZ, sS]
  refine tD 7 103 (.bool false) rfl rfl [(100, .bool false), (102, .bool false)] hH1 ?_
  dsimp only [sZ, sS]
  refine tD 8 104 (.bool false) rfl rfl [(103, .bool false)] hH1 ?_
  dsimp only [sZ, sS]
  refine tD 9 105 (.pointer (some ⟨NP, 2, none⟩)) rfl rfl [(13, .pointer (some ⟨NP, 0, none⟩))] hH1 ?_
  dsimp only [sZ, sS]
  refine tD 10 106 (.pointer (some ⟨NP, 2, none⟩)) rfl rfl [(105, .pointer (some ⟨NP, 2, none⟩))] hH1 ?_
  dsimp only [sZ, sS]
  refine tD 11 107 (.int .i64 f') rfl rfl [(106, .pointer (some ⟨NP, 2, none⟩))] hH1 ?_
  dsimp only [sZ, sS]
  refine tD 12 108 (ptrV s) rfl rfl [(8, ptrV s)] hH1 ?_
  dsimp only [sZ, sS]
  refine rD 13 rfl (fun K hK => ?_)
  go_simp
  refine (sacked_any _ s1 sl).mono ?_
  rintro en wz ⟨rfl, rfl⟩
  refine hK.out _ _ ?_ (fun hH2 => ?_)
  ·exact hH1
  clear hK K
  try simp only [Act.put, gA, gZ, gS, sA, sZ, sS]
  refine tD 14 110 (.bool false) rfl rfl [(107, .int .i64 f'), (109, .int .i64 f')] hH2 ?_
  dsimp only [sZ, sS]
  refine tD 15 111 (.bool false) rfl rfl [(104, .bool false), (110, .bool false)] hH2 ?_
  dsimp only [sZ, sS]
  refine tD 16 112 (.bool false) rfl rfl [(111, .bool false)] hH2 ?_
  dsimp only [sZ, sS]
  refine tD 17 113 (.pointer (some ⟨NP, 2, none⟩)) rfl rfl [(13, .pointer (some ⟨NP, 0, none⟩))] hH2 ?_
  dsimp only [sZ, sS]
  refine tD 18 114 (.pointer (some ⟨NP, 3, none⟩)) rfl rfl [(113, .pointer (some ⟨NP, 2, none⟩))] hH2 ?_
  dsimp only [sZ, sS]
  refine tD 19 115 (.slice pa Z.length pk) rfl rfl [(114, .pointer (some ⟨NP, 3, none⟩))] hH2 ?_
  dsimp only [sZ, sS]
  refine tD 20 116 (.int .i64 Z.length) rfl rfl [(115, .slice pa Z.length pk)] hH2 ?_
  dsimp only [sZ, sS]
  refine tD 21 117 (.bool false) rfl rfl [(116, .int .i64 Z.length)] hH2 ?_
  dsimp only [sZ, sS]
  refine tD 22 118 (.bool false) rfl rfl [(112, .bool false), (117, .bool false)] hH2 ?_
  dsimp only [sZ, sS]
  refine wpAnyH_done (by kernel_rfl) ?_ _
  clear hH0 hH1 hH2
  have HB := Lib.hid' HB9
  clear HB9 s1 sl
  go_wp2_with fail
  clear p2 p3 pl
  go_loopw [123] (fun v123 wr => ∃ j : Nat, v123 = .int .i64 j ∧ j ≤ Z.length ∧ Hid (ClAt c M' J (.box NP [.int .i64 1, .int .i64 tm, .int .i64 f', .slice pa Z.length pk] 65 :: ceR Z pa pk :: Asn.all (Z.map ceA) :: Asn.ship s ⟨1, f'⟩ :: []) w wr)) (fun v123 _ => Z.length - (intOf v123).toNat)
  case atStart => exact ⟨0, rfl, Nat.zero_le _, HB⟩
  case round =>
   clear HB
   obtain ⟨j, rfl, hj, HB⟩ := hrel
   by_cases hjl : j < Z.length
   rotate_left
   ·have H10 := Zh (ClAt.less (K := [_, _, _]) HB.out)
    clear HB
    go_wp2_with fail
    go_roundw
    case rel => exact ⟨k + 1, M', f', by go_num, by omega, hf0', hf2, H10, HS'⟩
    case measure => simp [intOf]; omega
   obtain ⟨b, off, rfl, hb, hc⟩ := SlV.row (f := ceV) (s := 2) (fun _ => rfl) (by decide) (SlV.of_own (HB.out.side.row 1 rfl)) hjl
   have c0 := hc 0 _ rfl; have c1 := hc 1 _ rfl
   simp only [Nat.add_zero] at c0
   have HMEM := Zh (show Z[j] ∈ Z from List.getElem_mem hjl)
   have HRJ := Zh (HYR.out j Z[j].c (by rw [← HZ.out, List.getElem?_map, List.getElem?_eq_getElem hjl]; rfl))
   clear hc
   generalize Z[j] = x at *
   obtain ⟨⟨yk, yd⟩, ya, yc⟩ := x
   simp only at c0 c1 HRJ
   go_upto_region 31 with fail
   have hB := HB.out.allocB wr.heap.size [.int .i64 yk, .slice ya yd.length yc] 47 rfl
   rw [show ([.int .i64 yk, .slice ya yd.length yc] : List Value).toArray = #[.int .i64 yk, .slice ya yd.length yc] from rfl] at hB
   have HB7 := Lib.hid' hB
   clear hB HB c0 c1 hb
   generalize wr.alloc (.cells #[.int .i64 yk, .slice ya yd.length yc] 47) = w17 at *
   generalize wr.heap.size = N7 at *
   have hfj0 : 0 ≤ f' + (j : Int) := by omega
   have hfj1 : f' + (j : Int) ≤ 1048576 := by omega
   have HRD := Zh (Read_any (f' + j) w17 HB7.out HL.out.ok)
   rw [HRJ.out.1] at HRD
   simp only at HRD
   have p2 := HB7.out.side.cell 1 rfl 2 rfl; have pl := HB7.out.side.lt 1 rfl
   go_wp2_with fail
   refine HRD.out.mono ?_
   clear HRD p2 pl
   rintro en w18 ⟨a8, c8, rfl, ho8, hb8⟩
   have h8 := HB7.out.belowRow hb8 ho8
   have hB := h8.allocB w18.heap.size [.int .i64 yk, .slice a8 yd.length c8] 47 rfl
   rw [show ([.int .i64 yk, .slice a8 yd.length c8] : List Value).toArray = #[.int .i64 yk, .slice a8 yd.length c8] from rfl] at hB
   have HB9 := Lib.hid' hB
   have hyk : ¬ yk = 0 := HRJ.out.2
   clear hB h8 ho8 hb8 HB7
   rw [errV_0]
   go_upto_region 32 with fail
   generalize w18.alloc (.cells #[.int .i64 yk, .slice a8 yd.length c8] 47) = w19 at *
   generalize w18.heap.size = N9 at *
   have hyk' : (yk == 0) = false := beq_eq_false_iff_ne.2 hyk
   have q0 := HB9.out.side.cell 0 rfl 0 rfl; have q1 := HB9.out.side.cell 0 rfl 1 rfl; have ql := HB9.out.side.lt 0 rfl
   have r0 := HB9.out.side.cell 2 rfl 0 rfl; have r1 := HB9.out.side.cell 2 rfl 1 rfl; have rl := HB9.out.side.lt 2 rfl
   have HSM := Zh (same_any (.agg #[.int .i64 yk, .slice ya yd.length yc]) (.agg #[.int .i64 yk, .slice a8 yd.length c8]) ⟨yk, yd⟩ ⟨yk, yd⟩ w19 ⟨ya, yc, rfl, SlV.of_own (Sep.one ceA HB9.out.side 5 rfl HMEM.out)⟩ ⟨a8, c8, rfl, SlV.of_own (HB9.out.side.row 1 rfl)⟩)
   rw [show decide ((⟨yk, yd⟩ : C) = ⟨yk, yd⟩) = true by simp] at HSM
   go_upto_region 34 with (go_at_call 15; refine HSM.out.mono ?_; rintro en w21 ⟨rfl, hb21⟩; have h21 := HB9.out.below hb21; have r0 := h21.side.cell 2 rfl 0 rfl; have rl := h21.side.lt 2 rfl)
   have H22 := Zh (ClAt.less (K := [_, _, _]) h21)
   clear HSM q0 q1 ql r0 r1 rl h21 hb21 HB9
   go_wp2_with fail
   go_roundw
   case rel => exact ⟨j + 1, by go_num, by omega, H22⟩
   case measure => simp [intOf]; omega
end SL
end Go.Proofs.YtpckcpmohcianaaGreatDoor
