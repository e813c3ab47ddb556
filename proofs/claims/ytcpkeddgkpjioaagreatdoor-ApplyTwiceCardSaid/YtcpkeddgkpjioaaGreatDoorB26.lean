/- Proved here: a part of the proof (26 of 34). -/
import Derived.Test.YtcpkeddgkpjioaaGreatDoorB22
import Derived.Test.YtcpkeddgkpjioaaGreatDoorB12
import Derived.Test.YtcpkeddgkpjioaaGreatDoorB25
import Derived.Test.YtcpkeddgkpjioaaGreatDoorB11
import Derived.Test.YtcpkeddgkpjioaaGreatDoorB1
import Derived.Test.YtcpkeddgkpjioaaGreatDoorB7
import Derived.Test.YtcpkeddgkpjioaaGreatDoorB14
import Derived.Test.YtcpkeddgkpjioaaGreatDoorB29
set_option linter.unusedSimpArgs false
set_option linter.unusedVariables false
set_option maxRecDepth 100000
namespace Go.Proofs.YtcpkeddgkpjioaaGreatDoor
open Go.RowKit
namespace SH
open DK
theorem baseOf_succ (l : List Nm) {k : Nat} (h : k < l.length) : baseOf (l.take (k + 1)) = match numberN 98 l[k] with
  | some n => some (l[k], n)
  | none => baseOf (l.take k) := by
 unfold baseOf
 rw [List.take_add_one, List.getElem?_eq_getElem h]
 simp only [Option.toList_some, List.reverse_append, List.reverse_singleton, List.singleton_append, List.findSome?_cons]
 cases numberN 98 l[k] <;> rfl
/-- the greatest base is read -/
def BaseR (r : Nat × U × Nat) (w : World) (e : Ending) (w' : World) : Prop :=
 (r.1 ≠ 0 ∧ (∃ k : Nat, e = .returned (.tuple #[.pointer none, .int .i64 (k : Nat), errV r.1])) ∧ Below w.heap.size w w') ∨
 (r.1 = 0 ∧ ∃ bu bm, e = .returned (.tuple #[ptrV bu, .int .i64 (r.2.2 : Nat), .nilIface]) ∧ w.heap.size ≤ bu ∧ w.heap.size ≤ bm ∧ UnitAt (fun k => k = bu ∨ k = bm ∨ k < w.heap.size) w' bu bm r.2.1 ∧ Below w.heap.size w w')
theorem slist_mem {D : Dk} {b x : Nm} (h : x ∈ (slistD D b).2) : objNamed x = true := by
 unfold slistD at h
 split at h
 ·simp at h
 ·have := (List.mem_filter.1 h).2
  simp only [Bool.and_eq_true] at this
  exact this.1
theorem obj_size {x : Nm} (h : objNamed x = true) : x.size ≤ 20 := by
 unfold objNamed at h
 simp only [Bool.and_eq_true, decide_eq_true_eq] at h
 exact h.1.1
set_option maxHeartbeats 8000000 in
theorem base_any {m p N : Nat} {D : Dk} {G : Nat → Prop} (w : World) (h : (Asn.disk N D G).holds w) (hs : StoAt p N G w) (ho : Ok m D) (hm : m ≤ 1073741824) (hd : D.down = false) :
  Calls Tryz.prog 92 #[ptrV p] w (BaseR (baseD (objs D bName) D) w) := by
 have HL := Zh (slist_any bName w h hs ho hm)
 have hsl : slistD D bName = (0, objs D bName) := by unfold slistD objs; rw [if_neg (by rw [hd]; decide)]
 have HSZ := Zh (show ∀ x ∈ objs D bName, x.size ≤ 20 from fun x hx => obj_size (slist_mem (D := D) (b := bName) (by rw [hsl]; exact hx)))
 have hlen : (objs D bName).length ≤ 1073741824 := by
  have h1 := listN_len (namesOf D.shown) bName (namesOf D.shown).length
  rw [List.take_length] at h1
  have h2 := names_len ho
  unfold objs; omega
 have HGET := Zh (fun (n : Nm) (wq : World) (hb : Below w.heap.size w wq) => get_any7 n wq (((Sep.idle h).below hb).at 0 rfl) (hs.below hb) ho)
 rw [hsl] at HL
 clear h hs ho hsl hd
 generalize objs D bName = l at *
 go_enter Tryz.func92, Tryz.ntmps92
 go_upto_region 2 with (go_at_call 120; refine HL.out.mono ?_; rintro e w1 ⟨a, c, rfl, hrow, hb⟩; simp only [errV_0])
 have H := Zh ((Sep.start w).belowRow hb hrow)
 clear hrow hb HL
 go_upto_region 5 with fail
 go_loopw [7] (fun v7 wr => ∃ (k : Nat) (z : Int), v7 = .int .i64 z ∧ z = (k : Int) - 1 ∧ k ≤ l.length ∧ Hid (baseOf (l.take k) = baseOf l) ∧ Hid (Sep w NoF [.row 9 1 (.slice a l.length c) l.length (strVs l)] wr)) (fun v7 _ => (intOf v7 + 1).toNat)
 case atStart => exact ⟨l.length, _, rfl, by first | rfl | exact IntWalk.i64_in _ (by omega), Nat.le_refl _, Zh (by rw [List.take_length]), H⟩
 case round =>
  clear H
  obtain ⟨k, z, rfl, hz, hk, HB, HS⟩ := hrel
  cases k with
  | zero =>
   obtain rfl : z = -1 := by omega
   have HF := Zh (show baseD l D = (0, U.new, 0) by unfold baseD; rw [← HB.out]; rfl)
   clear HB hz hk
   go_wp2_with (go_at_call 124; refine (new_any _).mono ?_; rintro e w2 ⟨rfl, hb2, hz2, hu2⟩)
   go_ret3
   rw [HF.out]
   have hs := HS.out.toBelow
   exact .inr ⟨rfl, wr.heap.size + 1, wr.heap.size, rfl, by have := hs.size; omega, hs.size, hu2 _ (.inr (.inl rfl)) (.inl rfl), hs.trans (hb2.mono hs.size)⟩
  | succ j =>
   obtain rfl : z = (j : Int) := by omega
   have hlt : j < l.length := by omega
   have H0 := HS.out
   obtain ⟨bb, off, cap, he, hbb, d0⟩ := str_at (H0.row 0 rfl) rfl hlt
   simp only [Value.slice.injEq, true_and] at he
   obtain ⟨rfl, rfl⟩ := he
   have HB2 := Zh (show (match numberN 98 l[j] with | some n => some (l[j], n) | none => baseOf (l.take j)) = baseOf l by rw [← baseOf_succ l hlt]; exact HB.out)
   have hxs := HSZ.out l[j] (List.getElem_mem hlt)
   have hlt' : (j : Int) < (l.length : Int) := by omega
   have e1 : IntKind.i64.wrap ((j : Int) - 1) = (j : Int) - 1 := IntWalk.i64_in _ (by omega)
   have hj0 : (0 : Int) ≤ (j : Int) := by omega
   clear HB H0 hz
   obtain ⟨x, hx⟩ : ∃ x, l[j] = x := ⟨_, rfl⟩
   rw [hx] at d0 HB2 hxs
   clear hx
   cases hn : numberN 98 x with
   | none =>
    rw [hn] at HB2
    have HNU := Zh (show ∀ w : World, Calls Tryz.prog 121 #[.string ⟨#[98]⟩, .string x] w fun e w' => e = .returned (.tuple #[.int .i64 0, .bool false]) ∧ Below w.heap.size w w' from fun w => by have := DK.number_any 98 x w (by omega); rwa [hn] at this)
    go_wp2_with (go_at_call 121; refine (HNU.out _).mono ?_; rintro e w2 ⟨rfl, hb2⟩)
    go_roundw
    case rel => exact ⟨j, _, rfl, by first | rfl | exact e1, by omega, HB2, Zh (HS.out.below hb2)⟩
    case measure => simp [intOf]; try omega
   | some n =>
    have hn9 := number_le hn
    rw [hn] at HB2
    have HBO := Zh (show baseOf l = some (x, n) from HB2.out.symm)
    have HNU := Zh (show ∀ w : World, Calls Tryz.prog 121 #[.string ⟨#[98]⟩, .string x] w fun e w' => e = .returned (.tuple #[.int .i64 (n : Nat), .bool true]) ∧ Below w.heap.size w w' from fun w => by have := DK.number_any 98 x w (by omega); rwa [hn] at this)
    have HF0 := Zh (show baseD l D = (if (getD D x).1 ≠ 0 then ((getD D x).1, U.zero, 0) else ((takeU (getD D x).2).1, (takeU (getD D x).2).2, n)) by unfold baseD; rw [HBO.out])
    have HGX := Zh (fun wq hb => HGET.out x wq hb)
    clear HB2 HBO hn hxs HGET
    generalize getD D x = g at *
    obtain ⟨ge, gd⟩ := g
    by_cases hg : ge = 0
    rotate_left
    ·have HE := Lib.hid' hg
     have HF := Zh (show baseD l D = (ge, U.zero, 0) by rw [HF0.out, if_pos hg])
     clear hg HF0
     go_wp2_with (first | (go_at_call 121; refine (HNU.out _).mono ?_; rintro e w2 ⟨rfl, hb2⟩; have H2 := (HS.out.below hb2); have d2 := (hb2.cell (p := ⟨bb, off + j, none⟩) hbb).trans d0; have hb3 : bb < w2.heap.size := Nat.lt_of_lt_of_le hbb hb2.size; have HG2 := Zh (HGX.out w2 H2.toBelow)) | (go_at_call 122; refine HG2.out.mono ?_; rintro e w3 ⟨ga, gc, rfl, hgr, hb3'⟩; simp only [errV_pos HE.out]))
     go_ret3
     rw [HF.out]
     have h02 := H2.toBelow
     exact .inl ⟨HE.out, ⟨0, by rw [errV_pos HE.out]; rfl⟩, h02.trans (hb3'.mono h02.size)⟩
    subst hg
    have HF := Zh (show baseD l D = ((takeU gd).1, (takeU gd).2, n) by rw [HF0.out, if_neg (by simp)])
    clear HF0
    go_upto_region 13 with (first | (go_at_call 121; refine (HNU.out _).mono ?_; rintro e w2 ⟨rfl, hb2⟩; have H2 := (HS.out.below hb2); have d2 := (hb2.cell (p := ⟨bb, off + j, none⟩) hbb).trans d0; have hb3 : bb < w2.heap.size := Nat.lt_of_lt_of_le hbb hb2.size; have HG2 := Zh (HGX.out w2 H2.toBelow)) | (go_at_call 122; refine HG2.out.mono ?_; rintro e w3 ⟨ga, gc, rfl, hgr, hb3'⟩; simp only [errV_0]))
    have h03 : Below w.heap.size w w3 := H2.toBelow.trans (hb3'.mono H2.toBelow.size)
    have HTU := Zh (rtakeu_any gd ga gc w3 (SlV.of_own hgr))
    clear hgr hb3' H2 d0 d2 hb2 hb3
    generalize takeU gd = r at *
    obtain ⟨re, ru⟩ := r
    by_cases hre : re = 0
    ·subst hre
     go_wp2_with (go_at_call 123; refine HTU.out.mono ?_; rintro e w4 (⟨hbad, _⟩ | ⟨_, bu, bm, rfl, g1, g2, hu, hb4⟩); first | (exact absurd rfl hbad) | skip)
     go_ret3
     rw [HF.out]
     exact .inr ⟨rfl, bu, bm, rfl, Nat.le_trans h03.size g1, Nat.le_trans h03.size g2, hu.weak' (fun k hk => by rcases hk with h | h | h; exact .inl h; exact .inr (.inl h); exact .inr (.inr (Nat.lt_of_lt_of_le h h03.size))) (.inl rfl) (.inr (.inl rfl)), h03.trans (hb4.mono h03.size)⟩
    ·have HE := Lib.hid' hre
     go_wp2_with (go_at_call 123; refine HTU.out.mono ?_; rintro e w4 (⟨_, rfl, hb4⟩ | ⟨hz, _⟩); rotate_left; (exact absurd hz HE.out); simp only [errV_pos HE.out])
     go_ret3
     rw [HF.out]
     exact .inl ⟨HE.out, ⟨n, by simp only [errV_pos HE.out]; rfl⟩, h03.trans (hb4.mono h03.size)⟩
end SH
end Go.Proofs.YtcpkeddgkpjioaaGreatDoor

namespace Go.Proofs.YtcpkeddgkpjioaaGreatDoor
open Go.RowKit
namespace SH
open DK
def AgR (q N : Nat) (u : U) (n : Nat) (D : Dk) (vs : PoolL) (F : Nat → Prop) (w : World) (e : Ending) (w' : World) : Prop :=
 e = .returned (.tuple #[.bool (againD D u n).2.1, errV (againD D u n).1]) ∧ ShR q N ⟨(againD D u n).2.2.1, (againD D u n).2.2.2, false⟩ D vs F w w'
theorem AgR.of {q N : Nat} {u u' : U} {n n' : Nat} {D : Dk} {vs us : PoolL} {F : Nat → Prop} {w w' : World} {e : Nat} {b : Bool} (hd : againD D u n = (e, b, u', n')) (hs : ∀ y ∈ vs, y ∈ us) (h : ShAt q N ⟨u', n', false⟩ D us [] F w w') : AgR q N u n D vs F w (.returned (.tuple #[.bool b, errV e])) w' := by
 unfold AgR
 rw [hd]
 exact ⟨rfl, us, hs, h⟩
set_option maxHeartbeats 16000000 in
theorem again_any {m q N : Nat} {u : U} {n : Nat} {D : Dk} {vs : PoolL} {F : Nat → Prop} (w : World) (h : ShAt q N ⟨u, n, false⟩ D vs [] F w w) (hp : Pow w) (ho : Ok m D) : Calls Tryz.prog 93 #[ptrV q] w (AgR q N u n D vs F w) := by
 obtain ⟨p, bu, bm, G1, Z, H⟩ := sh_open h
 have hok : u.ok := (H.at 0 rfl).2.2
 have hcl := ok_cells hok
 have hin := sh_in H
 have HH := Lib.hid' H
 have c2 := hin.c2
 have lq := hin.lq
 clear h hok
 by_cases h99 : 99999999 < n
 ·have h99' : (99999999 : Int) < (n : Int) := by omega
  have HF := Zh (show againD D u n = (0, false, u, n) by unfold againD; rw [if_pos h99])
  clear H hin h99
  go_enter Tryz.func93, Tryz.ntmps93
  go_wp2
  go_ret2
  exact AgR.of (e := 0) HF.out (fun _ h => h) (sh_close HH.out)
 have h99' : ¬ (99999999 : Int) < (n : Int) := by omega
 have hn9 : n ≤ 99999999 := by omega
 have HF0 := Zh (show againD D u n = (if (getD D (nameN 114 n)).1 = 4 then (0, false, u, n) else if (getD D (nameN 114 n)).1 ≠ 0 then ((getD D (nameN 114 n)).1, false, u, n) else
  if (Ac.take (getD D (nameN 114 n)).2).1 ≠ 0 then ((Ac.take (getD D (nameN 114 n)).2).1, false, u, n) else
  if (apU u (Ac.take (getD D (nameN 114 n)).2).2).1 ≠ 0 then (13, false, (apU u (Ac.take (getD D (nameN 114 n)).2).2).2.2, n) else
  (0, true, (apU u (Ac.take (getD D (nameN 114 n)).2).2).2.2, n + 1)) by unfold againD; rw [if_neg h99])
 have HGE := Zh (fun (wq : World) (hb : Below w.heap.size w wq) => get_any7 (nameN 114 n) wq (((H.below hb).at 4 rfl)) (sh_disk (H.below hb)).2 ho)
 have HNA := Zh (name_any 114 n w.drew (hp.below ((Below.refl _ w).drew)) hn9)
 have c0 := hin.c0
 have c0d := (H.drew).cell 2 rfl 0 rfl
 have c2d := (H.drew).cell 2 rfl 2 rfl
 have HIN := Lib.hid' hin
 clear H hin h99 hp ho hn9
 go_enter Tryz.func93, Tryz.ntmps93
 go_upto_region 3 with fail

 refine startD (S := (fun w' => w'.cell? ⟨q, 0, none⟩ = some (ptrV p) ∧ w'.cell? ⟨q, 2, none⟩ = some (.int .i64 (n : Nat)) ∧ q < w'.heap.size)) (by kernel_rfl) ⟨c0d, c2d, by simpa using lq⟩ (fun hH0 => ?_)
 simp only [List.length_cons, List.length_nil, Nat.reduceAdd, List.replicate_succ, List.replicate_zero]
 refine tD 0 15 (.pointer (some ⟨q, 0, none⟩)) rfl rfl [(0, .pointer (some ⟨q, 0, none⟩))] hH0 ?_
 dsimp only [sZ, sS]
 refine tD 1 16 (.pointer (some ⟨q, 0, none⟩)) rfl rfl [(15, .pointer (some ⟨q, 0, none⟩))] hH0 ?_
 dsimp only [sZ, sS]
 refine tD 2 17 (.pointer (some ⟨q, 0, none⟩)) rfl rfl [(16, .pointer (some ⟨q, 0, none⟩))] hH0 ?_
 dsimp only [sZ, sS]
 refine tD 3 18 (ptrV p) rfl rfl [(17, .pointer (some ⟨q, 0, none⟩))] hH0 ?_
 dsimp only [sZ, sS]
 refine tD 4 19 (.pointer (some ⟨q, 0, none⟩)) rfl rfl [(0, .pointer (some ⟨q, 0, none⟩))] hH0 ?_
 dsimp only [sZ, sS]
 refine tD 5 20 (.pointer (some ⟨q, 0, none⟩)) rfl rfl [(19, .pointer (some ⟨q, 0, none⟩))] hH0 ?_
 dsimp only [sZ, sS]
 refine tD 6 21 (.pointer (some ⟨q, 2, none⟩)) rfl rfl [(20, .pointer (some ⟨q, 0, none⟩))] hH0 ?_
 dsimp only [sZ, sS]
 refine tD 7 22 (.int .i64 (n : Nat)) rfl rfl [(21, .pointer (some ⟨q, 2, none⟩))] hH0 ?_
 dsimp only [sZ, sS]
 refine rD 8 rfl (fun K hK => ?_)
 go_simp
 refine HNA.out.mono ?_
 rintro en w1 ⟨rfl, hb1⟩
 have hb01 : Below w.heap.size w w1 := ((Below.refl _ w).drew).trans (hb1.mono (by simp))
 have hi1 := HIN.out.below hb01
 have HG1 := Zh (HGE.out w1 hb01)
 refine hK.out _ _ ?_ (fun hH1 => ?_)
 ·exact ⟨hi1.c0, hi1.c2, hi1.lq⟩
 clear hK K
 try simp only [Act.put, gA, gZ, gS, sA, sZ, sS]
 refine rD 9 rfl (fun K hK => ?_)
 go_simp
 refine HG1.out.mono ?_
 rintro en w2 ⟨ga, gc, rfl, hgr, hb2⟩
 have hb02 := hb01.trans (hb2.mono hb01.size)
 have hi2 := HIN.out.below hb02
 refine hK.out _ _ ?_ (fun hH2 => ?_)
 ·exact ⟨hi2.c0, hi2.c2, hi2.lq⟩
 clear hK K
 try simp only [Act.put, gA, gZ, gS, sA, sZ, sS]
 refine tD 10 14 (.tuple #[.slice ga (getD D (nameN 114 n)).2.length gc, errV (getD D (nameN 114 n)).1]) rfl rfl [(24, .tuple #[.slice ga (getD D (nameN 114 n)).2.length gc, errV (getD D (nameN 114 n)).1])] hH2 ?_
 dsimp only [sZ, sS]
 refine tD 11 25 (.slice ga (getD D (nameN 114 n)).2.length gc) rfl rfl [(14, .tuple #[.slice ga (getD D (nameN 114 n)).2.length gc, errV (getD D (nameN 114 n)).1])] hH2 ?_
 dsimp only [sZ, sS]
 refine tD 12 26 (errV (getD D (nameN 114 n)).1) rfl rfl [(14, .tuple #[.slice ga (getD D (nameN 114 n)).2.length gc, errV (getD D (nameN 114 n)).1])] hH2 ?_
 dsimp only [sZ, sS]
 refine tD 13 4 (.slice ga (getD D (nameN 114 n)).2.length gc) rfl rfl [(25, .slice ga (getD D (nameN 114 n)).2.length gc)] hH2 ?_
 dsimp only [sZ, sS]
 refine tD 14 5 (errV (getD D (nameN 114 n)).1) rfl rfl [(26, errV (getD D (nameN 114 n)).1)] hH2 ?_
 dsimp only [sZ, sS]
 refine wpAnyH_done (by kernel_rfl) ?_ _
 clear c0 c2 lq c0d c2d HNA HGE HG1 hb1 hb01 hi1 hi2 hb2 HIN

 have hgb : Bytes w2 (.slice ga (getD D (nameN 114 n)).2.length gc) (getD D (nameN 114 n)).2 := SlV.of_own hgr
 generalize getD D (nameN 114 n) = g at *
 obtain ⟨ge, gd⟩ := g
 simp only at hgb HF0 hgr
 clear hgr hH0 hH1 hH2
 by_cases h4 : ge = 4
 ·subst h4
  have HF := Zh (show againD D u n = (0, false, u, n) by rw [HF0.out, if_pos rfl])
  have HX := Zh (HH.out.below hb02)
  rw [errV_pos (n := 4) (by decide)]
  clear HF0 HH hgb hb02
  go_wp2_with fail
  go_ret2
  exact AgR.of (e := 0) HF.out (fun _ h => h) (sh_close HX.out)
 by_cases h0 : ge = 0
 rotate_left
 ·have HF := Zh (show againD D u n = (ge, false, u, n) by rw [HF0.out, if_neg h4, if_pos h0])
  have HX := Zh (HH.out.below hb02)
  have HE := Lib.hid' h0
  have g4 : ¬ (ge : Int) = 4 := by omega
  rw [errV_pos h0]
  clear HF0 HH hgb hb02 h4 h0
  go_wp2_with fail
  go_ret2
  rw [← errV_pos HE.out]
  exact AgR.of HF.out (fun _ h => h) (sh_close HX.out)
 subst h0
 have HTK := Zh (rtake9_any gd ga gc w2 hgb)
 have HF1 := Zh (show againD D u n = (if (Ac.take gd).1 ≠ 0 then ((Ac.take gd).1, false, u, n) else if (apU u (Ac.take gd).2).1 ≠ 0 then (13, false, (apU u (Ac.take gd).2).2.2, n) else (0, true, (apU u (Ac.take gd).2).2.2, n + 1)) by rw [HF0.out, if_neg h4, if_neg (by simp)])
 rw [errV_0]
 clear HF0 h4 hgb
 generalize Ac.take gd = t at *
 obtain ⟨te, x⟩ := t
 obtain ⟨xk, xe, xa, xd⟩ := x
 by_cases ht : te = 0
 rotate_left
 ·have HF := Zh (show againD D u n = (te, false, u, n) by rw [HF1.out, if_pos ht])
  have HE := Lib.hid' ht
  have HX := Zh (HH.out.below hb02)
  clear HF1 HH ht
  go_wp2_with (go_at_call 125; refine HTK.out.mono ?_; rintro e w3 ⟨ya, yc, rfl, hyb, hb3⟩; simp only [errV_pos HE.out, ac9V])
  go_ret2
  rw [← errV_pos HE.out]
  exact AgR.of HF.out (fun _ h => h) (sh_close (((HX.out.below hb3)).below (by first | exact (Below.refl _ _).alloc (Nat.le_refl _) _ | go_grown)))
 subst ht
 have HF2 := Zh (show againD D u n = (if (apU u ⟨xk, xe, xa, xd⟩).1 ≠ 0 then (13, false, (apU u ⟨xk, xe, xa, xd⟩).2.2, n) else (0, true, (apU u ⟨xk, xe, xa, xd⟩).2.2, n + 1)) by rw [HF1.out, if_neg (by simp)])
 clear HF1
 go_upto_region 10 with (go_at_call 125; refine HTK.out.mono ?_; rintro e w3 ⟨ya, yc, rfl, hyb, hb3⟩; simp only [errV_0, ac9V])
 have H3 := (HH.out.below hb02).below hb3
 have H4 := H3.allocAt w3.heap.size [.int .i64 xk, .int .i64 xe, .int .i64 xa, .slice ya xd.length yc] 112 rfl
 have H4 : Sep w F (.box w3.heap.size [.int .i64 xk, .int .i64 xe, .int .i64 xa, .slice ya xd.length yc] 112 :: shL q p bu bm N ⟨u, n, false⟩ D vs Z G1 []) (w3.alloc (.cells #[.int .i64 xk, .int .i64 xe, .int .i64 xa, .slice ya xd.length yc] 112)) := H4
 have hyb4 : Bytes (w3.alloc (.cells #[.int .i64 xk, .int .i64 xe, .int .i64 xa, .slice ya xd.length yc] 112)).drew (.slice ya xd.length yc) xd := SlV.below hyb (Nat.le_refl _) (((Below.refl _ _).alloc (Nat.le_refl _) _).drew)
 generalize w3.alloc (.cells #[.int .i64 xk, .int .i64 xe, .int .i64 xa, .slice ya xd.length yc] 112) = w4 at *
 generalize w3.heap.size = B at *
 clear HH H3 hyb hb3 hb02 HTK
 go_upto_region 12 with fail
 have HX := Lib.hid' H4.drew
 have HAP := Zh (rapply_any ⟨xk, xe, xa, xd⟩ ya yc w4.drew (Sep.unitAt H4.drew.tail) (fun k hk => hk.1) hcl hyb4)
 have d1 := HX.out.cell 3 rfl 1 rfl
 have x0 := HX.out.cell 0 rfl 0 rfl
 have x1 := HX.out.cell 0 rfl 1 rfl
 have x2 := HX.out.cell 0 rfl 2 rfl
 have x3 := HX.out.cell 0 rfl 3 rfl
 have lq4 := HX.out.lt 3 rfl
 have lB4 := HX.out.lt 0 rfl
 clear H4 hyb4
 obtain ⟨r, hr⟩ : ∃ r, apU u ⟨xk, xe, xa, xd⟩ = r := ⟨_, rfl⟩
 rw [hr] at HAP HF2
 obtain ⟨ae, an, au⟩ := r
 clear hr

 refine startD (S := (fun w' => w'.cell? ⟨q, 1, none⟩ = some (ptrV bu) ∧ w'.cell? ⟨B, 0, none⟩ = some (.int .i64 xk) ∧ w'.cell? ⟨B, 1, none⟩ = some (.int .i64 xe) ∧ w'.cell? ⟨B, 2, none⟩ = some (.int .i64 xa) ∧ w'.cell? ⟨B, 3, none⟩ = some (.slice ya xd.length yc) ∧ q < w'.heap.size ∧ B < w'.heap.size)) (by kernel_rfl) ⟨d1, x0, x1, x2, x3, lq4, lB4⟩ (fun hH0 => ?_)
 simp only [List.length_cons, List.length_nil, Nat.reduceAdd, List.replicate_succ, List.replicate_zero]
 refine tD 0 43 (.pointer (some ⟨q, 0, none⟩)) rfl rfl [(0, .pointer (some ⟨q, 0, none⟩))] hH0 ?_
 dsimp only [sZ, sS]
 refine tD 1 44 (.pointer (some ⟨q, 0, none⟩)) rfl rfl [(43, .pointer (some ⟨q, 0, none⟩))] hH0 ?_
 dsimp only [sZ, sS]
 refine tD 2 45 (.pointer (some ⟨q, 1, none⟩)) rfl rfl [(44, .pointer (some ⟨q, 0, none⟩))] hH0 ?_
 dsimp only [sZ, sS]
 refine tD 3 46 (ptrV bu) rfl rfl [(45, .pointer (some ⟨q, 1, none⟩))] hH0 ?_
 dsimp only [sZ, sS]
 refine tD 4 47 (.agg #[.int .i64 xk, .int .i64 xe, .int .i64 xa, .slice ya xd.length yc]) rfl rfl [(6, .pointer (some ⟨B, 0, none⟩))] hH0 ?_
 dsimp only [sZ, sS]
 refine rD 5 rfl (fun K hK => ?_)
 go_simp
 refine HAP.out.mono ?_
 rintro en w5 ⟨rfl, hU5, hf5⟩
 have hnq : ¬ (q = bu ∨ q = bm) := fun hh => HX.out.off 3 1 rfl rfl (by decide) q rfl hh
 have hnB : ¬ (B = bu ∨ B = bm) := fun hh => HX.out.off 0 1 rfl rfl (by decide) B rfl hh
 have hz5 := hf5.size
 refine hK.out _ _ ?_ (fun hH1 => ?_)
 ·exact ⟨hf5.cell d1 hnq, hf5.cell x0 hnB, hf5.cell x1 hnB, hf5.cell x2 hnB, hf5.cell x3 hnB, by omega, by omega⟩
 clear hK K
 try simp only [Act.put, gA, gZ, gS, sA, sZ, sS]
 refine tD 6 42 (.tuple #[.int .i64 an, errV ae]) rfl rfl [(48, .tuple #[.int .i64 an, errV ae])] hH1 ?_
 dsimp only [sZ, sS]
 refine tD 7 49 (.int .i64 an) rfl rfl [(42, .tuple #[.int .i64 an, errV ae])] hH1 ?_
 dsimp only [sZ, sS]
 refine tD 8 50 (errV ae) rfl rfl [(42, .tuple #[.int .i64 an, errV ae])] hH1 ?_
 dsimp only [sZ, sS]
 refine tD 9 7 (.int .i64 an) rfl rfl [(49, .int .i64 an)] hH1 ?_
 dsimp only [sZ, sS]
 refine tD 10 8 (errV ae) rfl rfl [(50, errV ae)] hH1 ?_
 dsimp only [sZ, sS]
 refine wpAnyH_done (by kernel_rfl) ?_ _
 obtain ⟨Z5, us, s5, H5⟩ := HX.out.tail.unitCall hU5 hf5
 clear hH0 hH1 d1 x0 x1 x2 x3 lq4 lB4 HAP HX hU5 hf5 hnq hnB hz5
 have H5 : Sep w F (shL q p bu bm N ⟨au, n, false⟩ D us Z5 G1 []) w5 := H5
 by_cases ha : ae = 0
 ·subst ha
  have HF := Zh (show againD D u n = (0, true, au, n + 1) by rw [HF2.out, if_neg (by simp)])
  have c2 := H5.cell 2 rfl 2 rfl
  have f2 := H5.free 2 rfl 2
  have lq5 := H5.lt 2 rfl
  have HX5 := Lib.hid' H5
  clear H5 HF2
  rw [errV_0]
  go_wp2_with fail
  go_ret2
  have H6 : Sep w F (shL q p bu bm N ⟨au, n + 1, false⟩ D us Z5 G1 []) _ := (HX5.out.set 2 rfl 2 (.int .i64 ((n + 1 : Nat) : Int))).pick [1, 2, 0, 3, 4] (by decide) rfl
  first | exact AgR.of (e := 0) HF.out s5 (sh_close H6) | (go_num; exact AgR.of (e := 0) HF.out s5 (sh_close H6))
 ·have HF := Zh (show againD D u n = (13, false, au, n) by rw [HF2.out, if_pos ha])
  have HX5 := Lib.hid' H5
  clear H5 HF2
  rw [errV_pos ha]
  go_wp2_with fail
  go_ret2
  exact AgR.of (e := 13) HF.out s5 (sh_close HX5.out)

/-- a shelf is opened -/
def ShOpenR (N : Nat) (D : Dk) (G : Nat → Prop) (w : World) (e : Ending) (w' : World) : Prop :=
 ((openS D).1 ≠ 0 ∧ e = .returned (.tuple #[.pointer none, errV (openS D).1]) ∧ ∃ G', Sep w G [Asn.disk N (openS D).2.2 G'] w') ∨
 ((openS D).1 = 0 ∧ ∃ q us, e = .returned (.tuple #[ptrV q, .nilIface]) ∧ ShAt q N (openS D).2.1 (openS D).2.2 us [] G w w')
theorem loop_stop {D : Dk} {k : Nat} {u : U} {n : Nat} (h0 : (againD D u n).1 = 0) (h1 : (againD D u n).2.1 = false) : loopD D k u n = (0, u, n) := by
 cases k with
 | zero => rfl
 | succ k => unfold loopD; rw [if_neg (by omega), if_neg (by rw [h1]; decide)]
theorem again_shape (D : Dk) (u : U) (n : Nat) : (∃ e, againD D u n = (e, false, u, n) ∧ (e ≠ 0 → n ≤ 99999999)) ∨ (n ≤ 99999999 ∧ ∃ v, againD D u n = (13, false, v, n)) ∨ (n ≤ 99999999 ∧ ∃ v, againD D u n = (0, true, v, n + 1)) := by
 unfold againD
 by_cases h99 : 99999999 < n
 ·rw [if_pos h99]; exact .inl ⟨0, rfl, fun h => absurd rfl h⟩
 rw [if_neg h99]
 have h9 : n ≤ 99999999 := by omega
 generalize getD D (nameN 114 n) = g
 by_cases h4 : g.1 = 4
 ·rw [if_pos h4]; exact .inl ⟨0, rfl, fun _ => h9⟩
 rw [if_neg h4]
 by_cases h0 : g.1 ≠ 0
 ·rw [if_pos h0]; exact .inl ⟨_, rfl, fun _ => h9⟩
 rw [if_neg h0]
 generalize Ac.take g.2 = t
 by_cases ht : t.1 ≠ 0
 ·rw [if_pos ht]; exact .inl ⟨_, rfl, fun _ => h9⟩
 rw [if_neg ht]
 generalize apU u t.2 = a
 by_cases ha : a.1 ≠ 0
 ·rw [if_pos ha]; exact .inr (.inl ⟨h9, _, rfl⟩)
 ·rw [if_neg ha]; exact .inr (.inr ⟨h9, _, rfl⟩)
theorem loop_bad {D : Dk} {u v : U} {n e : Nat} (h9 : n ≤ 99999999) (h : againD D u n = (e, false, v, n)) (he : e ≠ 0) : loopD D (100000000 - n) u n = (e, v, n) := by
 obtain ⟨k, hk⟩ : ∃ k, 100000000 - n = k + 1 := ⟨99999999 - n, by omega⟩
 rw [hk]; unfold loopD; rw [h]; simp only; rw [if_pos he]
theorem loop_more {D : Dk} {u v : U} {n : Nat} (h9 : n ≤ 99999999) (h : againD D u n = (0, true, v, n + 1)) : loopD D (100000000 - n) u n = loopD D (100000000 - (n + 1)) v (n + 1) := by
 obtain ⟨k, hk⟩ : ∃ k, 100000000 - n = k + 1 := ⟨99999999 - n, by omega⟩
 rw [hk, show 100000000 - (n + 1) = k by omega]
 conv => lhs; unfold loopD
 rw [h]; simp
theorem up_works {D : Dk} (h : (worksD D).1 = 0) : (worksD D).2.down = false := by
 obtain ⟨h1, _, h3⟩ := works_ok h
 rw [h3]; exact h1
theorem up_remove {D : Dk} {n : Nm} (h : (removeD D n).1 = 0) : (removeD D n).2.down = false := by
 unfold removeD at h ⊢
 simp only at h ⊢
 by_cases h0 : (worksD D).1 ≠ 0
 ·rw [if_pos h0] at h; exact absurd h h0
 rw [if_neg h0] at h ⊢
 have hu := up_works (D := D) (by omega)
 split
 ·exact hu
 ·split
  ·exact hu
  ·exact hu
theorem up_sync {D : Dk} (h : (syncD D).1 = 0) : (syncD D).2.down = false := by
 unfold syncD at h ⊢
 simp only at h ⊢
 by_cases h0 : (worksD D).1 ≠ 0
 ·rw [if_pos h0] at h; exact absurd h h0
 rw [if_neg h0]
 exact up_works (D := D) (by omega)
theorem up_sweep : ∀ (l : List Nm) (s : Bool) (D : Dk), D.down = false → (sweepD l s D).1 = 0 → (sweepD l s D).2.2.down = false
 | [], s, D, h, _ => h
 | n :: l, s, D, h, h0 => by
  unfold sweepD at h0 ⊢
  by_cases hb : DK.begun n = false
  ·rw [if_pos hb] at h0 ⊢; exact up_sweep l s D h h0
  ·rw [if_neg hb] at h0 ⊢
   by_cases hr : (removeD D n).1 ≠ 0
   ·rw [if_pos hr] at h0; exact absurd h0 hr
   ·rw [if_neg hr] at h0 ⊢
    exact up_sweep l true _ (up_remove (by omega)) h0
theorem up_open {l : List Nm} {D : Dk} (h : (openD l D).1 = 0) : (openD l D).2.down = false := by
 unfold openD at h ⊢
 by_cases hd : D.down = true
 ·rw [if_pos hd] at h; cases h
 rw [if_neg hd] at h ⊢
 by_cases hs : (sweepD l false D).1 ≠ 0
 ·rw [if_pos hs] at h; exact absurd h hs
 rw [if_neg hs] at h ⊢
 have hu := up_sweep l false D (by simpa using hd) (by omega)
 by_cases h2 : (sweepD l false D).2.1 = true
 ·rw [if_pos h2] at h ⊢; exact up_sync h
 ·rw [if_neg h2]; exact hu
def mOf (q : Nat) (w : World) : Nat := match w.cell? ⟨q, 2, none⟩ with
 | some (.int _ z) => (100000000 - z).toNat
 | _ => 0
theorem mOf_eq {q : Nat} {w : World} {n : Nat} (h : w.cell? ⟨q, 2, none⟩ = some (.int .i64 (n : Nat))) : mOf q w = (100000000 - (n : Int)).toNat := by unfold mOf; rw [h]
theorem shAt_disk {q N : Nat} {S : Sf} {D : Dk} {vs : PoolL} {F : Nat → Prop} {w0 w : World} (h : ShAt q N S D vs [] F w0 w) : ∃ G', Sep w0 F [Asn.disk N D G'] w := by
 obtain ⟨G1, G2, Z, H⟩ := h
 exact ⟨G1, H.pick [0] (by decide) rfl⟩
set_option maxHeartbeats 16000000 in
theorem shopen_any {m N : Nat} {D : Dk} {G : Nat → Prop} (w : World) (h : (Asn.disk N D G).holds w) (hp : Pow w) (ho : Ok m D) (hm : m ≤ 536870912) (hpd : D.pend.length ≤ 536870912) (hG : ∀ wq, (∃ L, Sep w G L wq) → Pow wq) :
  Calls Tryz.prog 64 #[ptrV N] w (ShOpenR N D G w) := by
 have HSO := Zh (sopen_any w h ho hm hpd)
 have HPW := Lib.hid' hG
 have hoo := ho.open (namesOf D.shown)
 have HF0 := Zh (show openS D = _ from by unfold openS; rfl)
 have hdn : (openD (namesOf D.shown) D).1 = 0 → (openD (namesOf D.shown) D).2.down = false := up_open
 clear h hp ho hpd hG
 generalize openD (namesOf D.shown) D = r at *
 obtain ⟨oe, D1⟩ := r
 simp only at HF0 hoo
 by_cases h0 : oe = 0
 rotate_left
 ·have HF := Zh (show openS D = (oe, ⟨U.zero, 0, false⟩, D1) by rw [HF0.out, if_pos h0])
  have HE := Lib.hid' h0
  clear h0 HF0
  go_enter Tryz.func64, Tryz.ntmps64
  go_wp2_with (go_at_call 91; refine HSO.out.mono ?_; rintro e w1 (⟨_, rfl, hk⟩ | ⟨hz, _⟩); rotate_left; (exact absurd hz HE.out); simp only [errV_pos HE.out])
  go_ret2
  unfold ShOpenR
  rw [HF.out]
  exact .inl ⟨HE.out, by simp only [errV_pos HE.out]; rfl, hk⟩
 subst h0
 have hd1 : D1.down = false := hdn rfl
 have hd : ¬ D1.down = true := by rw [hd1]; decide
 have HF1 := Zh (show openS D = (if (baseD (objs D1 bName) D1).1 ≠ 0 then ((baseD (objs D1 bName) D1).1, ⟨U.zero, 0, false⟩, D1) else ((loopD D1 (100000000 - (baseD (objs D1 bName) D1).2.2) (baseD (objs D1 bName) D1).2.1 (baseD (objs D1 bName) D1).2.2).1, ⟨(loopD D1 (100000000 - (baseD (objs D1 bName) D1).2.2) (baseD (objs D1 bName) D1).2.1 (baseD (objs D1 bName) D1).2.2).2.1, (loopD D1 (100000000 - (baseD (objs D1 bName) D1).2.2) (baseD (objs D1 bName) D1).2.1 (baseD (objs D1 bName) D1).2.2).2.2, false⟩, D1)) by rw [HF0.out, if_neg (by simp), if_neg hd])
 clear HF0 hd hdn
 go_enter Tryz.func64, Tryz.ntmps64
 go_upto_region 2 with (go_at_call 91; refine HSO.out.mono ?_; rintro e w1 (⟨hz, _⟩ | ⟨_, p, G1, rfl, hk1⟩); (exact absurd rfl hz))
 have HK1 := Lib.hid' hk1
 have HBA := Zh (base_any w1 (hk1.at 1 rfl) ⟨hk1.cell 0 rfl 0 rfl, hk1.lt 0 rfl, fun hg => hk1.off 0 1 rfl rfl (by decide) p rfl hg⟩ hoo (by omega) hd1)
 have HPW1 := Zh (HPW.out w1 ⟨_, hk1⟩)
 have hbn : (baseD (objs D1 bName) D1).2.2 ≤ 99999999 := by
  unfold baseD
  cases hb : baseOf (objs D1 bName) with
  | none => exact Nat.zero_le _
  | some y =>
   obtain ⟨x, n⟩ := y
   have hn : n ≤ 99999999 := by
    unfold baseOf at hb
    obtain ⟨z, _, hz⟩ := List.exists_of_findSome?_eq_some hb
    cases hnz : numberN 98 z with
    | none => rw [hnz] at hz; cases hz
    | some k => rw [hnz] at hz; simp only [Option.map_some, Option.some.injEq, Prod.mk.injEq] at hz; rw [← hz.2]; exact number_le hnz
   show (if _ then _ else _ : Nat × U × Nat).2.2 ≤ _
   split
   ·exact Nat.zero_le _
   ·exact hn
 clear hk1 HSO hd1
 generalize baseD (objs D1 bName) D1 = b at *
 obtain ⟨be, u0, n0⟩ := b
 simp only at hbn HF1
 by_cases hb0 : be = 0
 rotate_left
 ·have HF := Zh (show openS D = (be, ⟨U.zero, 0, false⟩, D1) by rw [HF1.out, if_pos hb0])
  have HE := Lib.hid' hb0
  clear hb0 HF1
  go_wp2_with (go_at_call 92; refine HBA.out.mono ?_; rintro e w2 (⟨_, ⟨kk, rfl⟩, hb2⟩ | ⟨hz, _⟩); rotate_left; (exact absurd hz HE.out); simp only [errV_pos HE.out])
  go_ret2
  unfold ShOpenR
  rw [HF.out]
  exact .inl ⟨HE.out, by simp only [errV_pos HE.out]; rfl, G1, (HK1.out.drop 0).below hb2⟩
 subst hb0
 have HF2 := Zh (show openS D = ((loopD D1 (100000000 - n0) u0 n0).1, ⟨(loopD D1 (100000000 - n0) u0 n0).2.1, (loopD D1 (100000000 - n0) u0 n0).2.2, false⟩, D1) by rw [HF1.out, if_neg (by simp)])
 clear HF1
 go_upto_region 5 with (go_at_call 92; refine HBA.out.mono ?_; rintro e w2 (⟨hz, _⟩ | ⟨_, bu, bm, rfl, g1, g2, hu2, hb2⟩); (exact absurd rfl hz))
 obtain ⟨Z2, us, _, H2⟩ := Sep.unitNew (HK1.out.pool0) hb2 g1 g2 (hu2.weak' (fun k hk => by rcases hk with h | h | h; exact .inr (.inr h.1); exact .inl h; exact .inr (.inl h)) (.inr (.inl rfl)) (.inr (.inr rfl)))
 have H3 := H2.allocAt w2.heap.size [ptrV p, ptrV bu, .int .i64 (n0 : Nat), .bool false] 164 rfl
 have H4 : Sep w G (shL w2.heap.size p bu bm N ⟨u0, n0, false⟩ D1 us Z2 G1 []) (w2.alloc (.cells #[ptrV p, ptrV bu, .int .i64 (n0 : Nat), .bool false] 164)) := H3.pick [1, 2, 0, 3, 4] (by decide) rfl
 have HX := Zh (sh_close H4)
 clear H2 H3 H4 HK1 HBA hu2 hb2 g1 g2 HPW1 hbn
 go_wp2_with fail
 generalize w2.heap.size = q at *
 generalize w2.alloc (.cells #[ptrV p, ptrV bu, .int .i64 (n0 : Nat), .bool false] 164) = w3 at *
 go_loopw [] (fun wr => ∃ (u : U) (n : Nat) (vs : PoolL), Hid (ShAt q N ⟨u, n, false⟩ D1 vs [] G w wr) ∧ Hid (loopD D1 (100000000 - n) u n = loopD D1 (100000000 - n0) u0 n0)) (fun wr => mOf q wr)
 case atStart => exact ⟨u0, n0, us, HX, Lib.hid' rfl⟩
 case round =>
  clear HX
  obtain ⟨u, n, vs, HS, HL⟩ := hrel
  obtain ⟨F', hF, hk⟩ := HS.out.enter
  obtain ⟨p', bu', bm', Ga, Za, Ha⟩ := sh_open HS.out
  have hma : mOf q wr = (100000000 - (n : Int)).toNat := mOf_eq (sh_in Ha).c2
  have hpw : Pow wr := HPW.out wr ⟨_, Ha⟩
  have HAG := Zh (again_any wr hF hpw hoo)
  clear Ha hF hpw
  rcases again_shape D1 u n with ⟨e, hs, h9⟩ | ⟨h9, v, hs⟩ | ⟨h9, v, hs⟩
  ·unfold AgR at HAG
   rw [hs] at HAG
   by_cases he : e = 0
   ·subst he
    have HF := Zh (show openS D = (0, ⟨u, n, false⟩, D1) by rw [HF2.out, ← HL.out, loop_stop (by rw [hs]) (by rw [hs])])
    clear hs h9
    go_wp2_with (go_at_call 93; refine HAG.out.mono ?_; rintro e w5 ⟨rfl, us5, _, h5⟩; simp only [errV_0])
    go_ret2
    unfold ShOpenR
    rw [HF.out]
    exact .inr ⟨rfl, q, us5, rfl, hk _ _ _ [] _ h5⟩
   ·have HF := Zh (show openS D = (e, ⟨u, n, false⟩, D1) by rw [HF2.out, ← HL.out, loop_bad (h9 he) hs he])
    have HE := Lib.hid' he
    clear hs h9
    go_wp2_with (go_at_call 93; refine HAG.out.mono ?_; rintro e w5 ⟨rfl, us5, _, h5⟩; simp only [errV_pos HE.out])
    go_ret2
    unfold ShOpenR
    rw [HF.out]
    exact .inl ⟨HE.out, by simp only [errV_pos HE.out]; rfl, shAt_disk (hk _ _ _ [] _ h5)⟩
  ·unfold AgR at HAG
   rw [hs] at HAG
   have HF := Zh (show openS D = (13, ⟨v, n, false⟩, D1) by rw [HF2.out, ← HL.out, loop_bad h9 hs (by decide)])
   clear hs h9
   go_wp2_with (go_at_call 93; refine HAG.out.mono ?_; rintro e w5 ⟨rfl, us5, _, h5⟩; simp only [errV_pos (show (13 : Nat) ≠ 0 by decide)])
   go_ret2
   unfold ShOpenR
   rw [HF.out]
   exact .inl ⟨(show (13 : Nat) ≠ 0 by decide), by simp only [errV_pos (show (13 : Nat) ≠ 0 by decide)]; rfl, shAt_disk (hk _ _ _ [] _ h5)⟩
  ·unfold AgR at HAG
   rw [hs] at HAG
   have HL2 := Zh (show loopD D1 (100000000 - (n + 1)) v (n + 1) = loopD D1 (100000000 - n0) u0 n0 by rw [← loop_more h9 hs]; exact HL.out)
   clear hs
   go_wp2_with (go_at_call 93; refine HAG.out.mono ?_; rintro e w5 ⟨rfl, us5, _, h5⟩; simp only [errV_0])
   have h6 := hk _ _ _ [] _ h5
   obtain ⟨p6, bu6, bm6, G6, Z6, H6⟩ := sh_open h6
   have hm6 : mOf q w5 = (100000000 - ((n + 1 : Nat) : Int)).toNat := mOf_eq (sh_in H6).c2
   go_roundw
   case rel => exact ⟨v, n + 1, us5, Lib.hid' h6, HL2⟩
   case measure => rw [hma, hm6]; omega
end SH
end Go.Proofs.YtcpkeddgkpjioaaGreatDoor

namespace Go.Proofs.YtcpkeddgkpjioaaGreatDoor
open Go.RowKit
namespace SH
open DK
def CompR (q N : Nat) (S : Sf) (D : Dk) (vs : PoolL) (F : Nat → Prop) (w : World) (e : Ending) (w' : World) : Prop :=
 e = .returned (errV (compS S D).1) ∧ ShAt q N (compS S D).2.1 (compS S D).2.2 vs [] F w w'
theorem CompR.of {q N : Nat} {S S' : Sf} {D D' : Dk} {vs : PoolL} {F : Nat → Prop} {w w' : World} {e : Nat} (hd : compS S D = (e, S', D')) (h : ShAt q N S' D' vs [] F w w') : CompR q N S D vs F w (.returned (errV e)) w' := by
 unfold CompR
 rw [hd]
 exact ⟨rfl, h⟩
end SH
end Go.Proofs.YtcpkeddgkpjioaaGreatDoor

namespace Go.Proofs.YtcpkeddgkpjioaaGreatDoor
namespace SH
open DK
theorem put1_ne {g : Vw} {n x : Nm} {d : Option (List UInt8)} (h : x ≠ n) : put1 g n d x = g x := if_neg h
theorem put1_eq {g : Vw} {n : Nm} {d : Option (List UInt8)} : put1 g n d n = d := if_pos rfl
theorem Base.act {g : Vw} {b n : Nat} {ub : U} {d : Option (List UInt8)} (h : Base g b ub) : Base (put1 g (nameN 114 n) d) b ub := by
 have hne : ∀ k, put1 g (nameN 114 n) d (nameN 98 k) = g (nameN 98 k) := fun k => put1_ne (name_ne (by decide) k n)
 refine ⟨?_, fun k h1 h2 => by rw [hne]; exact h.2 k h1 h2⟩
 rw [hne, hne]
 exact h.1
theorem Acts.snoc {g : Vw} {x : Ac} {n : Nat} (hn : n ≤ 99999999) : ∀ {k b : Nat} {u v : U}, Acts g k b u v → b + k = n → (apU v x).1 = 0 → x.check = 0 → Acts (put1 g (nameN 114 n) (some x.put)) (k + 1) b u (apU v x).2.2
 | 0, b, u, v, h, hb, h1, h2 => by
  have h : u = v := h
  subst h
  have hb : b = n := by omega
  subst hb
  exact ⟨x.put, x, put1_eq, Ac.take_put h2, h1, rfl⟩
 | k + 1, b, u, v, h, hb, h1, h2 => by
  obtain ⟨d, y, q1, q2, q3, q4⟩ := h
  refine ⟨d, y, ?_, q2, q3, Acts.snoc hn q4 (by omega) h1 h2⟩
  rw [put1_ne (fun e => by have := name_inj (by omega) hn e; omega)]
  exact q1
theorem ap_check {u : U} {x : Ac} (h : (apU u x).1 = 0) : x.check = 0 := by
 apply Decidable.byContradiction
 intro hc
 unfold apU at h
 rw [if_pos hc] at h
 exact hc h
theorem Rep.act {g : Vw} {v : U} {n : Nat} {x : Ac} (h : Rep g v n) (hn : n ≤ 99999999) (hx : (apU v x).1 = 0) : Rep (put1 g (nameN 114 n) (some x.put)) (apU v x).2.2 (n + 1) := by
 obtain ⟨b, ub, k, e, hb, ha, hno⟩ := h
 refine ⟨b, ub, k + 1, by omega, hb.act, ha.snoc hn e.symm hx (ap_check hx), fun m h1 h2 => ?_⟩
 rw [put1_ne (fun e => by have := name_inj h2 hn e; omega)]
 exact hno m (by omega) h2
/-- nothing but the one base counts -/
structure Rep0 (g : Vw) (u : U) (n : Nat) : Prop where
 base : ∃ d, g (nameN 98 n) = some d ∧ takeU d = (0, u) ∧ u.ok
 high : ∀ k, n < k → k ≤ 99999999 → g (nameN 98 k) = none
 acts : ∀ m, n ≤ m → m ≤ 99999999 → g (nameN 114 m) = none
theorem Rep.base {g : Vw} {v u : U} {n : Nat} {d : List UInt8} (h : Rep g v n) (hn : n ≤ 99999999) (ht : takeU d = (0, u)) (hu : u.ok) : Rep0 (put1 g (nameN 98 n) (some d)) u n := by
 obtain ⟨b, ub, k, e, hb, ha, hno⟩ := h
 refine ⟨⟨d, put1_eq, ht, hu⟩, fun m h1 h2 => ?_, fun m h1 h2 => ?_⟩
 ·rw [put1_ne (fun e => by have := name_inj h2 hn e; omega)]
  exact hb.2 m (by omega) h2
 ·rw [put1_ne (name_ne (by decide) m n)]
  exact hno m h1 h2
/-- .. but for the order of the cells -/
def RepE (g : Vw) (u : U) (n : Nat) : Prop := ∃ v, Rep g v n ∧ Ueq v u
theorem RepE.act {g : Vw} {u : U} {n : Nat} {x : Ac} (h : RepE g u n) (hn : n ≤ 99999999) (hx : (apU u x).1 = 0) : RepE (put1 g (nameN 114 n) (some x.put)) (apU u x).2.2 (n + 1) := by
 obtain ⟨v, hv, he⟩ := h
 obtain ⟨e1, _, e3⟩ := ap_eq he hv.ok.nodup x
 exact ⟨_, hv.act hn (by rw [e1]; exact hx), e3⟩
theorem act_len {x : Ac} (h : x.check = 0) : x.put.length ≤ 200 := by
 obtain ⟨h1, h2, h3, h4, h5, h6, h7, h8, h9⟩ := Ac.check_ok h
 have g1 := vb_len_le (n := x.k.toNat) (k := 10) (by decide) (by omega)
 have g2 := vb_len_le (n := x.e.toNat) (k := 10) (by decide) (by omega)
 have g3 := vb_len_le (n := x.a.toNat) (k := 10) (by decide) (by omega)
 have g4 := vb_len_le (n := x.d.length) (k := 10) (by decide) (by omega)
 have ht : x.text.length ≤ 110 := by
  unfold Ac.text headB
  simp only [List.length_append]
  split <;> split <;> simp only [List.length_append, List.length_nil] <;> omega
 have g5 := vb_len_le (n := x.text.length) (k := 10) (by decide) (by omega)
 unfold Ac.put
 rw [frameB_len]; omega
theorem doS_cases {r : Int} {L : Fl} {f : Int} {u : U} {n : Nat} {x : Ac} (hg : (L.map (·.1)).Nodup) (h5 : L.length < 512) (h6 : (usedF L : Int) + 200 ≤ r) (hn : n ≤ 99999999) (hR : RepE (V L) u n) (hx : (apU u x).1 = 0) :
  (∃ f', doS ⟨u, n, false⟩ ⟨r, L, L, [], f, false⟩ x = (0, (apU u x).2.1, ⟨(apU u x).2.2, n + 1, false⟩, ⟨r, putL L (nameN 114 n) x.put, putL L (nameN 114 n) x.put, [], f', false⟩) ∧ (f = -1 → f' = -1) ∧ RepE (V (putL L (nameN 114 n) x.put)) (apU u x).2.2 (n + 1)) ∨
  (f ≠ -1 ∧ ∃ D', doS ⟨u, n, false⟩ ⟨r, L, L, [], f, false⟩ x = (14, 0, ⟨u, n, true⟩, D') ∧ AfterC r D' (fun g => RepE g u n ∨ RepE g (apU u x).2.2 (n + 1))) := by
 have hlen := act_len (ap_check hx)
 have hbg := begun_name (b := 114) (by decide) n
 have hV := V_putL hg hbg x.put
 have hA := hR.act hn hx
 rcases putD_cases r L f (nameN 114 n) x.put hg (obj_r n) hbg (tilde_name (by decide) n) (by omega) h5 (by omega) with ⟨f', e, hf⟩ | ⟨hf, D', e, ha⟩
 ·left
  refine ⟨f', ?_, hf, by rw [hV]; exact hA⟩
  unfold doS
  rw [if_neg (by simp), if_neg (by simpa using hx), if_neg (by show ¬ 99999999 < n; omega)]
  simp only [e, ne_eq, not_true_eq_false, if_false]
 ·right
  refine ⟨hf, D', ?_, ha.imp (fun g hg => ?_)⟩
  ·unfold doS
   rw [if_neg (by simp), if_neg (by simpa using hx), if_neg (by show ¬ 99999999 < n; omega)]
   simp only [e]
   rw [if_pos (by decide)]
   rfl
  ·rcases hg with rfl | rfl
   ·exact .inl hR
   ·exact .inr hA
end SH
end Go.Proofs.YtcpkeddgkpjioaaGreatDoor

namespace Go.Proofs.YtcpkeddgkpjioaaGreatDoor
namespace SH
open DK
/-- acts and bases alone -/
def Only (L : Fl) : Prop := ∀ p ∈ L, (numberN 114 p.1).isSome = true ∨ (numberN 98 p.1).isSome = true
theorem putL_mem {L : Fl} {n : Nm} {d : List UInt8} {p : Nm × List UInt8} (h : p ∈ putL L n d) : p = (n, d) ∨ p ∈ L := by
 unfold putL at h
 rcases putF_mem.1 h with h | ⟨h, _⟩
 ·exact .inl h
 ·have h1 := List.mem_filter.1 h
  rcases putF_mem.1 h1.1 with h2 | ⟨h2, _⟩
  ·have h3 := h1.2
   rw [h2] at h3
   simp [bne] at h3
  ·exact .inr h2
theorem Only.base {L : Fl} (h : Only L) {n : Nat} (hn : n ≤ 99999999) {d : List UInt8} : Only (putL L (nameN 98 n) d) := fun p hp => by
 rcases putL_mem hp with rfl | hp
 ·right; show (numberN 98 (nameN 98 n)).isSome = true; rw [number_name 98 hn]; rfl
 ·exact h p hp
theorem Only.noBeg {L : Fl} (h : Only L) : NoBeg L := fun p hp => by
 rcases h p hp with h | h
 ·obtain ⟨n, hn⟩ := Option.isSome_iff_exists.1 h
  rw [name_of_number hn]; exact begun_name (by decide) n
 ·obtain ⟨n, hn⟩ := Option.isSome_iff_exists.1 h
  rw [name_of_number hn]; exact begun_name (by decide) n
end SH
end Go.Proofs.YtcpkeddgkpjioaaGreatDoor

namespace Go.Proofs.YtcpkeddgkpjioaaGreatDoor
namespace SH
open DK
theorem V_nil (x : Nm) : V [] x = none := by unfold V getF; split <;> rfl
theorem rep_new : Rep (V []) U.new 0 := ⟨0, U.new, 0, rfl, ⟨.inl ⟨rfl, rfl, V_nil _⟩, fun k _ _ => V_nil _⟩, rfl, fun m _ _ => V_nil _⟩
theorem openS_new (r : Int) : openS (newD r) = (0, ⟨U.new, 0, false⟩, newD r) := by
 obtain ⟨L', e, _, _, _, h⟩ := openS_at r [] Good.nil rep_new (by omega)
 have h := h (fun f hf => by simp at hf)
 subst h
 exact e
theorem cut_clean (r : Int) (L : Fl) (f : Int) (ks : List Bool) : upD (cutD ⟨r, L, L, [], f, false⟩ ks) = ⟨r, L, L, [], -1, false⟩ := by
 unfold upD
 rw [if_pos (by rfl)]
 unfold cutD
 simp only [kept_nil]
 rfl
end SH
end Go.Proofs.YtcpkeddgkpjioaaGreatDoor

namespace Go.Proofs.YtcpkeddgkpjioaaGreatDoor
namespace SH
open DK
/-- a shelf whose disk has all power -/
def BasAt (k : Nat) (S : Sf) (D : Dk) : Prop := ∃ u n L, S = ⟨u, n, false⟩ ∧ D = ⟨16777216, L, L, [], -1, false⟩ ∧ Ok k D ∧ n ≤ k ∧ u.ok ∧ u.cells.length ≤ k ∧ RepE (V L) u n ∧ Only L
theorem BasAt.open {k : Nat} {S : Sf} {D : Dk} (h : BasAt k S D) (hk : k ≤ 100) : ∃ S', openS (upD (cutD D [])) = (0, S', D) ∧ S'.n = S.n ∧ Ueq S'.u S.u ∧ BasAt k S' D := by
 obtain ⟨u, n, L, rfl, rfl, h1, h2, h3, h4, ⟨v, hv, hve⟩, h6⟩ := h
 obtain ⟨L', e, q1, q2, q3, q4⟩ := openS_at 16777216 L h1.shown hv (by omega)
 obtain rfl := q4 h6.noBeg
 have hl := hve.cells.length_eq
 exact ⟨⟨v, n, false⟩, by rw [cut_clean]; exact e, rfl, hve, v, n, _, rfl, rfl, h1, h2, hv.ok, by omega, ⟨v, hv, Ueq.refl _⟩, h6⟩
end SH
end Go.Proofs.YtcpkeddgkpjioaaGreatDoor

namespace Go.Proofs.YtcpkeddgkpjioaaGreatDoor
open Go.RowKit
namespace SH
open DK
theorem sread_any {q N : Nat} {S : Sf} {D : Dk} {vs : PoolL} {F : Nat → Prop} (e a : Int) (w : World) (h : ShAt q N S D vs [] F w w) :
  Calls Tryz.prog 74 #[ptrV q, .int .i64 e, .int .i64 a] w (ReadR (readS S D e a).1 (readS S D e a).2 w) := by
 obtain ⟨p, bu, bm, G1, Z, H⟩ := sh_open h
 have HLk := Zh (fun (wq : World) (hb : Below w.heap.size w wq) => slooks_any (S := S) (D := D) wq (sh_in (H.below hb)) ((H.below hb).at 4 rfl))
 have HRd := Zh (fun (wq : World) (hb : Below w.heap.size w wq) => read_any e a wq (Sep.unitAt (H.below hb)))
 have c1 := (sh_in H).c1
 have lq := (sh_in H).lq
 clear h H
 by_cases hl : looksS S D = 0
 rotate_left
 ·have HF := Zh (show readS S D e a = (looksS S D, ⟨0, []⟩) by unfold readS; rw [if_pos hl])
  have HE := Lib.hid' hl
  clear hl
  go_enter Tryz.func74, Tryz.ntmps74
  go_wp2_with (go_at_call 102; refine (HLk.out _ (by go_grown)).mono ?_; rintro en w1 ⟨rfl, rfl⟩; rw [errV_pos HE.out])
  refine bodyPost_ret (v := .tuple #[.agg #[.int .i64 0, .slice none 0 0], .iface 69 (.int .i64 (looksS S D))]) (by simp [results, Tryz.results74, go_sem]) rfl ?_
  rw [HF.out]
  exact ⟨none, 0, by rw [errV_pos HE.out]; rfl, World.ownsRow_nil _ _ _ _, by go_grown⟩
 have HF := Zh (show readS S D e a = S.u.read e a by unfold readS; rw [if_neg (by rw [hl]; decide)])
 have HE := Lib.hid' hl
 clear hl
 go_enter Tryz.func74, Tryz.ntmps74
 go_wp2_with (go_at_call 102; refine (HLk.out _ (by go_grown)).mono ?_; rintro en w1 ⟨rfl, rfl⟩; rw [HE.out, errV_0])
 have hb0 : Below w.heap.size w (w.alloc (.cells #[.int .i64 0, .slice none 0 0] 36)) := by go_grown
 refine (HRd.out _ (by go_grown)).mono ?_
 rintro en w2 ⟨a2, cp2, rfl, ho, hb2⟩
 have HO := Lib.hid' ho
 have hc2 := (bcell hb2).1
 have c0 : w2.cell? ⟨w.heap.size, 0, none⟩ = some (.int .i64 0) := (hc2 _ _ (by simp)).trans (by simp [go_sem])
 have c1 : w2.cell? ⟨w.heap.size, 1, none⟩ = some (.slice none 0 0) := (hc2 _ _ (by simp)).trans (by simp [go_sem])
 have f0 : w2.frozen? ⟨w.heap.size, 0, none⟩ = false := ((bcell hb2).2 _ _ (by simp)).trans (by simp [go_sem])
 have f1 : w2.frozen? ⟨w.heap.size, 1, none⟩ = false := ((bcell hb2).2 _ _ (by simp)).trans (by simp [go_sem])
 have hz2 := hb2.size
 have HB2 := Lib.hid' hb2
 clear ho hc2 hb2 hb0
 have lt1 : w.heap.size < w2.heap.size := by simp at hz2; omega
 go_wp2
 refine bodyPost_ret (v := .tuple #[.agg #[.int .i64 (S.u.read e a).2.k, .slice a2 (S.u.read e a).2.d.length cp2], errV (S.u.read e a).1]) (by simp [results, Tryz.results74, go_sem, c0, c1]) rfl ?_
 rw [HF.out]
 refine ⟨_, _, rfl, own_base (ownsRow_setCell_below (ownsRow_setCell_below HO.out (by simp) _) (by simp) _) (by simp), ?_⟩
 refine Below.setCell (Below.setCell ?_ (by simp) _) (by simp) _
 exact below_call (by go_grown) (by simp) HB2.out
end SH
end Go.Proofs.YtcpkeddgkpjioaaGreatDoor

namespace Go.Proofs.YtcpkeddgkpjioaaGreatDoor
namespace SH
open DK
/-- a shelf whose disk has power: m files ever written, at most c acts done -/
def KAt (m c : Nat) (S : Sf) (D : Dk) : Prop := ∃ u n L f, S = ⟨u, n, false⟩ ∧ D = ⟨16777216, L, L, [], f, false⟩ ∧ Ok m D ∧ n ≤ c ∧ u.ok ∧ u.cells.length ≤ c ∧ RepE (V L) u n
theorem KAt.mono {m c m' c' : Nat} {S : Sf} {D : Dk} (h : KAt m c S D) (hm : m ≤ m') (hc : c ≤ c') : KAt m' c' S D := by
 obtain ⟨u, n, L, f, h1, h2, h3, h4, h5, h6, h7⟩ := h
 exact ⟨u, n, L, f, h1, h2, h3.mono hm, Nat.le_trans h4 hc, h5, Nat.le_trans h6 hc, h7⟩
theorem KAt.facts {m c : Nat} {S : Sf} {D : Dk} (h : KAt m c S D) : Ok m D ∧ D.pend = [] ∧ D.down = false ∧ S.br = false ∧ S.u.ok ∧ S.u.cells.length ≤ c ∧ S.n ≤ c := by
 obtain ⟨u, n, L, f, rfl, rfl, h3, h4, h5, h6, h7⟩ := h
 exact ⟨h3, rfl, rfl, rfl, h5, h6, h4⟩
/-- what the disk may be when its power has gone: the shelf then has one of two units -/
def Fell (m c : Nat) (u v : U) (D : Dk) : Prop := Ok m D ∧ AfterC 16777216 D (fun g => ∃ n, n ≤ c ∧ (RepE g u n ∨ RepE g v n))
theorem Fell.facts {m c : Nat} {u v : U} {D : Dk} (h : Fell m c u v D) : Ok m D ∧ D.pend.length ≤ 1 ∧ D.down = true := ⟨h.1, h.2.2.2.1, h.2.2.1⟩
/-- it is opened anew -/
theorem Fell.open {m c : Nat} {u v : U} {D : Dk} (h : Fell m c u v D) (hc : c ≤ 100) (hu : u.cells.length ≤ c) (hv : v.cells.length ≤ c) (ks : List Bool) :
  Ok m (upD (cutD D ks)) ∧ (upD (cutD D ks)).pend = [] ∧ ∃ S' D', openS (upD (cutD D ks)) = (0, S', D') ∧ KAt m c S' D' ∧ (Ueq S'.u u ∨ Ueq S'.u v) := by
 obtain ⟨ho, ha⟩ := h
 have hok := (ho.cut ks).start
 obtain ⟨A, e, n, hn, hP⟩ := up_cut ha ks
 rw [e] at hok ⊢
 have key : ∀ z : U, z.cells.length ≤ c → RepE (V A) z n → ∃ S' D', openS ⟨16777216, A, A, [], -1, false⟩ = (0, S', D') ∧ KAt m c S' D' ∧ Ueq S'.u z := fun z hz ⟨t, ht, hte⟩ => by
  obtain ⟨L', e2, q1, q2, q3, q4⟩ := openS_at 16777216 A hok.shown ht (by omega)
  have hok2 : Ok m ⟨16777216, L', L', [], -1, false⟩ := by
   have h1 := Ok.open hok (namesOf A)
   obtain ⟨L2, e3, _, _, _, _⟩ := open_at 16777216 A hok.shown
   rw [e3] at h1
   have h2 : (openS ⟨16777216, A, A, [], -1, false⟩).2.2 = (openD (namesOf A) ⟨16777216, A, A, [], -1, false⟩).2 := by
    unfold openS
    simp only
    repeat' split
    all_goals rfl
   rw [e2, e3] at h2
   rw [show (⟨16777216, L', L', [], -1, false⟩ : Dk) = ⟨16777216, L2, L2, [], -1, false⟩ from h2]
   exact h1
  have hl := hte.cells.length_eq
  exact ⟨_, _, e2, ⟨t, n, L', -1, rfl, rfl, hok2, hn, ht.ok, by omega, ⟨t, by rw [q1]; exact ht, Ueq.refl _⟩⟩, hte⟩
 refine ⟨hok, rfl, ?_⟩
 rcases hP with hP | hP
 ·obtain ⟨S', D', a1, a2, a3⟩ := key u hu hP
  exact ⟨S', D', a1, a2, .inl a3⟩
 ·obtain ⟨S', D', a1, a2, a3⟩ := key v hv hP
  exact ⟨S', D', a1, a2, .inr a3⟩
end SH
end Go.Proofs.YtcpkeddgkpjioaaGreatDoor

namespace Go.Proofs.YtcpkeddgkpjioaaGreatDoor
namespace SL
open DK SH SQ
theorem put_perm {L : Fl} (h : (L.map (·.1)).Nodup) (n : Nm) (d : List UInt8) : (putF L n d).Perm ((n, d) :: delF L n) := by
 refine (List.perm_ext_iff_of_nodup (nodup_of_keys (putF_keys h n d)) ?_).2 (fun p => ?_)
 ·rw [List.nodup_cons]
  refine ⟨fun hm => ?_, nodup_of_keys (delF_keys h n)⟩
  have := (List.mem_filter.1 hm).2
  simp [bne] at this
 ·rw [putF_mem, List.mem_cons]
  unfold delF
  rw [List.mem_filter]
  simp [bne]
theorem used_cons (f : Nm × List UInt8) (L : Fl) : usedF (f :: L) = f.2.length + usedF L := rfl
theorem used_perm {L M : Fl} (h : L.Perm M) : usedF L = usedF M := by
 unfold usedF
 exact (h.map _).sum_nat
theorem used_del_le {L : Fl} (h : (L.map (·.1)).Nodup) (n : Nm) : usedF (delF L n) ≤ usedF L := by
 have := used_del h n
 omega
theorem putL_facts {L : Fl} (h : (L.map (·.1)).Nodup) (n : Nm) (d : List UInt8) : ((putL L n d).map (·.1)).Nodup ∧ (putL L n d).length ≤ L.length + 1 ∧ usedF (putL L n d) ≤ usedF L + d.length := by
 have hA : ((delF (putF L (tilde ++ n) d) (tilde ++ n)).map (·.1)).Nodup := delF_keys (putF_keys h _ _) _
 have pA : (delF (putF L (tilde ++ n) d) (tilde ++ n)).Perm (delF L (tilde ++ n)) := by
  refine (List.perm_ext_iff_of_nodup (nodup_of_keys hA) (nodup_of_keys (delF_keys h _))).2 (fun p => ?_)
  unfold delF
  rw [List.mem_filter, List.mem_filter, putF_mem]
  constructor
  ·rintro ⟨h1 | h1, h2⟩
   ·rw [h1] at h2; simp [bne] at h2
   ·exact ⟨h1.1, h2⟩
  ·rintro ⟨h1, h2⟩
   exact ⟨.inr ⟨h1, by simpa [bne] using h2⟩, h2⟩
 have lA : (delF (putF L (tilde ++ n) d) (tilde ++ n)).length ≤ L.length := by
  rw [pA.length_eq]; exact delF_len _ _
 have uA : usedF (delF (putF L (tilde ++ n) d) (tilde ++ n)) ≤ usedF L := by
  rw [used_perm pA]; exact used_del_le h _
 unfold putL
 generalize delF (putF L (tilde ++ n) d) (tilde ++ n) = A at *
 refine ⟨putF_keys hA n d, ?_, ?_⟩
 ·rw [(put_perm hA n d).length_eq]
  have := delF_len A n
  simp only [List.length_cons]; omega
 ·rw [used_perm (put_perm hA n d), used_cons]
  have := used_del_le hA n
  show d.length + _ ≤ _
  omega
/-- a unit that has never failed: u is its unit; at most k acts were done -/
def Fine (r : Int) (k : Nat) (u : U) (x : Un) : Prop := ∃ n L, x = ⟨⟨r, L, L, [], -1, false⟩, some ⟨u, n, false⟩⟩ ∧ (L.map (·.1)).Nodup ∧ L.length ≤ k ∧ usedF L ≤ 200 * k ∧ n ≤ k ∧ RepE (V L) u n
theorem Fine.new (r : Int) : Fine r 0 U.new ⟨newD r, some ⟨U.new, 0, false⟩⟩ := ⟨0, [], rfl, by simp, Nat.le_refl _, Nat.le_refl _, Nat.le_refl _, _, rep_new, Ueq.refl _⟩
theorem Fine.mono {r : Int} {k m : Nat} {u : U} {x : Un} (h : Fine r k u x) (hk : k ≤ m) : Fine r m u x := by
 obtain ⟨n, L, h1, h2, h3, h4, h5, h6⟩ := h
 exact ⟨n, L, h1, h2, by omega, by omega, by omega, h6⟩
/-- an act with such a unit -/
theorem Fine.act {r : Int} {k : Nat} {u : U} {x : Un} (h : Fine r k u x) (hk : k < 512) (hr : (200 * k + 200 : Nat) ≤ r) (a : Ac) :
  ∃ S D S' D', x = ⟨D, some S⟩ ∧ doS S D a = ((apU u a).1, if (apU u a).1 = 0 then (apU u a).2.1 else 0, S', D') ∧ Fine r (k + 1) (if (apU u a).1 = 0 then (apU u a).2.2 else u) ⟨D', some S'⟩ := by
 obtain ⟨n, L, rfl, h2, h3, h4, h5, h6⟩ := h
 by_cases hx : (apU u a).1 = 0
 ·rcases doS_cases (r := r) (L := L) (f := -1) (u := u) (n := n) (x := a) h2 (by omega) (by omega) (by omega) h6 hx with ⟨f', e, hf, hR⟩ | ⟨hf, _⟩
  ·have hf := hf rfl
   subst hf
   have hp := putL_facts h2 (nameN 114 n) a.put
   have hl := act_len (ap_check hx)
   refine ⟨⟨u, n, false⟩, ⟨r, L, L, [], -1, false⟩, ⟨(apU u a).2.2, n + 1, false⟩, ⟨r, putL L (nameN 114 n) a.put, putL L (nameN 114 n) a.put, [], -1, false⟩, rfl, ?_, ?_⟩
   ·rw [if_pos hx, e, hx]
   ·rw [if_pos hx]
    exact ⟨n + 1, putL L (nameN 114 n) a.put, rfl, hp.1, by omega, by omega, by omega, hR⟩
  ·exact absurd rfl hf
 ·refine ⟨⟨u, n, false⟩, ⟨r, L, L, [], -1, false⟩, ⟨u, n, false⟩, ⟨r, L, L, [], -1, false⟩, rfl, ?_, ?_⟩
  ·rw [if_neg hx]
   show doS ⟨u, n, false⟩ _ a = _
   unfold doS
   rw [if_neg (by simp), if_pos hx]
  ·rw [if_neg hx]
   exact Fine.mono (show Fine r k u _ from ⟨n, L, rfl, h2, h3, h4, h5, h6⟩) (Nat.le_succ k)
theorem Fine.read {r : Int} {k : Nat} {u : U} {x : Un} (h : Fine r k u x) : ∃ S D, x = ⟨D, some S⟩ ∧ ∀ e a, readS S D e a = u.read e a := by
 obtain ⟨n, L, rfl, h2, h3, h4, h5, h6⟩ := h
 refine ⟨_, _, rfl, fun e a => ?_⟩
 unfold readS
 have : looksS ⟨u, n, false⟩ ⟨r, L, L, [], -1, false⟩ = 0 := by unfold looksS; rw [if_neg (by simp)]
 rw [this, if_neg (by decide)]
def u1 : U := ⟨1, 0, []⟩
theorem ap1 : (apU U.new ⟨1, 1, 0, []⟩).1 = 0 ∧ (apU U.new ⟨1, 1, 0, []⟩).2.2 = u1 := by first | exact ⟨rfl, rfl⟩ | exact ⟨by kernel_rfl, by kernel_rfl⟩
def M1 (x : Un) (n : Int) : Cl := ⟨[x], ⟨1, [[0]]⟩, ⟨1, n⟩⟩
end SL
end Go.Proofs.YtcpkeddgkpjioaaGreatDoor
