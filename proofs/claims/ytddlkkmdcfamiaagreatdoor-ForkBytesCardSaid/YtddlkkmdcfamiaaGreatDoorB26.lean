/- Proved here: a part of the proof (26 of 35). -/
import Derived.Test.YtddlkkmdcfamiaaGreatDoorB24
import Derived.Test.YtddlkkmdcfamiaaGreatDoorB25
import Derived.Test.YtddlkkmdcfamiaaGreatDoorB12
import Derived.Test.YtddlkkmdcfamiaaGreatDoorB1
import Derived.Test.YtddlkkmdcfamiaaGreatDoorB7
import Derived.Test.YtddlkkmdcfamiaaGreatDoorB11
set_option linter.unusedSimpArgs false
set_option linter.unusedVariables false
set_option maxRecDepth 100000
namespace Go.Proofs.YtddlkkmdcfamiaaGreatDoor
open Go.RowKit

def entA (x : Ent) : Value := .agg #[.int .i64 x.1, .int .i64 x.2.1.k, .slice x.2.2.1 x.2.1.d.length x.2.2.2]
theorem rnone_any (x : Ent) (hl : x.2.1.d.length ≤ 9223372036854775807) (w : World) : Calls Tryz.prog 52 #[entA x] w fun e w' => e = .returned (.bool (noneE (noAd x))) ∧ Below w.heap.size w w' := by
 obtain ⟨xa, ⟨k, d⟩, da, dc⟩ := x
 simp only at hl
 unfold entA noneE noAd
 simp only
 by_cases h0 : k = 0
 ·subst h0
  go_enter Tryz.func52, Tryz.ntmps52
  go_wp2
  go_ret
  exact ⟨rfl, by go_grown⟩
 ·have h1 : (k == 0) = false := by rw [beq_eq_false_iff_ne]; exact h0
  cases h3 : (k == 3)
  all_goals
   go_enter Tryz.func52, Tryz.ntmps52
   go_wp2
   go_ret
   exact ⟨by simp [h1], by go_grown⟩
theorem cf_rnone (args : Array Value) (w : World) : (callFunc 52 args).run Tryz.prog w = .ok (.enter 52 args) w := by kernel_rfl
/-- an entry of a slice -/
theorem EL.at {w : World} {a : Option Addr} {c : Nat} {E : List Ent} (h : EL w a c E) {k : Nat} (hk : k < E.length) :
  ∃ b off, a = some ⟨b, off, none⟩ ∧ b < w.heap.size ∧ w.cell? ⟨b, off + k * 3, none⟩ = some (.int .i64 E[k].1) ∧ w.cell? ⟨b, off + k * 3 + 1, none⟩ = some (.int .i64 E[k].2.1.k) ∧
   w.cell? ⟨b, off + k * 3 + 2, none⟩ = some (.slice E[k].2.2.1 E[k].2.1.d.length E[k].2.2.2) ∧ E[k].2.1.d.length ≤ 9223372036854775807 := by
 obtain ⟨hsl, hby⟩ := h
 obtain ⟨b, off, rfl, hb, hc⟩ := SlV.row (s := 3) (fun _ => rfl) (by decide) hsl hk
 have c0 := hc 0 _ rfl; have c1 := hc 1 _ rfl; have c2 := hc 2 _ rfl
 simp only [Nat.add_zero] at c0
 exact ⟨b, off, rfl, hb, c0, c1, c2, bytes_len (hby _ (List.getElem_mem hk))⟩
set_option maxHeartbeats 1000000 in
theorem indexFE_any (E : List Ent) (a : Option Addr) (c : Nat) (w : World) (h : EL w a c E) :
  Calls Tryz.prog 97 #[.slice a E.length c, .func (.func 52) #[] #[]] w fun e w' => e = .returned (.int .i64 (idxB (fun x => noneE (noAd x)) E)) ∧ Below w.heap.size w w' := by
 have HS := Lib.hid' h
 have hlen := h.len
 have hcf := cf_rnone
 clear h
 go_enter Tryz.func97, Tryz.ntmps97
 go_wp2_with fail
 go_loopw [8] (fun v8 wr => ∃ k : Nat, v8 = .int .i64 k ∧ k ≤ E.length ∧ Hid (∀ y ∈ E.take k, noneE (noAd y) = false) ∧ Hid (Below w.heap.size w wr)) (fun v8 _ => E.length - (intOf v8).toNat)
 case atStart => exact ⟨0, rfl, Nat.zero_le _, Zh (by simp), Zh (Below.refl _ _)⟩
 case round =>
  obtain ⟨k, rfl, hk, HNO, HB⟩ := hrel
  by_cases hlt : k < E.length
  ·obtain ⟨b, off, rfl, hb, c0, c1, c2, hdl⟩ := (HS.out.below (Nat.le_refl _) HB.out).at hlt
   have HH := Zh (fun h2 => idxB_hit (f := fun x : Ent => noneE (noAd x)) hlt HNO.out h2)
   have HT := Zh (fun h2 => take_no (f := fun x : Ent => noneE (noAd x)) hlt HNO.out h2)
   generalize E[k] = y at *
   have HP := Zh (fun w => rnone_any y hdl w)
   unfold entA at HP
   go_wp2_with fail
   refine (HP.out _).mono ?_
   rintro e w2 ⟨rfl, hb2⟩
   have HB2 := Zh (HB.out.trans (hb2.mono HB.out.size))
   clear hb2
   cases hq : noneE (noAd y) with
   | true =>
    have HF := Zh (HH.out hq)
    go_wp2_with fail
    go_ret
    exact ⟨ret_eq (by rw [HF.out]; rfl), HB2.out⟩
   | false =>
    have HF := Zh (HT.out hq)
    go_wp2_with fail
    go_roundw
    case rel => exact ⟨k + 1, by go_num, by omega, HF, HB2⟩
    case measure => simp [intOf]; omega
  ·have HF := Zh (idxB_none (f := fun x : Ent => noneE (noAd x)) (by have := HNO.out; rwa [List.take_of_length_le (by omega)] at this))
   go_wp2_with fail
   go_ret
   exact ⟨ret_eq (by rw [HF.out]; rfl), HB.out⟩
theorem containsFE_any (E : List Ent) (a : Option Addr) (c : Nat) (w : World) (h : EL w a c E) :
  Calls Tryz.prog 53 #[.slice a E.length c, .func (.func 52) #[] #[]] w fun e w' => e = .returned (.bool ((docE E).any noneE)) ∧ Below w.heap.size w w' := by
 have HC := Zh (indexFE_any E a c w h)
 have HA := Zh (show E.any (fun x => noneE (noAd x)) = decide (0 ≤ idxB (fun x => noneE (noAd x)) E) from (idxB_any (fun x : Ent => noneE (noAd x)) E).symm)
 have HE := Zh (show (docE E).any noneE = E.any (fun x => noneE (noAd x)) by unfold docE; rw [List.any_map]; rfl)
 clear h
 rw [HE.out]
 go_enter Tryz.func53, Tryz.ntmps53
 go_wp2_with fail
 refine HC.out.mono ?_
 rintro e w' ⟨rfl, hb⟩
 have HB := Lib.hid' hb
 clear hb
 generalize idxB (fun x : Ent => noneE (noAd x)) E = i at *
 go_wp2
 go_ret
 exact ⟨ret_eq (by rw [HA.out]; rfl), HB.out⟩
theorem UnitAt.weak' {A A' : Nat → Prop} {w : World} {bu bm : Nat} {u : U} (h : UnitAt A w bu bm u) (hA : ∀ k, A' k → A k) (h1 : A' bu) (h2 : A' bm) : UnitAt A' w bu bm u := by
 obtain ⟨L, q1, q2⟩ := h.map
 exact ⟨h.blk, ⟨L, q1, q2.mono (fun x y _ _ ⟨r1, a, c, r2, r3, r4⟩ => ⟨r1, a, c, r2, r3, fun p hp => ⟨fun hk => (r4 p hp).1 (hA _ hk), (r4 p hp).2⟩⟩)⟩, h.ok, h1, h2⟩
def TakeUR (p : Nat × U) (w : World) (en : Ending) (w' : World) : Prop :=
 (p.1 ≠ 0 ∧ en = .returned (.tuple #[.pointer none, errV p.1]) ∧ Below w.heap.size w w') ∨
 (p.1 = 0 ∧ ∃ bu bm, en = .returned (.tuple #[.pointer (some ⟨bu, 0, none⟩), .nilIface]) ∧ w.heap.size ≤ bu ∧ w.heap.size ≤ bm ∧ UnitAt (fun k => k = bu ∨ k = bm ∨ k < w.heap.size) w' bu bm p.2 ∧ Below w.heap.size w w')
theorem within_le' (r : RD) (most : Nat) : (r.within most).1 ≤ most := by
 unfold RD.within
 split
 ·simp
 ·omega
theorem takeU_1 {b : List UInt8} {n : Nat} (h : (fone b).1 = n) (hn : n ≠ 0) : takeU b = (n, U.zero) := by subst h; unfold takeU; rw [if_pos hn]
theorem takeU_2 {b : List UInt8} {u : U} {r : RD} {n : Nat} (h : (fone b).1 = 0) (hu : readU ⟨(fone b).2, 0⟩ = (u, r)) (hr : r.fin = n) (hn : n ≠ 0) : takeU b = (n, U.zero) := by
 subst hr; unfold takeU; rw [if_neg (by simpa using h), hu, if_pos hn]
theorem takeU_3 {b : List UInt8} {u : U} {r : RD} (h : (fone b).1 = 0) (hu : readU ⟨(fone b).2, 0⟩ = (u, r)) (hr : r.fin = 0) (hn : u.cells.any noneE = true) : takeU b = (2, U.zero) := by
 unfold takeU; rw [if_neg (by simpa using h), hu, if_neg (by simpa using hr), if_pos hn]
theorem takeU_4 {b : List UInt8} {u : U} {r : RD} (h : (fone b).1 = 0) (hu : readU ⟨(fone b).2, 0⟩ = (u, r)) (hr : r.fin = 0) (hn : ¬ u.cells.any noneE = true) : takeU b = (0, u) := by
 unfold takeU; rw [if_neg (by simpa using h), hu, if_neg (by simpa using hr), if_neg hn]
set_option maxHeartbeats 4000000 in
theorem rtakeu_any (b : List UInt8) (a : Option Addr) (c : Nat) (w : World) (h : Bytes w (.slice a b.length c) b) : Calls Tryz.prog 22 #[.slice a b.length c] w (TakeUR (takeU b) w) := by
 have HD := Lib.hid' h
 have hbl := bytes_len h
 have hfo := fone_any b a c w h
 clear h
 unfold FOneR at hfo
 obtain ⟨p, hp⟩ : ∃ p, p = takeU b := ⟨_, rfl⟩
 have HP := Lib.hid' hp
 rw [← hp]
 clear hp
 obtain ⟨f1, hf1⟩ : ∃ n, n = (fone b).1 := ⟨_, rfl⟩
 obtain ⟨t, ht⟩ : ∃ t, t = (fone b).2 := ⟨_, rfl⟩
 rw [← hf1, ← ht] at hfo
 have HF1 := Lib.hid' hf1
 have HT := Lib.hid' ht
 have HFO := Lib.hid' hfo
 clear hf1 ht hfo
 have HERR := Zh (show ∀ n wq, n ≠ 0 → p = (n, U.zero) → Below w.heap.size w wq → TakeUR p w (.returned (.tuple #[.pointer none, errV n])) wq from fun n wq hn hpe hq => by
  subst hpe; exact .inl ⟨hn, rfl, hq⟩)
 go_enter Tryz.func22, Tryz.ntmps22
 go_wp2_with fail
 refine HFO.out.mono ?_
 clear HFO
 rintro en w2 ⟨a2, c2, rfl, hy2, hb2⟩
 have HY2 := Lib.hid' hy2
 have HB2 := Lib.hid' hb2
 clear hy2 hb2
 by_cases hf0 : f1 = 0
 rotate_left
 ·have HE := Zh (HERR.out f1 w2 hf0 (by rw [HP.out]; exact takeU_1 HF1.out.symm hf0) HB2.out)
  rw [errV_pos hf0] at HE ⊢
  clear hf0
  go_wp2
  go_ret2
  exact HE.out
 have HF0 := Zh (show (fone b).1 = 0 from HF1.out.symm.trans hf0)
 rw [hf0, errV_0]
 clear hf0 HF1
 go_wp2_with fail
 refine (vNew_any t a2 c2 w2 HY2.out).mono ?_
 rintro en w3 ⟨rfl, hr3, hb3, hz3⟩
 obtain ⟨bR, hbR⟩ : ∃ q, q = w2.heap.size := ⟨_, rfl⟩
 have HR3 := Zh (show RAt w3 bR ⟨t, 0⟩ by rw [hbR]; exact hr3)
 have HB3 := Zh (HB2.out.trans (hb3.mono HB2.out.size))
 have hwb : w.heap.size ≤ bR := by rw [hbR]; exact HB2.out.size
 simp only [← hbR]
 clear hr3 hb3 hz3 hbR HB2 HY2
 obtain ⟨e0, he0⟩ : ∃ e0, e0 = (RD.within ⟨t, 0⟩ 1099511627776).1 := ⟨_, rfl⟩
 obtain ⟨s1, hs1⟩ : ∃ s, s = (RD.within ⟨t, 0⟩ 1099511627776).2 := ⟨_, rfl⟩
 have hwi := within_r_any bR ⟨t, 0⟩ 1099511627776 (by decide) w3 HR3.out
 rw [← he0, ← hs1] at hwi
 have he1 : e0 ≤ 1099511627776 := by rw [he0]; exact within_le' _ _
 have HWI := Lib.hid' hwi
 have HE0 := Zh (show RD.within ⟨t, 0⟩ 1099511627776 = (e0, s1) by rw [he0, hs1])
 clear hwi he0 hs1
 go_wp2_with fail
 refine HWI.out.mono ?_
 clear HWI
 rintro en w4 ⟨rfl, hr4, hf4⟩
 have HR4 := Lib.hid' hr4
 have HB4 := Zh (HB3.out.trans (hf4.below HB3.out.size (fun q hq => by omega)))
 clear hr4 hf4 HB3 HR3
 obtain ⟨l0, hl0⟩ : ∃ l0, l0 = (RD.within s1 1048576).1 := ⟨_, rfl⟩
 obtain ⟨s2, hs2⟩ : ∃ s, s = (RD.within s1 1048576).2 := ⟨_, rfl⟩
 have hwi := within_r_any bR s1 1048576 (by decide) w4 HR4.out
 rw [← hl0, ← hs2] at hwi
 have hl1 : l0 ≤ 1048576 := by rw [hl0]; exact within_le' _ _
 have HWI := Lib.hid' hwi
 have HL0 := Zh (show RD.within s1 1048576 = (l0, s2) by rw [hl0, hs2])
 clear hwi hl0 hs2
 go_wp2_with fail
 refine HWI.out.mono ?_
 clear HWI
 rintro en w5 ⟨rfl, hr5, hf5⟩
 have HR5 := Lib.hid' hr5
 have HB5 := Zh (HB4.out.trans (hf5.below HB4.out.size (fun q hq => by omega)))
 clear hr5 hf5 HB4 HR4
 obtain ⟨x, hx⟩ : ∃ x, x = RD.ents (min s2.num.1 65536) (l0 : Nat) (if 65536 < s2.num.1 then s2.num.2.fail 3 else s2.num.2) [] := ⟨_, rfl⟩
 have hen := rents_any bR s2 (l0 : Nat) (by omega) (by omega) w5 HR5.out
 rw [← hx] at hen
 have HU := Zh (show readU ⟨(fone b).2, 0⟩ = (⟨(e0 : Nat), (l0 : Nat), x.1⟩, x.2) by
  rw [← HT.out, hx]
  unfold readU
  simp only [HE0.out, HL0.out])
 have HEN := Lib.hid' hen
 clear hen hx HE0 HL0
 obtain ⟨L, r⟩ := x
 simp only at HU
 go_wp2_with fail
 refine HEN.out.mono ?_
 clear HEN
 rintro en w6 ⟨E, ea, ec, rfl, hde, ho, hoe, hr6, hf6⟩
 simp only at hde hr6
 have HR6 := Lib.hid' hr6
 have HB6 := Zh (HB5.out.trans (hf6.below HB5.out.size (fun q hq => by omega)))
 have HEL := Zh (show EL w6 ea ec E from ⟨SlV.of_own ho, fun x hx => SlV.of_own (hoe x hx)⟩)
 have HDE := Lib.hid' hde
 have hel := HEL.out.len
 clear hde ho hoe hr6 hf6 HB5 HR5
 obtain ⟨fn, hfn⟩ : ∃ n, n = r.fin := ⟨_, rfl⟩
 have HFN := Lib.hid' hfn
 have hed := end_any bR r w6 HR6.out
 rw [← hfn] at hed
 have HED := Lib.hid' hed
 clear hed hfn
 go_wp2_with fail
 refine HED.out.mono ?_
 clear HED
 rintro en wz ⟨rfl, rfl⟩
 by_cases hfn0 : fn = 0
 rotate_left
 ·have HE := Zh (HERR.out fn w6 hfn0 (by rw [HP.out]; exact takeU_2 HF0.out HU.out HFN.out.symm hfn0) HB6.out)
  rw [errV_pos hfn0] at HE ⊢
  clear hfn0
  go_wp2
  go_ret2
  exact HE.out
 have HFN0 := Zh (show r.fin = 0 from HFN.out.symm.trans hfn0)
 rw [hfn0, errV_0]
 clear hfn0 HFN
 have hcn := containsFE_any E ea ec w6 HEL.out
 rw [HDE.out] at hcn
 have HCN := Lib.hid' hcn
 clear hcn
 go_wp2_with fail
 refine HCN.out.mono ?_
 clear HCN
 rintro en w7 ⟨rfl, hb7⟩
 have HB7 := Zh (HB6.out.trans (hb7.mono HB6.out.size))
 have HEL7 := Zh (HEL.out.below (Nat.le_refl _) hb7)
 clear hb7 HB6 HEL
 cases hnn : L.any noneE with
 | true =>
  have HE := Zh (HERR.out 2 w7 (by decide) (by rw [HP.out]; exact takeU_3 HF0.out HU.out HFN0.out hnn) HB7.out)
  clear hnn
  go_wp2
  go_ret2
  exact HE.out
 | false =>
  have HPE := Zh (show p = (0, ⟨(e0 : Nat), (l0 : Nat), L⟩) by rw [HP.out]; exact takeU_4 HF0.out HU.out HFN0.out (by simp only; rw [hnn]; decide))
  have HOK := Zh (takeU_ok (HP.out.symm.trans HPE.out)).1
  simp only at HOK
  have hof := of_good (e0 : Nat) (l0 : Nat) E ea ec w7 HEL7.out (by rw [HDE.out]; exact HOK.out)
  have HOF := Lib.hid' hof
  clear hof hnn
  go_wp2_with fail
  refine HOF.out.mono ?_
  clear HOF
  rintro en w8 ⟨bu, bm, rfl, g1, g2, hu, hb8⟩
  have HZ := Lib.hid' HB7.out.size
  have HU8 := Lib.hid' hu
  have HB8 := Zh (HB7.out.trans (hb8.mono HB7.out.size))
  have HG := Zh (And.intro g1 g2)
  clear hu hb8 g1 g2
  go_wp2
  go_ret2
  rw [HPE.out]
  refine .inr ⟨rfl, bu, bm, rfl, Nat.le_trans HZ.out HG.out.1, Nat.le_trans HZ.out HG.out.2, ?_, HB8.out⟩
  have := HU8.out
  rw [HDE.out] at this
  exact this.weak' (fun k hk => by rcases hk with h | h | h; exact .inl h; exact .inr (.inl h); exact .inr (.inr (Nat.lt_of_lt_of_le h HZ.out))) (.inl rfl) (.inr (.inl rfl))
end Go.Proofs.YtddlkkmdcfamiaaGreatDoor

namespace Go.Proofs.YtddlkkmdcfamiaaGreatDoor
open Go.RowKit

def CPutR (t : List UInt8) (w : World) (e : Ending) (w' : World) : Prop :=
 ∃ a c, e = .returned (.tuple #[.slice a t.length c, .nilIface]) ∧ w'.ownsRow w.heap.size 5 1 (.slice a t.length c) t.length (byteVs t) ∧ Below w.heap.size w w'
set_option maxHeartbeats 4000000 in
theorem cput_any (b : List UInt8) (a : Option Addr) (bc : Nat) (c : C) (da : Option Addr) (dc : Nat) (w : World) (h : Bytes w (.slice a b.length bc) b) (hd : Bytes w (.slice da c.d.length dc) c.d) (hc : c.check = 0) (hb : b.length ≤ 536870912) :
  Calls Tryz.prog 68 #[.slice a b.length bc, .agg #[.int .i64 c.k, .slice da c.d.length dc]] w (CPutR (b ++ cellB c) w) := by
 have HD := Lib.hid' h
 have HDD := Lib.hid' hd
 have HCK := Zh (fun wq hq => check_any (.agg #[.int .i64 c.k, .slice da c.d.length dc]) c wq hq)
 rw [hc] at HCK
 obtain ⟨g1, g2, g3, g4⟩ := check_parts hc
 clear h hd hc
 obtain ⟨k, d⟩ := c
 simp only at HDD HCK g1 g2 g3 g4 ⊢
 obtain ⟨k, rfl⟩ : ∃ n : Nat, k = n := ⟨k.toNat, by omega⟩
 have hvl := vb_len_le (n := k) (k := 1) (by decide) (by omega)
 clear g4
 by_cases hk1 : k = 1
 ·skip
  subst hk1
  go_enter Tryz.func68, Tryz.ntmps68
  go_wp2_with fail
  have H0 : Sep w NoF [] w := Sep.start _
  have H1 : Sep w NoF [.box (w.heap.size) [.int .i64 1, .slice da d.length dc] 36] ((w.alloc (.cells #[.int .i64 1, .slice da d.length dc] 36))) := (H0.allocAt (w.heap.size) [.int .i64 1, .slice da d.length dc] 36 (by simp))
  clear H0
  generalize (w.alloc (.cells #[.int .i64 1, .slice da d.length dc] 36)) = w1 at *
  refine (HCK.out w1 ⟨da, dc, rfl, H1.oldBytes HDD.out⟩).mono ?_
  rintro e w2 ⟨rfl, hb2⟩
  have H2 : Sep w NoF [.box (w.heap.size) [.int .i64 1, .slice da d.length dc] 36] (w2) := (H1.below hb2)
  clear H1 hb2
  rw [errV_0]
  have Xc0 := H2.cell 0 rfl 0 rfl
  have Xc1 := H2.cell 0 rfl 1 rfl
  have Xl := H2.lt 0 rfl
  go_wp2_with fail
  have hU := us_one w2 1 107
  have HU := Lib.hid' hU
  clear hU
  have H3 : Sep w NoF [.box (w.heap.size) [.int .i64 1, .slice da d.length dc] 36] ((w2.alloc (.cells #[.int .u64 1] 107))) := (H2.allocX (.cells #[.int .u64 1] 107))
  clear Xc0 Xc1 Xl
  clear H2
  generalize (w2.alloc (.cells #[.int .u64 1] 107)) = w3 at *
  refine (vPut_any b a bc [1] _ _ w3 (H3.oldBytes HD.out) HU.out (by intro n hn; simp only [List.mem_singleton] at hn; omega) (by omega) (by simp)).mono ?_
  rintro e w4 ⟨a4, c4, rfl, ho, hb4⟩
  have HVB := Zh (show b ++ vbs [1] = b ++ vb 1 by simp [vbs])
  rw [HVB.out] at ho ⊢
  clear HVB HU
  have H4 : Sep w NoF [.row 5 1 (.slice a4 (b ++ vb 1).length c4) ((b ++ vb 1).length) (byteVs (b ++ vb 1)), .box (w.heap.size) [.int .i64 1, .slice da d.length dc] 36] (w4) := (H3.belowRow hb4 ho)
  clear H3 hb4 ho
  obtain ⟨t, ht⟩ : ∃ t, t = b ++ vb 1 := ⟨_, rfl⟩
  have HT := Lib.hid' ht
  have htl : t.length ≤ 536870913 := by rw [ht, List.length_append]; omega
  rw [← ht] at H4 ⊢
  clear ht
  have Xc0 := H4.cell 1 rfl 0 rfl
  have Xc1 := H4.cell 1 rfl 1 rfl
  have Xl := H4.lt 1 rfl
  go_wp2_with fail
  have hbt : Bytes w4 (.slice a4 t.length c4) t := SlV.of_own (H4.row 0 rfl)
  refine (vPutText_any t d a4 da c4 dc w4 hbt (H4.oldBytes HDD.out) (by omega) (by omega)).mono ?_
  rintro e w5 ⟨a5, c5, rfl, ho, hb5⟩
  have HRR := Zh (show t ++ headB d = b ++ cellB ⟨((1 : Nat) : Int), d⟩ by rw [HT.out]; unfold cellB; simp)
  rw [HRR.out] at ho ⊢
  have H5 : Sep w NoF [.row 5 1 (.slice a5 (b ++ cellB ⟨((1 : Nat) : Int), d⟩).length c5) ((b ++ cellB ⟨((1 : Nat) : Int), d⟩).length) (byteVs (b ++ cellB ⟨((1 : Nat) : Int), d⟩)), .row 5 1 (.slice a4 t.length c4) (t.length) (byteVs t), .box (w.heap.size) [.int .i64 1, .slice da d.length dc] 36] (w5) := (H4.belowRow hb5 ho)
  clear Xc0 Xc1 Xl
  clear H4 hbt hb5 ho
  generalize b ++ cellB ⟨((1 : Nat) : Int), d⟩ = x at *
  go_wp2
  go_ret2
  exact ⟨a5, c5, rfl, H5.own 0 rfl, H5.toBelow⟩
 have hkb : ((k : Int) == 1) = false := by rw [beq_eq_false_iff_ne]; omega
 go_enter Tryz.func68, Tryz.ntmps68
 go_wp2_with fail
 have H0 : Sep w NoF [] w := Sep.start _
 have H1 : Sep w NoF [.box (w.heap.size) [.int .i64 (k : Int), .slice da d.length dc] 36] ((w.alloc (.cells #[.int .i64 (k : Int), .slice da d.length dc] 36))) := (H0.allocAt (w.heap.size) [.int .i64 (k : Int), .slice da d.length dc] 36 (by simp))
 clear H0
 generalize (w.alloc (.cells #[.int .i64 (k : Int), .slice da d.length dc] 36)) = w1 at *
 refine (HCK.out w1 ⟨da, dc, rfl, H1.oldBytes HDD.out⟩).mono ?_
 rintro e w2 ⟨rfl, hb2⟩
 have H2 : Sep w NoF [.box (w.heap.size) [.int .i64 (k : Int), .slice da d.length dc] 36] (w2) := (H1.below hb2)
 clear H1 hb2
 rw [errV_0]
 have Xc0 := H2.cell 0 rfl 0 rfl
 have Xc1 := H2.cell 0 rfl 1 rfl
 have Xl := H2.lt 0 rfl
 go_wp2_with fail
 have hU := us_one w2 k 107
 have HU := Lib.hid' hU
 clear hU
 have H3 : Sep w NoF [.box (w.heap.size) [.int .i64 (k : Int), .slice da d.length dc] 36] ((w2.alloc (.cells #[.int .u64 (k : Int)] 107))) := (H2.allocX (.cells #[.int .u64 (k : Int)] 107))
 clear Xc0 Xc1 Xl
 clear H2
 generalize (w2.alloc (.cells #[.int .u64 (k : Int)] 107)) = w3 at *
 refine (vPut_any b a bc [k] _ _ w3 (H3.oldBytes HD.out) HU.out (by intro n hn; simp only [List.mem_singleton] at hn; omega) (by omega) (by simp)).mono ?_
 rintro e w4 ⟨a4, c4, rfl, ho, hb4⟩
 have HVB := Zh (show b ++ vbs [k] = b ++ vb k by simp [vbs])
 rw [HVB.out] at ho ⊢
 clear HVB HU
 have H4 : Sep w NoF [.row 5 1 (.slice a4 (b ++ vb k).length c4) ((b ++ vb k).length) (byteVs (b ++ vb k)), .box (w.heap.size) [.int .i64 (k : Int), .slice da d.length dc] 36] (w4) := (H3.belowRow hb4 ho)
 clear H3 hb4 ho
 obtain ⟨t, ht⟩ : ∃ t, t = b ++ vb k := ⟨_, rfl⟩
 have HT := Lib.hid' ht
 have htl : t.length ≤ 536870913 := by rw [ht, List.length_append]; omega
 rw [← ht] at H4 ⊢
 clear ht
 have Xc0 := H4.cell 1 rfl 0 rfl
 have Xc1 := H4.cell 1 rfl 1 rfl
 have Xl := H4.lt 1 rfl
 have HRR := Zh (show t = b ++ cellB ⟨(k : Int), d⟩ by rw [HT.out]; unfold cellB; simp; omega)
 go_wp2
 go_ret2
 rw [← HRR.out]
 exact ⟨a4, c4, rfl, H4.own 0 rfl, H4.toBelow⟩
/-- what follows behind entries -/
def nextF (f : Int) (L : List (Int × C)) : Int := match L.getLast? with | none => f | some p => p.1 + 1
theorem entsB_snoc : ∀ (L : List (Int × C)) (f : Int) (p : Int × C), entsB f (L ++ [p]) = entsB f L ++ (vb (p.1 - nextF f L).toNat ++ cellB p.2)
 | [], f, p => by simp [entsB, nextF]
 | q :: L, f, p => by
  simp only [List.cons_append, entsB]
  rw [entsB_snoc L (q.1 + 1) p]
  have : nextF f (q :: L) = nextF (q.1 + 1) L := by
   unfold nextF
   cases L with
   | nil => rfl
   | cons r L => rw [List.getLast?_cons_cons]; cases h : (r :: L).getLast? with
    | none => simp at h
    | some x => rfl
  rw [this]
  simp only [List.append_assoc]
theorem nextF_snoc (L : List (Int × C)) (f : Int) (p : Int × C) : nextF f (L ++ [p]) = p.1 + 1 := by unfold nextF; simp
theorem right_take {f : Int} {L : List (Int × C)} (h : RightL f L) (k : Nat) : RightL f (L.take k) := ⟨fun p hp => h.1 p (List.mem_of_mem_take hp), h.2.sublist (List.take_sublist _ _)⟩
theorem nextF_le {f : Int} {L : List (Int × C)} (h : RightL f L) {k : Nat} (hk : k < L.length) : f ≤ nextF f (L.take k) ∧ nextF f (L.take k) ≤ L[k].1 := by
 cases k with
 | zero => exact ⟨by simp [nextF], by simp only [List.take_zero]; exact (h.1 _ (List.getElem_mem hk)).1⟩
 | succ j =>
  rw [List.take_succ_eq_append_getElem (by omega), nextF_snoc]
  have h1 := (h.1 _ (List.getElem_mem (l := L) (n := j) (by omega))).1
  have h2 := List.pairwise_iff_getElem.1 h.2 j (j + 1) (by omega) hk (by omega)
  omega
def PutUR (p : Nat × List UInt8) (w : World) (en : Ending) (w' : World) : Prop :=
 ∃ a c, en = .returned (.tuple #[.slice a p.2.length c, errV p.1]) ∧ w'.ownsRow w.heap.size 5 1 (.slice a p.2.length c) p.2.length (byteVs p.2) ∧ Below w.heap.size w w'
theorem us_three (w : World) (x y z : Nat) (t : Nat) : Us (w.alloc (.cells #[.int .u64 (x : Int), .int .u64 (y : Int), .int .u64 (z : Int)] t)) (.slice (some ⟨w.heap.size, 0, none⟩) 3 3) [x, y, z] :=
 SlV.new w [.int .u64 (x : Int), .int .u64 (y : Int), .int .u64 (z : Int)] 3 t (by decide)
set_option maxHeartbeats 8000000 in
theorem rputu_any {A : Nat → Prop} {bu bm : Nat} {u : U} (w : World) (h : UnitAt A w bu bm u) (hof : ofErr u.e u.l (sortC u.cells) = 0) (hlen : u.cells.length ≤ 65536) :
  Calls Tryz.prog 32 #[.pointer (some ⟨bu, 0, none⟩)] w (PutUR (putU u.e u.l (sortC u.cells)) w) := by
 obtain ⟨r1, r2, r3, r4, hR, _⟩ := right_of hof
 have HU := Lib.hid' h
 have HEN := Zh (entries_any w h (by omega))
 have hml : (sortC u.cells).length ≤ 65536 := by rw [sortC_len]; exact hlen
 clear h hof hlen
 obtain ⟨M, hM⟩ : ∃ M, M = sortC u.cells := ⟨_, rfl⟩
 have HMM := Lib.hid' hM
 rw [← hM] at hR hml ⊢
 clear hM
 obtain ⟨en', hen⟩ : ∃ n : Nat, u.e = n := ⟨u.e.toNat, by omega⟩
 obtain ⟨ln, hln⟩ : ∃ n : Nat, u.l = n := ⟨u.l.toNat, by omega⟩
 have HE1 := Zh (fun wq hq => epoch_any (u := u) (A := A) (bu := bu) (bm := bm) wq hq)
 have HL1 := Zh (fun wq hq => low_any (u := u) (A := A) (bu := bu) (bm := bm) wq hq)
 rw [hen] at HE1 r1 r2 ⊢
 rw [hln] at HL1 hR r3 r4 ⊢
 have HRL := Lib.hid' hR
 clear hR hen hln
 go_enter Tryz.func32, Tryz.ntmps32
 go_wp2_with fail
 refine HEN.out.mono ?_
 clear HEN
 rintro en w1 ⟨E, ea, ec, rfl, hem, ho, hoe, hb1⟩
 have HEM := Zh (show E.map noAd = M from hem.trans HMM.out.symm)
 have hel : E.length = M.length := by rw [← HEM.out, List.length_map]
 have HELM := Lib.hid' hel
 have hel2 : E.length ≤ 65536 := by omega
 have HEL := Zh (show EL w1 ea ec E from ⟨SlV.of_own ho, fun x hx => SlV.of_own (hoe x hx)⟩)
 have HU1 := Zh (HU.out.below (Nat.le_refl _) hb1)
 have HB1 := Lib.hid' hb1
 clear hem ho hoe hb1 HU HMM hel
 go_wp2_with fail
 refine (HE1.out _ HU1.out).mono ?_
 rintro en wz ⟨rfl, rfl⟩
 go_wp2_with fail
 refine (HL1.out _ HU1.out).mono ?_
 rintro en wz ⟨rfl, rfl⟩
 go_wp2_with fail
 have HUS := Zh (us_three w1 en' ln E.length 107)
 have H0 : Sep w1 NoF [] w1 := Sep.start _
 have H1 : Sep w1 NoF [] ((w1.alloc (.cells #[.int .u64 (en' : Int), .int .u64 (ln : Int), .int .u64 (E.length : Int)] 107))) := (H0.allocX (.cells #[.int .u64 (en' : Int), .int .u64 (ln : Int), .int .u64 (E.length : Int)] 107))
 clear H0
 generalize (w1.alloc (.cells #[.int .u64 (en' : Int), .int .u64 (ln : Int), .int .u64 (E.length : Int)] 107)) = w2 at *
 refine (vPut_any [] none 0 [en', ln, E.length] _ _ w2 (SlV.empty _ _ _ (Nat.zero_le _) (fun _ => rfl)) HUS.out (by intro n hn; simp only [List.mem_cons, List.not_mem_nil, or_false] at hn; omega) (by simp) (by simp)).mono ?_
 rintro e w3 ⟨a3, c3, rfl, ho, hb3⟩
 obtain ⟨t0, ht0⟩ : ∃ t0, t0 = [] ++ vbs [en', ln, E.length] := ⟨_, rfl⟩
 have htl : t0.length ≤ 30 := by rw [ht0, List.nil_append]; exact Nat.le_trans (vbs_len (by intro n hn; simp only [List.mem_cons, List.not_mem_nil, or_false] at hn; omega)) (by simp)
 have HT0 := Zh (show t0 ++ entsB (ln : Int) M = unitB (en' : Int) (ln : Int) M by
  rw [ht0]; unfold unitB vbs; rw [HELM.out]; simp)
 rw [← ht0] at ho ⊢
 clear ht0 HUS
 have H2 : Sep w1 NoF [.row 5 1 (.slice a3 t0.length c3) (t0.length) (byteVs t0)] (w3) := (H1.belowRow hb3 ho)
 clear H1 hb3 ho
 go_wp2_with fail
 refine (HL1.out w3 (HU1.out.below (Nat.le_refl _) H2.toBelow)).mono ?_
 rintro en wz ⟨rfl, rfl⟩
 go_wp2_with fail
 go_loopw [31, 5, 6] (fun v31 v5 v6 wr => ∃ (k : Nat) (t : List UInt8) (ba : Option Addr) (bc : Nat) (f : Int), v31 = .int .i64 k ∧ k ≤ E.length ∧ v5 = .slice ba t.length bc ∧ v6 = .int .i64 f ∧ Hid (t = t0 ++ entsB (ln : Int) (M.take k)) ∧ Hid (f = nextF (ln : Int) (M.take k)) ∧ Sep w1 NoF [.row 5 1 (.slice ba t.length bc) t.length (byteVs t)] wr) (fun v31 _ _ _ => E.length - (intOf v31).toNat)
 case atStart => exact ⟨0, t0, a3, c3, ln, rfl, Nat.zero_le _, rfl, rfl, Zh (by simp [entsB]), Zh (by simp [nextF]), H2⟩
 case round =>
  clear H2
  obtain ⟨k, t, ba, bc, f, rfl, hk, rfl, rfl, HT, HF, H0⟩ := hrel
  have htl2 : t.length ≤ 30 + 90 * k := by
   rw [HT.out, List.length_append]
   have := entsB_len (M.take k) (ln : Int) r3 (right_take HRL.out k)
   have h2 : (M.take k).length ≤ k := by rw [List.length_take]; omega
   omega
  by_cases hlt : k < E.length
  ·skip
   have hkm : k < M.length := by have := HELM.out; omega
   obtain ⟨eb, off, rfl, hebl, c0, c1, c2, hdl⟩ := (HEL.out.below (Nat.le_refl _) H0.toBelow).at hlt
   have HBY := Zh (HEL.out.2 _ (List.getElem_mem hlt))
   have HX := Zh (show M[k] = noAd E[k] by
    have h5 := HEM.out
    subst h5
    simp)
   obtain ⟨n1, n2⟩ := nextF_le HRL.out hkm
   obtain ⟨x1, x2, x3⟩ := HRL.out.1 _ (List.getElem_mem hkm)
   have HSN := Zh (show entsB (ln : Int) (M.take (k + 1)) = entsB (ln : Int) (M.take k) ++ (vb (M[k].1 - nextF (ln : Int) (M.take k)).toNat ++ cellB M[k].2) by rw [List.take_succ_eq_append_getElem hkm, entsB_snoc])
   have HNN := Zh (show nextF (ln : Int) (M.take (k + 1)) = M[k].1 + 1 by rw [List.take_succ_eq_append_getElem hkm, nextF_snoc])
   rw [HX.out] at HSN HNN n2 x1 x2 x3
   rw [← HF.out] at HSN n1 n2
   clear HX
   generalize E[k] = x at *
   obtain ⟨xa, xc, xd, xn⟩ := x
   unfold noAd at HSN HNN n2 x1 x2 x3
   simp only at HSN HNN n2 x1 x2 x3 c0 c1 c2 hdl HBY
   obtain ⟨dn, hdn⟩ : ∃ n : Nat, xa - f = n := ⟨(xa - f).toNat, by omega⟩
   have HDN := Zh (show (xa - f).toNat = dn by omega)
   rw [HDN.out] at HSN
   have hdn2 : dn < 1048576 := by omega
   have HDD := Lib.hid' hdn
   clear hdn
   go_upto_region 9 with fail
   have H1 : Sep w1 NoF [.box (wr.heap.size) [.int .i64 xa, .int .i64 xc.k, .slice xd xc.d.length xn] 73, .row 5 1 (.slice ba t.length bc) (t.length) (byteVs t)] ((wr.alloc (.cells #[.int .i64 xa, .int .i64 xc.k, .slice xd xc.d.length xn] 73))) := (H0.allocAt (wr.heap.size) [.int .i64 xa, .int .i64 xc.k, .slice xd xc.d.length xn] 73 (by simp))
   clear H0 c0 c1 c2
   generalize (wr.alloc (.cells #[.int .i64 xa, .int .i64 xc.k, .slice xd xc.d.length xn] 73)) = w4 at *
   have Xc0 := H1.cell 0 rfl 0 rfl
   have Xc1 := H1.cell 0 rfl 1 rfl
   have Xc2 := H1.cell 0 rfl 2 rfl
   have Xl := H1.lt 0 rfl
   have hs1 : IntKind.i64.wrap (xa - f) = (dn : Int) := by rw [HDD.out]; exact IntWalk.i64_in _ (by omega)
   have hs2 : IntKind.i64.wrap (xa + -f) = (dn : Int) := by rw [show xa + -f = xa - f by omega]; exact hs1
   go_wp2_with fail
   have HU2 := Zh (us_one w4 dn 107)
   have H2 : Sep w1 NoF [.box (wr.heap.size) [.int .i64 xa, .int .i64 xc.k, .slice xd xc.d.length xn] 73, .row 5 1 (.slice ba t.length bc) (t.length) (byteVs t)] ((w4.alloc (.cells #[.int .u64 (dn : Int)] 107))) := (H1.allocX (.cells #[.int .u64 (dn : Int)] 107))
   clear Xc0 Xc1 Xc2 Xl
   clear H1
   generalize (w4.alloc (.cells #[.int .u64 (dn : Int)] 107)) = w5 at *
   have hbt : Bytes w5 (.slice ba t.length bc) t := SlV.of_own (H2.row 1 rfl)
   refine (vPut_any t ba bc [dn] _ _ w5 hbt HU2.out (by intro n hn; simp only [List.mem_singleton] at hn; omega) (by omega) (by simp)).mono ?_
   rintro en w6 ⟨a6, c6, rfl, ho, hb6⟩
   have hvl := vb_len_le (n := dn) (k := 3) (by decide) (by omega)
   have HVB := Zh (show t ++ vbs [dn] = t ++ vb dn by simp [vbs])
   rw [HVB.out] at ho ⊢
   clear HVB HU2 hs1 hs2
   have H3 : Sep w1 NoF [.row 5 1 (.slice a6 (t ++ vb dn).length c6) ((t ++ vb dn).length) (byteVs (t ++ vb dn)), .box (wr.heap.size) [.int .i64 xa, .int .i64 xc.k, .slice xd xc.d.length xn] 73, .row 5 1 (.slice ba t.length bc) (t.length) (byteVs t)] (w6) := (H2.belowRow hb6 ho)
   clear H2 hbt hb6 ho
   have HT2 := Zh (show (t ++ vb dn).length ≤ 536870912 by rw [List.length_append]; omega)
   obtain ⟨t2, ht2⟩ : ∃ t2, t2 = t ++ vb dn := ⟨_, rfl⟩
   rw [← ht2] at H3 HT2 ⊢
   have HTT := Lib.hid' ht2
   clear ht2
   have Xc0 := H3.cell 1 rfl 0 rfl
   have Xc1 := H3.cell 1 rfl 1 rfl
   have Xc2 := H3.cell 1 rfl 2 rfl
   have Xl := H3.lt 1 rfl
   go_wp2_with fail
   have hbt : Bytes w6 (.slice a6 t2.length c6) t2 := SlV.of_own (H3.row 0 rfl)
   refine (cput_any t2 a6 c6 xc xd xn w6 hbt (H3.oldBytes HBY.out) x3 HT2.out).mono ?_
   rintro en w7 ⟨a7, c7, rfl, ho, hb7⟩
   have H4 : Sep w1 NoF [.row 5 1 (.slice a7 (t2 ++ cellB xc).length c7) ((t2 ++ cellB xc).length) (byteVs (t2 ++ cellB xc)), .row 5 1 (.slice a6 t2.length c6) (t2.length) (byteVs t2), .box (wr.heap.size) [.int .i64 xa, .int .i64 xc.k, .slice xd xc.d.length xn] 73, .row 5 1 (.slice ba t.length bc) (t.length) (byteVs t)] (w7) := (H3.belowRow hb7 ho)
   clear Xc0 Xc1 Xc2 Xl
   clear H3 hbt hb7 ho
   obtain ⟨t3, ht3⟩ : ∃ t3, t3 = t2 ++ cellB xc := ⟨_, rfl⟩
   rw [← ht3] at H4 ⊢
   have HT3 := Zh (show t3 = t0 ++ entsB (ln : Int) (M.take (k + 1)) by rw [ht3, HTT.out, HT.out, HSN.out]; simp only [List.append_assoc])
   clear ht3
   have Xc0 := H4.cell 2 rfl 0 rfl
   have Xc1 := H4.cell 2 rfl 1 rfl
   have Xc2 := H4.cell 2 rfl 2 rfl
   have Xl := H4.lt 2 rfl
   go_upto_region 13 with fail
   go_region
   go_wp2_with fail
   have H5 : Sep w1 NoF [.row 5 1 (.slice a7 t3.length c7) (t3.length) (byteVs t3)] (w7) := ((((H4.drop 1).drop 1).drop 1).focus 0 rfl)
   clear Xc0 Xc1 Xc2 Xl
   clear H4
   go_roundw
   case rel => exact ⟨k + 1, t3, a7, c7, xa + 1, by go_num, by omega, rfl, rfl, HT3, Lib.hid' HNN.out.symm, (by first | exact H5 | exact H5.drew)⟩
   case measure => simp [intOf]; omega
  obtain rfl : k = E.length := by omega
  have HTE := Zh (show t = unitB (en' : Int) (ln : Int) M by rw [HT.out, ← HT0.out, HELM.out, List.take_length])
  have hbt : Bytes wr (.slice ba t.length bc) t := SlV.of_own (H0.row 0 rfl)
  have HFP := Zh (fput_any [] t none ba 0 bc wr (SlV.empty _ _ _ (Nat.zero_le _) (fun _ => rfl)) hbt (by simp))
  have HN := Zh (show putU (en' : Int) (ln : Int) M = (fputN t, fputB [] t) by
   unfold putU fputN fputB; rw [← HTE.out]; split <;> simp)
  have HBB := Zh (HB1.out.trans (H0.toBelow.mono HB1.out.size))
  clear hbt
  go_wp2_with fail
  refine HFP.out.mono ?_
  clear HFP
  rintro en w9 ⟨a9, c9, rfl, ho, hb9⟩
  have HO := Zh (own_base (B' := w.heap.size) ho HBB.out.size)
  have HB9 := Zh (HBB.out.trans (hb9.mono HBB.out.size))
  generalize fputB [] t = x at *
  generalize fputN t = y at *
  clear ho hb9
  go_wp2
  go_ret2
  rw [HN.out]
  exact ⟨a9, c9, rfl, HO.out, HB9.out⟩
end Go.Proofs.YtddlkkmdcfamiaaGreatDoor

namespace Go.Proofs.YtddlkkmdcfamiaaGreatDoor
open Go.RowKit
def frkTake (b : List UInt8) : Nat × List (Int × C) := if (takeU b).1 ≠ 0 then ((takeU b).1, []) else if (takeU b).2.e ≠ 0 ∨ (takeU b).2.l ≠ 0 then (2, []) else (0, (takeU b).2.cells)
def FrkTakeR (p : Nat × List (Int × C)) (w : World) (en : Ending) (w' : World) : Prop :=
 (p.1 ≠ 0 ∧ en = .returned (.tuple #[.slice none 0 0, errV p.1]) ∧ Below w.heap.size w w') ∨
 (p.1 = 0 ∧ ∃ (E : List Ent) (a : Option Addr) (c : Nat), en = .returned (.tuple #[.slice a E.length c, .nilIface]) ∧ E.map noAd = p.2 ∧ E.length ≤ 65536 ∧ w'.ownsRow w.heap.size 73 3 (.slice a E.length c) E.length (ents E) ∧
  (∀ x ∈ E, w'.ownsRow w.heap.size 5 1 (.slice x.2.2.1 x.2.1.d.length x.2.2.2) x.2.1.d.length (byteVs x.2.1.d)) ∧ Below w.heap.size w w')
set_option maxHeartbeats 4000000 in
theorem frkTake_any (b : List UInt8) (a : Option Addr) (c : Nat) (w : World) (h : Bytes w (.slice a b.length c) b) : Calls Tryz.prog 6 #[.slice a b.length c] w (FrkTakeR (frkTake b) w) := by
 have HT := Zh (rtakeu_any b a c w h)
 clear h
 obtain ⟨p, hp⟩ : ∃ p, takeU b = p := ⟨_, rfl⟩
 have HF := Zh (show frkTake b = if p.1 ≠ 0 then (p.1, []) else if p.2.e ≠ 0 ∨ p.2.l ≠ 0 then (2, []) else (0, p.2.cells) by unfold frkTake; rw [hp])
 rw [hp] at HT
 have HPP := Lib.hid' hp
 clear hp
 obtain ⟨n, u⟩ := p
 go_enter Tryz.func6, Tryz.ntmps6
 go_wp2_with fail
 refine HT.out.mono ?_
 clear HT
 rintro en w1 hE
 unfold TakeUR at hE
 rcases hE with ⟨h0, rfl, hb⟩ | ⟨h0, bu, bm, rfl, g1, g2, hu, hb⟩
 ·simp only at h0 ⊢
  have HB := Lib.hid' hb
  have H0 := Lib.hid' h0
  have HF' := Zh (show frkTake b = (n, []) by rw [HF.out]; exact if_pos h0)
  rw [errV_pos h0]
  clear hb HF HPP h0
  go_wp2_with fail
  go_ret2
  rw [HF'.out]
  exact .inl ⟨H0.out, by rw [errV_pos H0.out]; rfl, HB.out⟩
 ·obtain rfl : n = 0 := h0
  have HB := Lib.hid' hb
  have HU := Lib.hid' hu
  have HF' := Zh (show frkTake b = if u.e ≠ 0 ∨ u.l ≠ 0 then (2, []) else (0, u.cells) by rw [HF.out]; exact if_neg (by simp))
  obtain ⟨q1, _, _, q4⟩ := takeU_ok HPP.out
  have HQ := Zh (And.intro (show sortC u.cells = u.cells from by have := of_doc q1; unfold U.doc at this; simpa using this) q4)
  clear hb hu HF HPP q1 q4
  go_wp2_with fail
  refine (epoch_any w1 HU.out).mono ?_
  rintro en w2 ⟨rfl, rfl⟩
  by_cases he : u.e = 0
  ·have hl := Zh (fun (h : ¬ u.l = 0) => (show frkTake b = (2, []) by rw [HF'.out]; exact if_pos (Or.inr h)))
   have hm := Zh (fun (h : u.l = 0) => (show frkTake b = (0, u.cells) by rw [HF'.out]; exact if_neg (by simp [he, h])))
   go_wp2_with fail
   refine (low_any w1 HU.out).mono ?_
   rintro en w2 ⟨rfl, rfl⟩
   by_cases hz : u.l = 0
   ·have HM := Zh (hm.out hz)
    clear hl hm HF'
    go_wp2_with fail
    refine (entries_any w1 HU.out (by have := HQ.out.2; omega)).mono ?_
    rintro en w3 ⟨E, a', c', rfl, hE, ho, hd, hb3⟩
    go_wp2_with fail
    go_ret2
    rw [HM.out]
    have hlen : E.length ≤ 65536 := by
     have h1 := congrArg List.length hE
     rw [HQ.out.1, List.length_map] at h1
     rw [h1]; exact HQ.out.2
    exact .inr ⟨rfl, E, a', c', rfl, by rw [hE, HQ.out.1], hlen, own_base ho HB.out.size, fun x hx => own_base (hd x hx) HB.out.size, below_call HB.out HB.out.size hb3⟩
   ·have HM := Zh (hl.out hz)
    clear hl hm HF'
    go_wp2_with fail
    go_ret2
    rw [HM.out]
    exact .inl ⟨by decide, rfl, HB.out⟩
  ·have HM := Zh (show frkTake b = (2, []) by rw [HF'.out]; exact if_pos (Or.inl he))
   clear HF'
   go_wp2_with fail
   go_ret2
   rw [HM.out]
   exact .inl ⟨by decide, rfl, HB.out⟩
end Go.Proofs.YtddlkkmdcfamiaaGreatDoor
