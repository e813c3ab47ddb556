/- Proved here: a part of the proof (25 of 34). -/
import Derived.Test.YtcpkeddgkpjioaaGreatDoorB23
import Derived.Test.YtcpkeddgkpjioaaGreatDoorB24
set_option linter.unusedSimpArgs false
set_option linter.unusedVariables false
set_option maxRecDepth 100000
namespace Go.Proofs.YtcpkeddgkpjioaaGreatDoor
open Go.RowKit

def entA (x : Ent) : Value := .agg #[.int .i64 x.1, .int .i64 x.2.1.k, .slice x.2.2.1 x.2.1.d.length x.2.2.2]
theorem rnone_any (x : Ent) (hl : x.2.1.d.length ≤ 9223372036854775807) (w : World) : Calls Tryz.prog 172 #[entA x] w fun e w' => e = .returned (.bool (noneE (noAd x))) ∧ Below w.heap.size w w' := by
 obtain ⟨xa, ⟨k, d⟩, da, dc⟩ := x
 simp only at hl
 unfold entA noneE noAd
 simp only
 by_cases h0 : k = 0
 ·subst h0
  go_enter Tryz.func172, Tryz.ntmps172
  go_wp2
  go_ret
  exact ⟨rfl, by go_grown⟩
 ·have h1 : (k == 0) = false := by rw [beq_eq_false_iff_ne]; exact h0
  cases h3 : (k == 3)
  all_goals
   go_enter Tryz.func172, Tryz.ntmps172
   go_wp2
   go_ret
   exact ⟨by simp [h1], by go_grown⟩
theorem cf_rnone (args : Array Value) (w : World) : (callFunc 172 args).run Tryz.prog w = .ok (.enter 172 args) w := by kernel_rfl
/-- an entry of a slice -/
theorem EL.at {w : World} {a : Option Addr} {c : Nat} {E : List Ent} (h : EL w a c E) {k : Nat} (hk : k < E.length) :
  ∃ b off, a = some ⟨b, off, none⟩ ∧ b < w.heap.size ∧ w.cell? ⟨b, off + k * 3, none⟩ = some (.int .i64 E[k].1) ∧ w.cell? ⟨b, off + k * 3 + 1, none⟩ = some (.int .i64 E[k].2.1.k) ∧
   w.cell? ⟨b, off + k * 3 + 2, none⟩ = some (.slice E[k].2.2.1 E[k].2.1.d.length E[k].2.2.2) ∧ E[k].2.1.d.length ≤ 9223372036854775807 := by
 obtain ⟨hsl, hby⟩ := h
 obtain ⟨b, off, rfl, hb, hc⟩ := SlV.row (s := 3) (fun _ => rfl) (by decide) hsl hk
 have c0 := hc 0 _ rfl; have c1 := hc 1 _ rfl; have c2 := hc 2 _ rfl
 simp only [Nat.add_zero] at c0
 exact ⟨b, off, rfl, hb, c0, c1, c2, bytes_len (hby _ (List.getElem_mem hk))⟩
set_option maxHeartbeats 1000000 in
theorem indexFE_any (E : List Ent) (a : Option Addr) (c : Nat) (w : World) (h : EL w a c E) :
  Calls Tryz.prog 218 #[.slice a E.length c, .func (.func 172) #[] #[]] w fun e w' => e = .returned (.int .i64 (idxB (fun x => noneE (noAd x)) E)) ∧ Below w.heap.size w w' := by
 have HS := Lib.hid' h
 have hlen := h.len
 have hcf := cf_rnone
 clear h
 go_enter Tryz.func218, Tryz.ntmps218
 go_wp2_with fail
 go_loopw [8] (fun v8 wr => ∃ k : Nat, v8 = .int .i64 k ∧ k ≤ E.length ∧ Hid (∀ y ∈ E.take k, noneE (noAd y) = false) ∧ Hid (Below w.heap.size w wr)) (fun v8 _ => E.length - (intOf v8).toNat)
 case atStart => exact ⟨0, rfl, Nat.zero_le _, Zh (by simp), Zh (Below.refl _ _)⟩
 case round =>
  obtain ⟨k, rfl, hk, HNO, HB⟩ := hrel
  by_cases hlt : k < E.length
  ·obtain ⟨b, off, rfl, hb, c0, c1, c2, hdl⟩ := (HS.out.below (Nat.le_refl _) HB.out).at hlt
   have HH := Zh (fun h2 => idxB_hit (f := fun x : Ent => noneE (noAd x)) hlt HNO.out h2)
   have HT := Zh (fun h2 => take_no (f := fun x : Ent => noneE (noAd x)) hlt HNO.out h2)
   generalize E[k] = y at *
   have HP := Zh (fun w => rnone_any y hdl w)
   unfold entA at HP
   go_wp2_with fail
   refine (HP.out _).mono ?_
   rintro e w2 ⟨rfl, hb2⟩
   have HB2 := Zh (HB.out.trans (hb2.mono HB.out.size))
   clear hb2
   cases hq : noneE (noAd y) with
   | true =>
    have HF := Zh (HH.out hq)
    go_wp2_with fail
    go_ret
    exact ⟨ret_eq (by rw [HF.out]; rfl), HB2.out⟩
   | false =>
    have HF := Zh (HT.out hq)
    go_wp2_with fail
    go_roundw
    case rel => exact ⟨k + 1, by go_num, by omega, HF, HB2⟩
    case measure => simp [intOf]; omega
  ·have HF := Zh (idxB_none (f := fun x : Ent => noneE (noAd x)) (by have := HNO.out; rwa [List.take_of_length_le (by omega)] at this))
   go_wp2_with fail
   go_ret
   exact ⟨ret_eq (by rw [HF.out]; rfl), HB.out⟩
theorem containsFE_any (E : List Ent) (a : Option Addr) (c : Nat) (w : World) (h : EL w a c E) :
  Calls Tryz.prog 173 #[.slice a E.length c, .func (.func 172) #[] #[]] w fun e w' => e = .returned (.bool ((docE E).any noneE)) ∧ Below w.heap.size w w' := by
 have HC := Zh (indexFE_any E a c w h)
 have HA := Zh (show E.any (fun x => noneE (noAd x)) = decide (0 ≤ idxB (fun x => noneE (noAd x)) E) from (idxB_any (fun x : Ent => noneE (noAd x)) E).symm)
 have HE := Zh (show (docE E).any noneE = E.any (fun x => noneE (noAd x)) by unfold docE; rw [List.any_map]; rfl)
 clear h
 rw [HE.out]
 go_enter Tryz.func173, Tryz.ntmps173
 go_wp2_with fail
 refine HC.out.mono ?_
 rintro e w' ⟨rfl, hb⟩
 have HB := Lib.hid' hb
 clear hb
 generalize idxB (fun x : Ent => noneE (noAd x)) E = i at *
 go_wp2
 go_ret
 exact ⟨ret_eq (by rw [HA.out]; rfl), HB.out⟩
theorem UnitAt.weak' {A A' : Nat → Prop} {w : World} {bu bm : Nat} {u : U} (h : UnitAt A w bu bm u) (hA : ∀ k, A' k → A k) (h1 : A' bu) (h2 : A' bm) : UnitAt A' w bu bm u := by
 obtain ⟨L, q1, q2⟩ := h.map
 exact ⟨h.blk, ⟨L, q1, q2.mono (fun x y _ _ ⟨r1, a, c, r2, r3, r4⟩ => ⟨r1, a, c, r2, r3, fun p hp => ⟨fun hk => (r4 p hp).1 (hA _ hk), (r4 p hp).2⟩⟩)⟩, h.ok, h1, h2⟩
def TakeUR (p : Nat × U) (w : World) (en : Ending) (w' : World) : Prop :=
 (p.1 ≠ 0 ∧ en = .returned (.tuple #[.pointer none, errV p.1]) ∧ Below w.heap.size w w') ∨
 (p.1 = 0 ∧ ∃ bu bm, en = .returned (.tuple #[.pointer (some ⟨bu, 0, none⟩), .nilIface]) ∧ w.heap.size ≤ bu ∧ w.heap.size ≤ bm ∧ UnitAt (fun k => k = bu ∨ k = bm ∨ k < w.heap.size) w' bu bm p.2 ∧ Below w.heap.size w w')
theorem within_le' (r : RD) (most : Nat) : (r.within most).1 ≤ most := by
 unfold RD.within
 split
 ·simp
 ·omega
theorem takeU_1 {b : List UInt8} {n : Nat} (h : (fone b).1 = n) (hn : n ≠ 0) : takeU b = (n, U.zero) := by subst h; unfold takeU; rw [if_pos hn]
theorem takeU_2 {b : List UInt8} {u : U} {r : RD} {n : Nat} (h : (fone b).1 = 0) (hu : readU ⟨(fone b).2, 0⟩ = (u, r)) (hr : r.fin = n) (hn : n ≠ 0) : takeU b = (n, U.zero) := by
 subst hr; unfold takeU; rw [if_neg (by simpa using h), hu, if_pos hn]
theorem takeU_3 {b : List UInt8} {u : U} {r : RD} (h : (fone b).1 = 0) (hu : readU ⟨(fone b).2, 0⟩ = (u, r)) (hr : r.fin = 0) (hn : u.cells.any noneE = true) : takeU b = (2, U.zero) := by
 unfold takeU; rw [if_neg (by simpa using h), hu, if_neg (by simpa using hr), if_pos hn]
theorem takeU_4 {b : List UInt8} {u : U} {r : RD} (h : (fone b).1 = 0) (hu : readU ⟨(fone b).2, 0⟩ = (u, r)) (hr : r.fin = 0) (hn : ¬ u.cells.any noneE = true) : takeU b = (0, u) := by
 unfold takeU; rw [if_neg (by simpa using h), hu, if_neg (by simpa using hr), if_neg hn]
set_option maxHeartbeats 4000000 in
theorem rtakeu_any (b : List UInt8) (a : Option Addr) (c : Nat) (w : World) (h : Bytes w (.slice a b.length c) b) : Calls Tryz.prog 123 #[.slice a b.length c] w (TakeUR (takeU b) w) := by
 have HD := Lib.hid' h
 have hbl := bytes_len h
 have hfo := fone_any b a c w h
 clear h
 unfold FOneR at hfo
 obtain ⟨p, hp⟩ : ∃ p, p = takeU b := ⟨_, rfl⟩
 have HP := Lib.hid' hp
 rw [← hp]
 clear hp
 obtain ⟨f1, hf1⟩ : ∃ n, n = (fone b).1 := ⟨_, rfl⟩
 obtain ⟨t, ht⟩ : ∃ t, t = (fone b).2 := ⟨_, rfl⟩
 rw [← hf1, ← ht] at hfo
 have HF1 := Lib.hid' hf1
 have HT := Lib.hid' ht
 have HFO := Lib.hid' hfo
 clear hf1 ht hfo
 have HERR := Zh (show ∀ n wq, n ≠ 0 → p = (n, U.zero) → Below w.heap.size w wq → TakeUR p w (.returned (.tuple #[.pointer none, errV n])) wq from fun n wq hn hpe hq => by
  subst hpe; exact .inl ⟨hn, rfl, hq⟩)
 go_enter Tryz.func123, Tryz.ntmps123
 go_wp2_with fail
 refine HFO.out.mono ?_
 clear HFO
 rintro en w2 ⟨a2, c2, rfl, hy2, hb2⟩
 have HY2 := Lib.hid' hy2
 have HB2 := Lib.hid' hb2
 clear hy2 hb2
 by_cases hf0 : f1 = 0
 rotate_left
 ·have HE := Zh (HERR.out f1 w2 hf0 (by rw [HP.out]; exact takeU_1 HF1.out.symm hf0) HB2.out)
  rw [errV_pos hf0] at HE ⊢
  clear hf0
  go_wp2
  go_ret2
  exact HE.out
 have HF0 := Zh (show (fone b).1 = 0 from HF1.out.symm.trans hf0)
 rw [hf0, errV_0]
 clear hf0 HF1
 go_wp2_with fail
 refine (vNew_any t a2 c2 w2 HY2.out).mono ?_
 rintro en w3 ⟨rfl, hr3, hb3, hz3⟩
 obtain ⟨bR, hbR⟩ : ∃ q, q = w2.heap.size := ⟨_, rfl⟩
 have HR3 := Zh (show RAt w3 bR ⟨t, 0⟩ by rw [hbR]; exact hr3)
 have HB3 := Zh (HB2.out.trans (hb3.mono HB2.out.size))
 have hwb : w.heap.size ≤ bR := by rw [hbR]; exact HB2.out.size
 simp only [← hbR]
 clear hr3 hb3 hz3 hbR HB2 HY2
 obtain ⟨e0, he0⟩ : ∃ e0, e0 = (RD.within ⟨t, 0⟩ 1099511627776).1 := ⟨_, rfl⟩
 obtain ⟨s1, hs1⟩ : ∃ s, s = (RD.within ⟨t, 0⟩ 1099511627776).2 := ⟨_, rfl⟩
 have hwi := within_r_any bR ⟨t, 0⟩ 1099511627776 (by decide) w3 HR3.out
 rw [← he0, ← hs1] at hwi
 have he1 : e0 ≤ 1099511627776 := by rw [he0]; exact within_le' _ _
 have HWI := Lib.hid' hwi
 have HE0 := Zh (show RD.within ⟨t, 0⟩ 1099511627776 = (e0, s1) by rw [he0, hs1])
 clear hwi he0 hs1
 go_wp2_with fail
 refine HWI.out.mono ?_
 clear HWI
 rintro en w4 ⟨rfl, hr4, hf4⟩
 have HR4 := Lib.hid' hr4
 have HB4 := Zh (HB3.out.trans (hf4.below HB3.out.size (fun q hq => by omega)))
 clear hr4 hf4 HB3 HR3
 obtain ⟨l0, hl0⟩ : ∃ l0, l0 = (RD.within s1 1048576).1 := ⟨_, rfl⟩
 obtain ⟨s2, hs2⟩ : ∃ s, s = (RD.within s1 1048576).2 := ⟨_, rfl⟩
 have hwi := within_r_any bR s1 1048576 (by decide) w4 HR4.out
 rw [← hl0, ← hs2] at hwi
 have hl1 : l0 ≤ 1048576 := by rw [hl0]; exact within_le' _ _
 have HWI := Lib.hid' hwi
 have HL0 := Zh (show RD.within s1 1048576 = (l0, s2) by rw [hl0, hs2])
 clear hwi hl0 hs2
 go_wp2_with fail
 refine HWI.out.mono ?_
 clear HWI
 rintro en w5 ⟨rfl, hr5, hf5⟩
 have HR5 := Lib.hid' hr5
 have HB5 := Zh (HB4.out.trans (hf5.below HB4.out.size (fun q hq => by omega)))
 clear hr5 hf5 HB4 HR4
 obtain ⟨x, hx⟩ : ∃ x, x = RD.ents (min s2.num.1 65536) (l0 : Nat) (if 65536 < s2.num.1 then s2.num.2.fail 3 else s2.num.2) [] := ⟨_, rfl⟩
 have hen := rents_any bR s2 (l0 : Nat) (by omega) (by omega) w5 HR5.out
 rw [← hx] at hen
 have HU := Zh (show readU ⟨(fone b).2, 0⟩ = (⟨(e0 : Nat), (l0 : Nat), x.1⟩, x.2) by
  rw [← HT.out, hx]
  unfold readU
  simp only [HE0.out, HL0.out])
 have HEN := Lib.hid' hen
 clear hen hx HE0 HL0
 obtain ⟨L, r⟩ := x
 simp only at HU
 go_wp2_with fail
 refine HEN.out.mono ?_
 clear HEN
 rintro en w6 ⟨E, ea, ec, rfl, hde, ho, hoe, hr6, hf6⟩
 simp only at hde hr6
 have HR6 := Lib.hid' hr6
 have HB6 := Zh (HB5.out.trans (hf6.below HB5.out.size (fun q hq => by omega)))
 have HEL := Zh (show EL w6 ea ec E from ⟨SlV.of_own ho, fun x hx => SlV.of_own (hoe x hx)⟩)
 have HDE := Lib.hid' hde
 have hel := HEL.out.len
 clear hde ho hoe hr6 hf6 HB5 HR5
 obtain ⟨fn, hfn⟩ : ∃ n, n = r.fin := ⟨_, rfl⟩
 have HFN := Lib.hid' hfn
 have hed := end_any bR r w6 HR6.out
 rw [← hfn] at hed
 have HED := Lib.hid' hed
 clear hed hfn
 go_wp2_with fail
 refine HED.out.mono ?_
 clear HED
 rintro en wz ⟨rfl, rfl⟩
 by_cases hfn0 : fn = 0
 rotate_left
 ·have HE := Zh (HERR.out fn w6 hfn0 (by rw [HP.out]; exact takeU_2 HF0.out HU.out HFN.out.symm hfn0) HB6.out)
  rw [errV_pos hfn0] at HE ⊢
  clear hfn0
  go_wp2
  go_ret2
  exact HE.out
 have HFN0 := Zh (show r.fin = 0 from HFN.out.symm.trans hfn0)
 rw [hfn0, errV_0]
 clear hfn0 HFN
 have hcn := containsFE_any E ea ec w6 HEL.out
 rw [HDE.out] at hcn
 have HCN := Lib.hid' hcn
 clear hcn
 go_wp2_with fail
 refine HCN.out.mono ?_
 clear HCN
 rintro en w7 ⟨rfl, hb7⟩
 have HB7 := Zh (HB6.out.trans (hb7.mono HB6.out.size))
 have HEL7 := Zh (HEL.out.below (Nat.le_refl _) hb7)
 clear hb7 HB6 HEL
 cases hnn : L.any noneE with
 | true =>
  have HE := Zh (HERR.out 2 w7 (by decide) (by rw [HP.out]; exact takeU_3 HF0.out HU.out HFN0.out hnn) HB7.out)
  clear hnn
  go_wp2
  go_ret2
  exact HE.out
 | false =>
  have HPE := Zh (show p = (0, ⟨(e0 : Nat), (l0 : Nat), L⟩) by rw [HP.out]; exact takeU_4 HF0.out HU.out HFN0.out (by simp only; rw [hnn]; decide))
  have HOK := Zh (takeU_ok (HP.out.symm.trans HPE.out)).1
  simp only at HOK
  have hof := of_good (e0 : Nat) (l0 : Nat) E ea ec w7 HEL7.out (by rw [HDE.out]; exact HOK.out)
  have HOF := Lib.hid' hof
  clear hof hnn
  go_wp2_with fail
  refine HOF.out.mono ?_
  clear HOF
  rintro en w8 ⟨bu, bm, rfl, g1, g2, hu, hb8⟩
  have HZ := Lib.hid' HB7.out.size
  have HU8 := Lib.hid' hu
  have HB8 := Zh (HB7.out.trans (hb8.mono HB7.out.size))
  have HG := Zh (And.intro g1 g2)
  clear hu hb8 g1 g2
  go_wp2
  go_ret2
  rw [HPE.out]
  refine .inr ⟨rfl, bu, bm, rfl, Nat.le_trans HZ.out HG.out.1, Nat.le_trans HZ.out HG.out.2, ?_, HB8.out⟩
  have := HU8.out
  rw [HDE.out] at this
  exact this.weak' (fun k hk => by rcases hk with h | h | h; exact .inl h; exact .inr (.inl h); exact .inr (.inr (Nat.lt_of_lt_of_le h HZ.out))) (.inl rfl) (.inr (.inl rfl))
end Go.Proofs.YtcpkeddgkpjioaaGreatDoor
