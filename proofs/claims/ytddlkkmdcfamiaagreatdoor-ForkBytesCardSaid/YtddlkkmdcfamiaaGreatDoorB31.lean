/- Proved here: a part of the proof (31 of 35). -/
import Derived.Test.YtddlkkmdcfamiaaGreatDoorB26
import Derived.Test.YtddlkkmdcfamiaaGreatDoorB13
import Derived.Test.YtddlkkmdcfamiaaGreatDoorB11
import Derived.Test.YtddlkkmdcfamiaaGreatDoorB30
import Derived.Deep.DeepCutAuto
import Derived.Deep.CutBlock
set_option linter.unusedSimpArgs false
set_option linter.unusedVariables false
set_option maxRecDepth 100000
namespace Go.Proofs.YtddlkkmdcfamiaaGreatDoor
open Go.RowKit

theorem own_lit (w : World) (xs : List Value) (e n size : Nat) (h1 : xs.length = n * size) (h2 : n ≤ maxLen) : (w.alloc (.cells xs.toArray e)).ownsRow w.heap.size e size (.slice (some ⟨w.heap.size, 0, none⟩) n n) n xs :=
 ⟨h1, Or.inr ⟨w.heap.size, n, xs.toArray, rfl, Nat.le_refl _, by show (w.heap.push _)[w.heap.size]? = _; simp, Nat.le_refl _, h2, by simp [h1], by simp [← h1]⟩⟩
theorem own_litN (w : World) (N : Nat) (xs : List Value) (e n size : Nat) (h1 : xs.length = n * size) (h2 : n ≤ maxLen) (hN : w.heap.size = N) : (w.alloc (.cells xs.toArray e)).ownsRow N e size (.slice (some ⟨N, 0, none⟩) n n) n xs := by
 subst hN; exact own_lit w xs e n size h1 h2
theorem litRow_sep {w0 w : World} {F : Nat → Prop} {L : List Asn} (h : Sep w0 F L w) (N e size n : Nat) (xs : List Value) (h1 : xs.length = n * size) (h2 : n ≤ maxLen) (hN : w.heap.size = N) :
  Sep w0 F (.row e size (.slice (some ⟨N, 0, none⟩) n n) n xs :: L) (w.alloc (.cells xs.toArray e)) := by
 subst hN
 exact h.below1 ((Below.refl _ w).alloc (Nat.le_refl _) _) (own_base (own_lit w xs e n size h1 h2) (Nat.zero_le _)) (fun b hb => by have hb : some w.heap.size = some b := hb; simp at hb; omega)
theorem byteV_nat (n : Nat) (h : n < 256) : byteV (UInt8.ofNat n) = .int .u8 (n : Int) := by simp [byteV]; omega
set_option maxHeartbeats 4000000 in
theorem rcb_any (c : C) (hc : c.check = 0) (w : World) : Calls Tryz.prog 71 #[rcellV c] w (OwnR w.heap.size 5 1 (cellB c).length (byteVs (cellB c)) w) := by
 obtain ⟨g1, g2, g3, g4⟩ := check_parts hc
 clear hc
 obtain ⟨k, d⟩ := c
 simp only at g1 g2 g3 g4
 obtain ⟨k, rfl⟩ : ∃ n : Nat, k = n := ⟨k.toNat, by omega⟩
 clear g4
 unfold rcellV
 simp only
 by_cases hk1 : k = 1
 ·skip
  subst hk1
  have HRR := Zh (show cellB ⟨((1 : Nat) : Int), d⟩ = [(1 : UInt8)] ++ headB d by unfold cellB; simp [vb_small])
  have hss := strOf_size d
  have kc := fun (w : World) (s : ByteArray) => Lib.run_convert_string_bytes (P := Tryz.prog) w 9 22 5 s Tryz.underlying9 Tryz.underlying22 Tryz.underlying5
  have hbw := fun wq => Zh (bytes_conv wq d d.length rfl (by omega))
  have hbg := fun wq => Zh (Lib.bytesWorld_below wq 5 (strOf d))
  go_enter Tryz.func71, Tryz.ntmps71
  go_wp2_with fail
  have H0 : Sep w NoF [] w := Sep.start _
  have H1 : Sep w NoF [.row 5 1 (.slice (some ⟨w.heap.size + 1, 0, none⟩) 1 1) (1) ([.int .u8 1]), .box (w.heap.size) [.int .i64 1, .string (strOf d)] 43] (((w.alloc (.cells #[.int .i64 1, .string (strOf d)] 43)).alloc (.cells #[.int .u8 1] 5))) := (litRow_sep (H0.allocAt (w.heap.size) [.int .i64 1, .string (strOf d)] 43 (by simp)) (w.heap.size + 1) 5 1 1 [.int .u8 1] rfl (by decide) (by simp))
  clear H0
  have hz : (((w.alloc (.cells #[.int .i64 1, .string (strOf d)] 43)).alloc (.cells #[.int .u8 1] 5))).heap.size = w.heap.size + 1 + 1 := by simp
  have H2 : Sep w NoF [.row 5 1 (.slice (some ⟨w.heap.size + 1, 0, none⟩) 1 1) (1) ([.int .u8 1]), .box (w.heap.size) [.int .i64 1, .string (strOf d)] 43] (((w.alloc (.cells #[.int .i64 1, .string (strOf d)] 43)).alloc (.cells #[.int .u8 1] 5))) := H1
  clear H1
  generalize ((w.alloc (.cells #[.int .i64 1, .string (strOf d)] 43)).alloc (.cells #[.int .u8 1] 5)) = w2 at *
  have HBW := hbw w2
  have HBG := hbg w2
  clear hbw hbg kc
  rw [hss] at *
  rw [hz] at HBW
  generalize Lib.bytesWorld w2 5 (strOf d) = w3 at *
  generalize grownCap w2 d.length 0 5 = gc at *
  have H3 : Sep w NoF [.row 5 1 (.slice (some ⟨w.heap.size + 1, 0, none⟩) 1 1) (1) ([.int .u8 1]), .box (w.heap.size) [.int .i64 1, .string (strOf d)] 43] (w3) := (H2.below HBG.out)
  clear H2
  clear HBG
  refine (rText_any d _ gc w3 HBW.out (by omega)).mono ?_
  rintro en w4 ⟨a4, c4, rfl, ho, hb4⟩
  have H4 : Sep w NoF [.row 5 1 (.slice a4 (headB d).length c4) ((headB d).length) (byteVs (headB d)), .row 5 1 (.slice (some ⟨w.heap.size + 1, 0, none⟩) 1 1) (1) ([.int .u8 1]), .box (w.heap.size) [.int .i64 1, .string (strOf d)] 43] (w4) := (H3.belowRow hb4 ho)
  clear H3 hb4 ho
  have hlh : (headB d).length ≤ 80 := by
   have := vb_len10 (n := d.length) (by omega)
   unfold headB; rw [List.length_append]; omega
  go_wp2_with (at_builtin; refine Sep.appendSl etBytes rfl (.tmp 6) (.tmp 10) rfl H4 1 rfl rfl (headB d).length (byteVs (headB d)) _ rfl (SlV.of_own (H4.row 0 rfl)) (by simp [byteVs]) (byteVs_one _) (by omega) ?_)
  intro a5 c5 w5 H5
  have HRL := Zh (show (cellB ⟨((1 : Nat) : Int), d⟩).length = 1 + (headB d).length by rw [HRR.out]; simp; omega)
  have HO := H5.own 0 rfl
  have HB := H5.toBelow
  have HRV := Zh (show byteVs (cellB ⟨((1 : Nat) : Int), d⟩) = [.int .u8 1] ++ byteVs (headB d) by rw [HRR.out]; simp [byteVs, byteV])
  go_wp2
  go_ret
  exact ⟨a5, c5, ret_eq (by rw [HRL.out]; rfl), by rw [HRL.out, HRV.out]; exact HO, HB⟩
 have hkb : ((k : Int) == 1) = false := by rw [beq_eq_false_iff_ne]; omega
 have HRR := Zh (show cellB ⟨(k : Int), d⟩ = [UInt8.ofNat k] by
  have : ¬ ((k : Int) = 1) := by omega
  unfold cellB; simp [vb_small (show k < 128 by omega), this])
 have hw8 : IntKind.u8.wrap (k : Int) = (k : Int) := IntWalk.u8_in _ (by omega)
 clear hk1
 go_enter Tryz.func71, Tryz.ntmps71
 go_wp2_with fail
 have H0 : Sep w NoF [] w := Sep.start _
 go_wp2
 go_ret
 refine ⟨_, _, ret_eq (by rw [HRR.out]; rfl), ?_, (((Below.refl _ w).alloc (Nat.le_refl _) _).alloc (by simp) _)⟩
 have hbv : byteVs [UInt8.ofNat k] = [.int .u8 (k : Int)] := by simp only [byteVs, List.map_cons, List.map_nil, byteV_nat k (by omega)]
 rw [HRR.out, hbv]
 have ho := own_litN (w.alloc (.cells #[.int .i64 (k : Int), .string (strOf d)] 43)) (w.heap.size + 1) [.int .u8 (k : Int)] 5 1 1 rfl (by decide) (by simp)
 exact own_base ho (Nat.le_succ _)

def PutNR (p : Nat × List UInt8) (w : World) (en : Ending) (w' : World) : Prop :=
 ∃ a c, en = .returned (.tuple #[.slice a p.2.length c, .int .i64 (p.1 : Nat)]) ∧ w'.ownsRow w.heap.size 5 1 (.slice a p.2.length c) p.2.length (byteVs p.2) ∧ Below w.heap.size w w'
theorem cellB_len {c : C} (h : c.check = 0) : (cellB c).length ≤ 90 := by
 obtain ⟨g1, g2, g3, g4⟩ := check_parts h
 unfold cellB
 rw [List.length_append]
 have h1 := vb_len_le (n := c.k.toNat) (k := 1) (by decide) (by omega)
 split
 ·have := vb_len10 (n := c.d.length) (by omega)
  unfold headB; rw [List.length_append]; omega
 ·simp; omega
theorem rget3 {w : World} {b off cap : Nat} {L : List (Int × C)} (h : RList w (.slice (some ⟨b, off, none⟩) L.length cap) L) {k : Nat} (hk : k < L.length) :
  w.cell? ⟨b, off + k * 3, none⟩ = some (.int .i64 L[k].1) ∧ w.cell? ⟨b, off + k * 3 + 1, none⟩ = some (.int .i64 L[k].2.k) ∧ w.cell? ⟨b, off + k * 3 + 2, none⟩ = some (.string (strOf L[k].2.d)) := by
 obtain ⟨b', off', he, hb, c0, c1, c2⟩ := RList.get h hk
 cases he
 exact ⟨c0, c1, c2⟩
set_option maxHeartbeats 8000000 in
theorem putu09_any (u : U) (ad : Option Addr) (cap : Nat) (w : World) (h : RList w (.slice ad u.cells.length cap) u.cells) (hof : ofErr u.e u.l u.cells = 0) (hlen : u.cells.length ≤ 65536) :
  Calls Tryz.prog 34 #[ruV u ad cap] w (PutNR (putU u.e u.l u.cells) w) := by
 obtain ⟨r1, r2, r3, r4, hR, _⟩ := right_of hof
 have HL := Lib.hid' h
 clear h hof
 obtain ⟨e, l, M⟩ := u
 simp only at HL hlen r1 r2 r3 r4 hR ⊢
 obtain ⟨en', rfl⟩ : ∃ n : Nat, e = n := ⟨e.toNat, by omega⟩
 obtain ⟨ln, rfl⟩ : ∃ n : Nat, l = n := ⟨l.toNat, by omega⟩
 have HRL := Lib.hid' hR
 clear hR
 unfold ruV
 simp only
 go_enter Tryz.func34, Tryz.ntmps34
 go_wp2_with fail
 have H0 : Sep w NoF [] w := Sep.start _
 have H1 : Sep w NoF [.box (w.heap.size) [.int .i64 (en' : Int), .int .i64 (ln : Int), .slice ad M.length cap] 67] ((w.alloc (.cells #[.int .i64 (en' : Int), .int .i64 (ln : Int), .slice ad M.length cap] 67))) := (H0.allocAt (w.heap.size) [.int .i64 (en' : Int), .int .i64 (ln : Int), .slice ad M.length cap] 67 (by simp))
 clear H0
 generalize (w.alloc (.cells #[.int .i64 (en' : Int), .int .i64 (ln : Int), .slice ad M.length cap] 67)) = w1 at *
 refine wp_region_held_drew (S := (fun w' => w'.cell? ⟨w.heap.size, 0, none⟩ = some (.int .i64 (en' : Int)) ∧ w'.cell? ⟨w.heap.size, 1, none⟩ = some (.int .i64 (ln : Int)))) (by kernel_rfl) ⟨H1.cell 0 rfl 0 rfl, H1.cell 0 rfl 1 rfl⟩ (fun hH0 => ?_)
 refine tA 0 (.pointer (some ⟨w.heap.size, 0, none⟩)) rfl hH0 ?_ ?_
 ·intro w hSw; go_simp
 simp only [Act.put, gA, gZ, gS, sA, sZ, sS]
 refine tA 1 (.int .i64 (en' : Int)) rfl hH0 ?_ ?_
 ·intro w hSw; obtain ⟨q0, q1⟩ := hSw; go_simp
 simp only [Act.put, gA, gZ, gS, sA, sZ, sS]
 refine tA 2 (.int .u64 (en' : Int)) rfl hH0 ?_ ?_
 ·intro w hSw; go_simp; exact wraps_u64 _ (by omega) (by omega)
 simp only [Act.put, gA, gZ, gS, sA, sZ, sS]
 refine tA 4 (.pointer (some ⟨w.heap.size, 1, none⟩)) rfl hH0 ?_ ?_
 ·intro w hSw; go_simp
 simp only [Act.put, gA, gZ, gS, sA, sZ, sS]
 refine tA 5 (.int .i64 (ln : Int)) rfl hH0 ?_ ?_
 ·intro w hSw; obtain ⟨q0, q1⟩ := hSw; go_simp
 simp only [Act.put, gA, gZ, gS, sA, sZ, sS]
 refine tA 6 (.int .u64 (ln : Int)) rfl hH0 ?_ ?_
 ·intro w hSw; go_simp; exact wraps_u64 _ (by omega) (by omega)
 simp only [Act.put, gA, gZ, gS, sA, sZ, sS]
 refine rD 3 rfl (fun K hK => ?_)
 go_simp
 refine (rBytes_any en' (by omega) w1.drew).mono ?_
 rintro e1 w2 ⟨a1, c1, rfl, ho1, hb1⟩
 have HS2 := H1.drew.belowRow hb1 ho1
 clear ho1 hb1
 refine hK.out _ _ ?_ (fun hH1 => ?_)
 ·exact ⟨HS2.cell 1 rfl 0 rfl, HS2.cell 1 rfl 1 rfl⟩
 clear hK K
 refine rD 7 rfl (fun K hK => ?_)
 go_simp
 refine (rBytes_any ln (by omega) w2).mono ?_
 rintro e2 w3 ⟨a2, c2, rfl, ho2, hb2⟩
 have HS3 := HS2.belowRow hb2 ho2
 clear ho2 hb2 HS2
 have hle := vb_len10 (n := en') (by omega)
 have hll := vb_len10 (n := ln) (by omega)
 refine hK.out _ _ ?_ (fun hH2 => ?_)
 ·exact ⟨HS3.cell 2 rfl 0 rfl, HS3.cell 2 rfl 1 rfl⟩
 clear hK K
 refine rD 8 rfl (fun K hK => ?_)
 refine Sep.appendSlStep etBytes rfl (.tmp 10) (.tmp 14) rfl HS3 1 rfl rfl (vb ln).length (byteVs (vb ln)) _ rfl (SlV.of_own (HS3.row 0 rfl)) (by simp [byteVs]) (byteVs_one _) (by omega) ?_
 intro a3 c3 w4 HS4
 refine hK.out _ _ ?_ (fun hH3 => ?_)
 ·exact ⟨HS4.cell 2 rfl 0 rfl, HS4.cell 2 rfl 1 rfl⟩
 clear hK K
 refine tA 9 (.slice a3 ((vb en').length + (vb ln).length) c3) rfl hH3 ?_ ?_
 ·intro w hSw; go_simp
 simp only [Act.put, gA, gZ, gS, sA, sZ, sS]
 refine wpAnyH_done (by kernel_rfl) ?_ _
 skip
 obtain ⟨t1, ht1⟩ : ∃ t1, t1 = vb en' ++ vb ln := ⟨_, rfl⟩
 have HT1 := Lib.hid' ht1
 have HL1 := Zh (show (vb en').length + (vb ln).length = t1.length by rw [ht1, List.length_append])
 have hl1 : t1.length ≤ 20 := by rw [← HL1.out]; omega
 have H5 : Sep w NoF [.row 5 1 (.slice a3 t1.length c3) t1.length (byteVs t1), .box (w.heap.size) [.int .i64 (en' : Int), .int .i64 (ln : Int), .slice ad M.length cap] 67] w4 := by
  have h5 := HS4.drop 1
  rw [← byteVs_append, ← ht1, HL1.out] at h5
  exact h5
 rw [HL1.out]
 clear HS4 ht1 HL1 hle hll H1
 have Xc0 := H5.cell 1 rfl 0 rfl
 have Xc1 := H5.cell 1 rfl 1 rfl
 have Xc2 := H5.cell 1 rfl 2 rfl
 have Xl := H5.lt 1 rfl
 go_wp2_with fail
 refine (rBytes_any M.length (by omega) w4).mono ?_
 rintro en w5 ⟨a5, c5, rfl, ho, hb5⟩
 have H6 : Sep w NoF [.row 5 1 (.slice a5 (vb M.length).length c5) ((vb M.length).length) (byteVs (vb M.length)), .row 5 1 (.slice a3 t1.length c3) (t1.length) (byteVs t1), .box (w.heap.size) [.int .i64 (en' : Int), .int .i64 (ln : Int), .slice ad M.length cap] 67] (w5) := (H5.belowRow hb5 ho)
 clear Xc0 Xc1 Xc2 Xl
 clear H5 hb5 ho
 have hlq := vb_len10 (n := M.length) (by omega)
 go_wp2_with (at_builtin; refine Sep.appendSl etBytes rfl (.tmp 16) (.tmp 21) rfl H6 1 rfl rfl (vb M.length).length (byteVs (vb M.length)) _ rfl (SlV.of_own (H6.row 0 rfl)) (by simp [byteVs]) (byteVs_one _) (by omega) ?_)
 intro a6 c6 w6 HA
 obtain ⟨t0, ht⟩ : ∃ z, z = t1 ++ vb M.length := ⟨_, rfl⟩
 have HT_t0 := Lib.hid' ht
 have HLq := Zh (show t1.length + (vb M.length).length = t0.length by rw [ht, List.length_append])
 have hb_t0 := (by rw [← HLq.out]; omega : t0.length ≤ 30)
 have H7 : Sep w NoF [.row 5 1 (.slice a6 t0.length c6) (t0.length) (byteVs t0), .box (w.heap.size) [.int .i64 (en' : Int), .int .i64 (ln : Int), .slice ad M.length cap] 67] (w6) := by
  have h5 := HA.drop 1
  rw [← byteVs_append, ← ht, HLq.out] at h5
  exact h5
 rw [HLq.out]
 clear HA ht HLq H6
 have HT0 := Zh (show t0 ++ entsB (ln : Int) M = unitB (en' : Int) (ln : Int) M by
  rw [HT_t0.out, HT1.out]; unfold unitB; simp)
 clear HT_t0 HT1 hlq hl1
 go_wp2_with fail
 go_loopw [5, 4] (fun v5 v4 wr => ∃ (k : Nat) (t : List UInt8) (ba : Option Addr) (bc : Nat), v5 = .int .i64 k ∧ k ≤ M.length ∧ v4 = .slice ba t.length bc ∧ Hid (t = t0 ++ entsB (ln : Int) (M.take k)) ∧ Sep w NoF [.row 5 1 (.slice ba t.length bc) t.length (byteVs t), .box (w.heap.size) [.int .i64 (en' : Int), .int .i64 (ln : Int), .slice ad M.length cap] 67] wr) (fun v5 _ _ => M.length - (intOf v5).toNat)
 case atStart => exact ⟨0, t0, a6, c6, rfl, Nat.zero_le _, rfl, Zh (by simp [entsB]), H7⟩
 case round =>
  clear H7
  obtain ⟨k, t, ba, bc, rfl, hk, rfl, HT, H0⟩ := hrel
  have htl2 : t.length ≤ 30 + 90 * k := by
   rw [HT.out, List.length_append]
   have := entsB_len (M.take k) (ln : Int) r3 (right_take HRL.out k)
   have h2 : (M.take k).length ≤ k := by rw [List.length_take]; omega
   omega
  by_cases hlt : k < M.length
  ·skip
   obtain ⟨n1, n2⟩ := nextF_le HRL.out hlt
   obtain ⟨x1, x2, x3⟩ := HRL.out.1 _ (List.getElem_mem hlt)
   have HSN := Zh (show entsB (ln : Int) (M.take (k + 1)) = entsB (ln : Int) (M.take k) ++ (vb (M[k].1 - nextF (ln : Int) (M.take k)).toNat ++ cellB M[k].2) by rw [List.take_succ_eq_append_getElem hlt, entsB_snoc])
   have HJ := Zh (show 0 < k → ∀ j, j + 1 = k → ∀ hj : j < M.length, M[j].1 + 1 = nextF (ln : Int) (M.take k) from fun _ j hj hl => by subst hj; rw [List.take_succ_eq_append_getElem hl, nextF_snoc])
   have HJ0 := Zh (show k = 0 → (ln : Int) = nextF (ln : Int) (M.take k) from fun h => by subst h; simp [nextF])
   obtain ⟨f, hf⟩ : ∃ f, f = nextF (ln : Int) (M.take k) := ⟨_, rfl⟩
   rw [← hf] at HSN HJ HJ0 n1 n2
   clear hf
   have Xc0 := H0.cell 1 rfl 0 rfl
   have Xc1 := H0.cell 1 rfl 1 rfl
   have Xc2 := H0.cell 1 rfl 2 rfl
   have Xl := H0.lt 1 rfl
   go_upto_if 33 with fail
   go_cut [6] (fun v6 wc => v6 = .int .i64 f ∧ wc = wr)
   case first =>
    by_cases hk0 : k = 0
    ·have hkb : ¬ (0 : Int) < (k : Int) := by omega
     have HF := Zh (HJ0.out hk0)
     clear hk0
     go_wp2_with fail
     go_meet
     exact ⟨by rw [HF.out], rfl⟩
    ·obtain ⟨j, hj⟩ : ∃ j, j + 1 = k := ⟨k - 1, by omega⟩
     have hjl : j < M.length := by omega
     have HF := Zh (HJ.out (by omega) j hj hjl)
     obtain ⟨g1, g2⟩ := HRL.out.1 _ (List.getElem_mem hjl)
     obtain ⟨b, off, rfl, hb, c0, _, _⟩ := RList.get (RList.below HL.out (Nat.le_refl _) H0.toBelow) hjl
     have hkb : (0 : Int) < (k : Int) := by omega
     have hkj : IntKind.i64.wrap ((k : Int) - 1) = (j : Int) := by rw [show (k : Int) - 1 = (j : Int) by omega]; exact IntWalk.i64_in _ (by omega)
     have hkj2 : (k : Int) - 1 = (j : Int) := by omega
     have hfj : IntKind.i64.wrap (M[j].1 + 1) = f := by rw [HF.out]; exact IntWalk.i64_in _ (by omega)
     generalize M[j].1 = mj at *
     clear hk0 hj
     go_wp2_with fail
     go_meet
     exact ⟨by rw [← hfj], rfl⟩
   case rest =>
   obtain ⟨rfl, hwc⟩ := hcut
   rw [hwc]
   clear hwc HJ HJ0
   obtain ⟨b, off, rfl, hb, c0, c1, c2⟩ := RList.get (RList.below HL.out (Nat.le_refl _) H0.toBelow) hlt
   obtain ⟨dn, hdn⟩ : ∃ n : Nat, M[k].1 - f = n := ⟨(M[k].1 - f).toNat, by omega⟩
   have HDN := Zh (show (M[k].1 - f).toNat = dn by omega)
   rw [HDN.out] at HSN
   have hdn2 : dn < 1048576 := by omega
   have hs1 : IntKind.i64.wrap (M[k].1 - f) = (dn : Int) := by rw [hdn]; exact IntWalk.i64_in _ (by omega)
   have hs2 : IntKind.i64.wrap (M[k].1 + -f) = (dn : Int) := by rw [show M[k].1 + -f = M[k].1 - f by omega]; exact hs1
   have hs3 := wraps_u64 dn (by omega) (by omega)
   clear hdn
   go_wp2_with fail
   clear hs1 hs2 hs3 c0 c1 c2
   refine (rBytes_any dn (by omega) wr).mono ?_
   rintro en y2 ⟨a7, c7, rfl, ho, hb7⟩
   have H1 : Sep w NoF [.row 5 1 (.slice a7 (vb dn).length c7) ((vb dn).length) (byteVs (vb dn)), .row 5 1 (.slice ba t.length bc) (t.length) (byteVs t), .box (w.heap.size) [.int .i64 (en' : Int), .int .i64 (ln : Int), .slice (some ⟨b, off, none⟩) M.length cap] 67] (y2) := (H0.belowRow hb7 ho)
   clear Xc0 Xc1 Xc2 Xl
   clear H0 hb7 ho
   have hlq := vb_len10 (n := dn) (by omega)
   go_wp2_with (at_builtin; refine Sep.appendSl etBytes rfl (.tmp 42) (.tmp 52) rfl H1 1 rfl rfl (vb dn).length (byteVs (vb dn)) _ rfl (SlV.of_own (H1.row 0 rfl)) (by simp [byteVs]) (byteVs_one _) (by omega) ?_)
   intro a8 c8 y3 HA
   obtain ⟨t2, ht⟩ : ∃ z, z = t ++ vb dn := ⟨_, rfl⟩
   have HT_t2 := Lib.hid' ht
   have HLq := Zh (show t.length + (vb dn).length = t2.length by rw [ht, List.length_append])
   have hb_t2 := (by rw [← HLq.out]; omega : t2.length ≤ 40 + 90 * k)
   have H2 : Sep w NoF [.row 5 1 (.slice a8 t2.length c8) (t2.length) (byteVs t2), .box (w.heap.size) [.int .i64 (en' : Int), .int .i64 (ln : Int), .slice (some ⟨b, off, none⟩) M.length cap] 67] (y3) := by
    have h5 := HA.drop 1
    rw [← byteVs_append, ← ht, HLq.out] at h5
    exact h5
   rw [HLq.out]
   clear HA ht HLq H1
   obtain ⟨c0, c1, c2⟩ := rget3 (RList.below HL.out (Nat.le_refl _) H2.toBelow) hlt
   have hcb := rcb_any M[k].2 x3
   unfold rcellV at hcb
   have HCB := Lib.hid' hcb
   clear hcb
   have Xc0 := H2.cell 1 rfl 0 rfl
   have Xc1 := H2.cell 1 rfl 1 rfl
   have Xc2 := H2.cell 1 rfl 2 rfl
   have Xl := H2.lt 1 rfl
   go_wp2_with fail
   refine (HCB.out y3).mono ?_
   rintro en y4 ⟨a9, c9, rfl, ho, hb9⟩
   have hcl := cellB_len x3
   have H3 : Sep w NoF [.row 5 1 (.slice a9 (cellB M[k].2).length c9) ((cellB M[k].2).length) (byteVs (cellB M[k].2)), .row 5 1 (.slice a8 t2.length c8) (t2.length) (byteVs t2), .box (w.heap.size) [.int .i64 (en' : Int), .int .i64 (ln : Int), .slice (some ⟨b, off, none⟩) M.length cap] 67] (y4) := (H2.belowRow hb9 ho)
   clear Xc0 Xc1 Xc2 Xl
   clear H2 c0 c1 c2 hb9 ho
   skip
   go_wp2_with (at_builtin; refine Sep.appendSl etBytes rfl (.tmp 54) (.tmp 61) rfl H3 1 rfl rfl (cellB M[k].2).length (byteVs (cellB M[k].2)) _ rfl (SlV.of_own (H3.row 0 rfl)) (by simp [byteVs]) (byteVs_one _) (by omega) ?_)
   intro a10 c10 y5 HA
   obtain ⟨t3, ht⟩ : ∃ z, z = t2 ++ cellB M[k].2 := ⟨_, rfl⟩
   have HT_t3 := Lib.hid' ht
   have HLq := Zh (show t2.length + (cellB M[k].2).length = t3.length by rw [ht, List.length_append])
   have hb_t3 := (by rw [← HLq.out]; omega : t3.length ≤ 8000000)
   have H4 : Sep w NoF [.row 5 1 (.slice a10 t3.length c10) (t3.length) (byteVs t3), .box (w.heap.size) [.int .i64 (en' : Int), .int .i64 (ln : Int), .slice (some ⟨b, off, none⟩) M.length cap] 67] (y5) := by
    have h5 := HA.drop 1
    rw [← byteVs_append, ← ht, HLq.out] at h5
    exact h5
   rw [HLq.out]
   clear HA ht HLq H3
   have HT3 := Zh (show t3 = t0 ++ entsB (ln : Int) (M.take (k + 1)) by rw [HT_t3.out, HT_t2.out, HT.out, HSN.out]; simp only [List.append_assoc])
   clear HT_t3 HT_t2 hcl HCB hlq
   go_wp2_with fail
   go_roundw
   case rel => exact ⟨k + 1, t3, a10, c10, by go_num, by omega, rfl, HT3, H4⟩
   case measure => simp [intOf]; omega
  obtain rfl : k = M.length := by omega
  have HTE := Zh (show t = unitB (en' : Int) (ln : Int) M by rw [HT.out, ← HT0.out, List.take_length])
  have hbt : Bytes wr (.slice ba t.length bc) t := SlV.of_own (H0.row 0 rfl)
  have Xc0 := H0.cell 1 rfl 0 rfl
  have Xc1 := H0.cell 1 rfl 1 rfl
  have Xc2 := H0.cell 1 rfl 2 rfl
  have Xl := H0.lt 1 rfl
  by_cases hbig : 65536 < t.length
  ·have hbb : (65536 : Int) < (t.length : Int) := by omega
   have HN := Zh (show putU (en' : Int) (ln : Int) M = (3, []) by unfold putU; rw [← HTE.out, if_pos hbig])
   clear hbig
   go_wp2
   go_ret2
   rw [HN.out]
   exact ⟨none, 0, rfl, own_nil _ _ _ _, H0.toBelow⟩
  have hbb : ¬ (65536 : Int) < (t.length : Int) := by omega
  have HN := Zh (show putU (en' : Int) (ln : Int) M = (0, frameB t) by unfold putU; rw [← HTE.out, if_neg hbig])
  have HFP := Zh (rFrame_any t ba bc wr hbt (by omega))
  have HBB := Lib.hid' H0.toBelow
  clear hbt hbig
  go_wp2_with fail
  refine HFP.out.mono ?_
  clear HFP
  rintro en w9 ⟨a9, c9, rfl, ho, hb9⟩
  have HO := Zh (own_base (B' := w.heap.size) ho HBB.out.size)
  have HB9 := Zh (HBB.out.trans (hb9.mono HBB.out.size))
  generalize frameB t = x at *
  clear ho hb9
  go_wp2
  go_ret2
  rw [HN.out]
  exact ⟨a9, c9, rfl, HO.out, HB9.out⟩
end Go.Proofs.YtddlkkmdcfamiaaGreatDoor
