/- Proved here: a part of the proof (31 of 31). -/
import Derived.Test.YtelneaokoiojkaaGreatDoorV29
set_option linter.unusedSimpArgs false
set_option linter.unusedVariables false
set_option maxRecDepth 100000
namespace Go.Proofs.YtelneaokoiojkaaGreatDoor
namespace SL
open DK SH SQ
theorem Is.append {r : Int} {k : Nat} {c : Cl} {m : M} (h : Is r k c m) (hk : k < 512) (hr : ((200 * k + 200 : Nat) : Int) ≤ r) (d : List UInt8) : ∃ c', c.append d = ((m.app d).1, (m.app d).2.1, c') ∧ Is r (k + 1) c' (m.app d).2.2 := by
 have hst := h.mono (Nat.le_succ k)
 unfold Cl.append M.app
 by_cases hd : 64 < d.length
 ·rw [if_pos hd, if_pos hd]; exact ⟨c, rfl, hst⟩
 rw [if_neg hd, if_neg hd]
 have hqn := h.mid.ok.seq.n
 obtain ⟨fu, hfu⟩ : ∃ f, c.fuel = f + 1 := ⟨c.fuel - 1, by unfold Cl.fuel; omega⟩
 rw [hfu]
 show ∃ c', (if (c.try d).1 = true then c.try d |>.2.2.2.appendF d fu else (c.try d).2) = _ ∧ _
 by_cases ht : 1048576 ≤ m.t
 ·rw [if_pos ht]
  have e1 : c.q.take c.p.e 1 = (5, 0, c.q) := by
   unfold Q.take Q.asks
   rw [h.qe]
   simp only [show (decide ((1 : Int) ≤ 1) && decide ((1 : Int) ≤ 64)) = true from by decide, Bool.true_eq_false, if_false, Int.lt_irrefl, ne_eq, not_true_eq_false]
   rw [if_pos (by rw [h.tail]; omega)]
  rw [try_seq e1 (by decide)]
  exact ⟨c, rfl, hst⟩
 rw [if_neg ht]
 have e1 : c.q.take c.p.e 1 = (0, m.t, ⟨c.q.e, m.t + 1⟩) := by
  unfold Q.take Q.asks
  rw [h.qe]
  simp only [show (decide ((1 : Int) ≤ 1) && decide ((1 : Int) ≤ 64)) = true from by decide, Bool.true_eq_false, if_false, Int.lt_irrefl, ne_eq, not_true_eq_false]
  rw [if_neg (by rw [h.tail]; omega), h.tail]
 have hl := h.ok.lt
 have hl0 := h.ok.u.l0
 have h0 : 0 ≤ m.t := by omega
 have h1 : m.t ≤ 1048575 := by omega
 have hq2 : (⟨c.q.e, m.t + 1⟩ : Q).ok := ⟨h.mid.ok.seq.e, by show 0 ≤ m.t + 1 ∧ m.t + 1 ≤ 1048576; omega⟩
 obtain ⟨u, rs, hh⟩ := home_ne h.mid.ok h0
 have hnd := home_nodup h.nd m.t
 have hat := M.at_tail h.ok
 -- each unit of the home writes it
 have hm0 := h.mid.q hq2
 have hall : ∃ s', allC (Cl.write ⟨2, c.p.e, m.t, d⟩) (c.home m.t) { c with q := ⟨c.q.e, m.t + 1⟩ } = (0, s') ∧ Mid r { c with q := ⟨c.q.e, m.t + 1⟩ } s' (fun i => if (i : Int) ∈ c.home m.t then ⟨(shD c k m i).k + 1, (shD c k m i).e, (shD c k m i).l, upC (shD c k m i).f m.t ⟨1, d⟩⟩ else shD c k m i) := by
  refine Mid.all (B := fun i => ⟨(shD c k m i).k + 1, (shD c k m i).e, (shD c k m i).l, upC (shD c k m i).f m.t ⟨1, d⟩⟩) hnd (fun v hv => (h.home hv).1) (fun s D' v hv hs hD => ?_) hm0
  have hrg := h.home hv
  obtain ⟨s1, s2, s3, s4⟩ := shD_at (k := k) (m := m) hrg.1 hv
  obtain ⟨w, hw, q1, q2, q3⟩ := hs.act (u := v) hrg (by rw [hD]; omega) (by rw [hD]; omega) ⟨2, c.p.e, m.t, d⟩
  rw [hD, s2] at hw
  obtain ⟨w', e2, hw'⟩ := hw.write h0 h1 (d := d) (by omega)
  rw [s3, hat] at e2 hw'
  simp only [show ¬ ((0 : Int) = 3) by decide, if_false, if_true] at e2 hw'
  rw [e2] at q1 q3
  simp only [if_true] at q3
  refine ⟨_, Prod.ext q1 rfl, q3 _ (by rw [hD]; exact Nat.le_refl _) ?_⟩
  rw [s2]
  exact hw'
 obtain ⟨s', e2, hs'⟩ := hall
 rw [hh] at e2
 have e3 : (Cl.write ⟨2, c.p.e, m.t, d⟩ { c with q := ⟨c.q.e, m.t + 1⟩ } u).1 = 0 ∧ allC (Cl.write ⟨2, c.p.e, m.t, d⟩) rs (Cl.write ⟨2, c.p.e, m.t, d⟩ { c with q := ⟨c.q.e, m.t + 1⟩ } u).2 = (0, s') := by
  unfold allC at e2
  split at e2
  ·rename_i hz
   exact absurd (congrArg Prod.fst e2) hz
  ·rename_i hz
   exact ⟨by omega, e2⟩
 rw [try_rest e1 hh e3.1, e3.2]
 simp only [ne_eq, not_true_eq_false, if_false, Bool.false_eq_true]
 refine ⟨s', rfl, ?_⟩
 have hsq : s' = { s' with q := ⟨c.q.e, m.t + 1⟩ } := by
  have := hs'.stay.q
  cases s'
  simp only at this
  rw [this]
 rw [hsq]
 refine Mid.is (c := { c with q := ⟨c.q.e, m.t + 1⟩ }) hs' hq2 h.qe ⟨h.e.1, by have := h.e.2; show c.p.e ≤ _; omega⟩ h.nd ?_ ?_ (put_sh h.ok h.mid.ok hl)
 ·show m.t + 1 = max m.t (m.t + 1); omega
 ·exact M.ok_put h.ok (by unfold inR; simp [h0, h1]) (by rw [hat]; decide) ⟨.inl rfl, by simp; omega⟩
end SL
end Go.Proofs.YtelneaokoiojkaaGreatDoor

namespace Go.Proofs.YtelneaokoiojkaaGreatDoor
open Go.RowKit
namespace SL
open DK SH SQ
set_option maxHeartbeats 1000000 in
theorem usual_any (w : World) : Calls Tryz.prog 26 #[] w fun e w' => ∃ ca xa, e = .returned (.agg #[.int .i64 3, .int .i64 1048576, .slice ca 1 1, .int .i64 10, .int .i64 2]) ∧ Chs w' ca 1 [([0, 1], xa, 2)] ∧ Below w.heap.size w w' := by
 have H0 := Zh ((Sep.start w).allocAt w.heap.size [.int .i64 0, .int .i64 0, .slice none 0 0, .int .i64 0, .int .i64 0] 65 rfl)
 go_enter Tryz.func26, Tryz.ntmps26
 go_upto_region 1 with fail
 obtain ⟨w1, hw1⟩ : ∃ w1, w.alloc (.cells #[.int .i64 0, .int .i64 0, .slice none 0 0, .int .i64 0, .int .i64 0] 65) = w1 := ⟨_, rfl⟩
 rw [hw1]
 have H1 := Zh (show Sep w NoF [.box w.heap.size [.int .i64 0, .int .i64 0, .slice none 0 0, .int .i64 0, .int .i64 0] 65] w1 by rw [← hw1]; exact H0.out)
 clear hw1 H0
 generalize hz : w.heap.size = R
 rw [hz] at H1
 clear hz
 have H2 := (H1.out.allocAt w1.heap.size [.int .i64 0, .int .i64 1] 3 rfl).allocAt (w1.heap.size + 1) [.slice (some ⟨w1.heap.size, 0, none⟩) 2 2] 112 (by simp)
 have hiz : (Tryz.prog.info? 65).map (·.size) = some 5 := by kernel_rfl
 go_wp2_with (refine Sep.storeB H2 2 rfl rfl 65 (.tmp 0) (.tmp 3) rfl [.int .i64 3, .int .i64 1048576, .slice (some ⟨w1.heap.size + 1, 0, none⟩) 1 1, .int .i64 10, .int .i64 2] rfl rfl hiz rfl rfl ?_)
 have H3 := H2.setRow 2 rfl [.int .i64 3, .int .i64 1048576, .slice (some ⟨w1.heap.size + 1, 0, none⟩) 1 1, .int .i64 10, .int .i64 2]
 refine bodyPost_ret (v := .agg #[.int .i64 3, .int .i64 1048576, .slice (some ⟨w1.heap.size + 1, 0, none⟩) 1 1, .int .i64 10, .int .i64 2]) (box_result (by first | rfl | kernel_rfl) (H3.box 0 rfl) _ rfl _ Tryz.underlying65 rfl hiz) rfl ?_
 exact ⟨_, some ⟨w1.heap.size, 0, none⟩, rfl, ⟨slv_box H3 1 rfl, fun x hx => by
  obtain rfl := List.mem_singleton.1 hx
  exact slv_bN (n := 2) H3 2 rfl (by decide)⟩, H3.toBelow⟩
theorem app_us (d : List UInt8) (hd : d.length ≤ 64) {M : Cl} (h : Is 1048576 1 M Go.Proofs.YtelneaokoiojkaaGreatDoor.M.new) : ∃ M', M.append d = (0, 0, M') ∧ Is 1048576 2 M' (Go.Proofs.YtelneaokoiojkaaGreatDoor.M.new.app d).2.2 := by
 obtain ⟨c', h1, h2⟩ := h.append (by decide) (by decide) d
 have e : (Go.Proofs.YtelneaokoiojkaaGreatDoor.M.new.app d).1 = 0 ∧ (Go.Proofs.YtelneaokoiojkaaGreatDoor.M.new.app d).2.1 = 0 := by
  unfold Go.Proofs.YtelneaokoiojkaaGreatDoor.M.app
  rw [if_neg (by omega), if_neg (by decide)]
  exact ⟨rfl, rfl⟩
 rw [e.1, e.2] at h1
 exact ⟨c', h1, h2⟩
@[go_sem] theorem field_st6 (w : World) (a b c d e f g h i j k l m n : Value) : (Instr.field 58 (.agg #[a, b, c, d, e, f, g, h, i, j, k, l, m, n]) 6).run Tryz.prog w = .ok (.agg #[g, h]) w := by kernel_rfl
@[go_sem] theorem field_st2 (w : World) (a b c d e f g h i j k l m n : Value) : (Instr.field 58 (.agg #[a, b, c, d, e, f, g, h, i, j, k, l, m, n]) 2).run Tryz.prog w = .ok c w := by kernel_rfl
@[go_sem] theorem index_b2 (w : World) (x y : Value) : (Instr.index 55 (.agg #[x, y]) (.int .i64 0)).run Tryz.prog w = .ok x w := by kernel_rfl
set_option maxHeartbeats 8000000 in
theorem alive32_any (w : World) (hp : DK.Pow w) : Calls Tryz.prog 4 #[] w fun e w' => e = .returned (.bool true) ∧ Below w.heap.size w w' := by
 have HP := Lib.hid' hp
 clear hp
 have kc := fun (w : World) (C : Array Value) (n c : Nat) => Lib.run_convert_bytes_const (P := Tryz.prog) w 32 5 C n c Tryz.underlying32 Tryz.underlying5
 go_enter Tryz.func4, Tryz.ntmps4
 go_wp2_with fail
 refine (usual_any w).mono ?_
 rintro en w1 ⟨ca, xa, rfl, hX, hb1⟩
 have HX := Lib.hid' hX
 have HB1 := Lib.hid' hb1
 have HP1 := Zh (HP.out.below hb1)
 clear hX hb1
 go_wp2_with fail
 refine (suNew_any ca 1 xa 2 w1 HP1.out HX.out).mono ?_
 rintro en w2 ⟨P, M, rfl, hI, hS⟩
 obtain ⟨M', hA, _⟩ := app_us [120] (by decide) hI
 have HA := Lib.hid' hA
 have HOK := Lib.hid' hI.mid.ok
 have HS2 := Lib.hid' hS
 clear hI hS hA HX
 go_wp2_with fail
 refine (sacq_one w2 HS2.out).mono ?_
 rintro en w3 ⟨rfl, hS⟩
 have HS3 := Lib.hid' hS
 clear hS HS2
 go_upto_region 5 with fail
 have b1 : (w3.alloc (.cells #[.int .i64 1, .int .i64 1, .int .i64 10] 25)).cell? ⟨w3.heap.size, 1, none⟩ = some (.int .i64 1) := by simp [go_sem]
 have bl : w3.heap.size < (w3.alloc (.cells #[.int .i64 1, .int .i64 1, .int .i64 10] 25)).heap.size := by simp
 have HS4 := Zh (HS3.out.below (w' := w3.alloc (.cells #[.int .i64 1, .int .i64 1, .int .i64 10] 25)) (by go_grown))
 clear HS3
 generalize w3.alloc (.cells #[.int .i64 1, .int .i64 1, .int .i64 10] 25) = w4 at *
 generalize w3.heap.size = B at *
 have HPR := Zh (sprom_one w4 HS4.out)
 go_wp2_with (go_at_call 10; refine HPR.out.mono ?_; rintro en w5 ⟨rfl, hS⟩)
 have HS5 := Lib.hid' hS
 clear hS HS4 b1 bl HPR
 have hob : (w5.alloc (.cells #[byteV 120] 5 (1, 2))).heap[w5.heap.size]? = some (.cells #[byteV 120] 5 (1, 2)) := by show (w5.heap.push _)[w5.heap.size]? = _; simp
 have hz : SuAt [Asn.obj w5.heap.size (.cells #[byteV 120] 5 (1, 2))] P 1 1 10 true 1 1 10 1 M w1 (w5.alloc (.cells #[byteV 120] 5 (1, 2))) := by
  obtain ⟨fl, G, Pc, h1, h2, H⟩ := HS5.out
  refine ⟨fl, G, Pc, h1, h2, (H.below1 (A := Asn.obj w5.heap.size (.cells #[byteV 120] 5 (1, 2))) (by go_grown) hob (fun b hb => by have : b = w5.heap.size := hb; omega)).perm ?_⟩
  rw [List.append_nil, ← List.append_assoc]
  exact List.perm_append_comm (l₁ := [_])
 have HZ := Lib.hid' hz
 have hz3 : w5.alloc (Obj.cells #[Value.int IntKind.u8 120] 5 (1, 2)) = w5.alloc (.cells #[byteV 120] 5 (1, 2)) := rfl
 rw [hz3]
 clear hz hz3 hob HS5
 generalize w5.alloc (.cells #[byteV 120] 5 (1, 2)) = w6 at *
 generalize w5.heap.size = N at *
 refine (sapp_one [120] (some ⟨N, 0, none⟩) 1 w6 HP1.out HZ.out HOK.out HA.out (fun w' h' => bytes_obj (h'.at 0 rfl))).mono ?_
 rintro en w7 ⟨rfl, hS⟩
 have HS7 := Lib.hid' hS
 clear hS HZ
 have HST := Zh (sstat_one w7 HS7.out)
 go_wp2_with (go_at_call 24; refine HST.out.mono ?_; rintro en w8 ⟨rfl, hS⟩)
 go_ret
 exact ⟨rfl, HB1.out.trans (Below.mono hS.toBelow HB1.out.size)⟩
end SL
end Go.Proofs.YtelneaokoiojkaaGreatDoor

namespace Go.Proofs.YtelneaokoiojkaaGreatDoor
open Go.RowKit
namespace SL
open DK SH SQ
/-- a call changes nothing old -/
abbrev NilR (w : World) (v : Value) (en : Ending) (w' : World) : Prop := en = .returned v ∧ Below w.heap.size w w'
theorem zside (k : Int) (w : World) : Calls Tryz.prog 27 #[.pointer none, .int .i64 k] w fun e w' => e = .returned (.tuple #[.pointer none, errV 4]) ∧ w = w' := by
 go_enter Tryz.func27, Tryz.ntmps27
 go_wp2
 go_ret2
 exact ⟨rfl, rfl⟩
theorem zwriter (k : Int) (w : World) : Calls Tryz.prog 30 #[.pointer none, .int .i64 k] w fun e w' => e = .returned (.tuple #[.pointer none, errV 4]) ∧ w = w' := by
 go_enter Tryz.func30, Tryz.ntmps30
 go_wp2_with (go_at_call 27; refine (zside _ _).mono ?_; rintro en w' ⟨rfl, rfl⟩; simp only [errV_pos (show 4 ≠ 0 by decide)])
 go_ret2
 exact ⟨rfl, rfl⟩
theorem zfollowed (w : World) : Calls Tryz.prog 48 #[.pointer none] w fun e w' => e = .returned (errV 4) ∧ w = w' := by
 go_enter Tryz.func48, Tryz.ntmps48
 go_wp2
 go_ret
 exact ⟨rfl, rfl⟩
theorem zhas (k : Int) (w : World) : Calls Tryz.prog 92 #[.pointer none, .int .i64 k] w fun e w' => e = .returned (errV 4) ∧ w = w' := by
 go_enter Tryz.func92, Tryz.ntmps92
 go_wp2
 go_ret
 exact ⟨rfl, rfl⟩
theorem zdeliver (k : Int) (w : World) : Calls Tryz.prog 51 #[.pointer none, .int .i64 k] w fun e w' => e = .returned (.tuple #[.slice none 0 0, errV 4]) ∧ w = w' := by
 go_enter Tryz.func51, Tryz.ntmps51
 go_wp2_with (go_at_call 92; refine (zhas _ _).mono ?_; rintro en w' ⟨rfl, rfl⟩; simp only [errV_pos (show 4 ≠ 0 by decide)])
 go_ret2
 exact ⟨rfl, rfl⟩
theorem zpclocks (w : World) : Calls Tryz.prog 19 #[.pointer none] w (NilR w (.pointer none)) := by
 go_enter Tryz.func19, Tryz.ntmps19
 go_wp2_with fail
 go_ret
 exact ⟨rfl, by first | exact Below.refl _ _ | go_grown⟩
theorem zpregister (w : World) : Calls Tryz.prog 21 #[.pointer none] w (NilR w (.pointer none)) := by
 go_enter Tryz.func21, Tryz.ntmps21
 go_wp2_with fail
 go_ret
 exact ⟨rfl, by first | exact Below.refl _ _ | go_grown⟩
theorem zpparcels (w : World) : Calls Tryz.prog 22 #[.pointer none] w (NilR w (.pointer none)) := by
 go_enter Tryz.func22, Tryz.ntmps22
 go_wp2_with fail
 go_ret
 exact ⟨rfl, by first | exact Below.refl _ _ | go_grown⟩
theorem zpreceipts (w : World) : Calls Tryz.prog 23 #[.pointer none] w (NilR w (.pointer none)) := by
 go_enter Tryz.func23, Tryz.ntmps23
 go_wp2_with fail
 go_ret
 exact ⟨rfl, by first | exact Below.refl _ _ | go_grown⟩
theorem zcluster (k : Int) (w : World) : Calls Tryz.prog 20 #[.pointer none, .int .i64 k] w (NilR w (.pointer none)) := by
 go_enter Tryz.func20, Tryz.ntmps20
 go_wp2_with (go_at_call 27; refine (zside _ _).mono ?_; rintro en w' ⟨rfl, rfl⟩; simp only [errV_pos (show 4 ≠ 0 by decide)])
 go_ret
 exact ⟨rfl, by first | exact Below.refl _ _ | go_grown⟩
theorem zreopen (v : Value) (w : World) : Calls Tryz.prog 9 #[.pointer none, v] w (NilR w (errV 4)) := by
 go_enter Tryz.func9, Tryz.ntmps9
 go_wp2_with fail
 go_ret
 exact ⟨rfl, by first | exact Below.refl _ _ | go_grown⟩
theorem zpromote (k : Int) (w : World) : Calls Tryz.prog 10 #[.pointer none, .int .i64 k] w (NilR w (errV 4)) := by
 go_enter Tryz.func10, Tryz.ntmps10
 go_wp2_with (go_at_call 27; refine (zside _ _).mono ?_; rintro en w' ⟨rfl, rfl⟩; simp only [errV_pos (show 4 ≠ 0 by decide)])
 go_ret
 exact ⟨rfl, by first | exact Below.refl _ _ | go_grown⟩
theorem zdemote (k : Int) (w : World) : Calls Tryz.prog 11 #[.pointer none, .int .i64 k] w (NilR w (errV 4)) := by
 go_enter Tryz.func11, Tryz.ntmps11
 go_wp2_with (go_at_call 27; refine (zside _ _).mono ?_; rintro en w' ⟨rfl, rfl⟩; simp only [errV_pos (show 4 ≠ 0 by decide)])
 go_ret
 exact ⟨rfl, by first | exact Below.refl _ _ | go_grown⟩
theorem zfill (k n : Int) (w : World) : Calls Tryz.prog 12 #[.pointer none, .int .i64 k, .int .i64 n] w (NilR w (errV 4)) := by
 go_enter Tryz.func12, Tryz.ntmps12
 go_wp2_with (go_at_call 30; refine (zwriter _ _).mono ?_; rintro en w' ⟨rfl, rfl⟩; simp only [errV_pos (show 4 ≠ 0 by decide)])
 go_ret
 exact ⟨rfl, by first | exact Below.refl _ _ | go_grown⟩
theorem ztrim (k n : Int) (w : World) : Calls Tryz.prog 13 #[.pointer none, .int .i64 k, .int .i64 n] w (NilR w (errV 4)) := by
 go_enter Tryz.func13, Tryz.ntmps13
 go_wp2_with (go_at_call 30; refine (zwriter _ _).mono ?_; rintro en w' ⟨rfl, rfl⟩; simp only [errV_pos (show 4 ≠ 0 by decide)])
 go_ret
 exact ⟨rfl, by first | exact Below.refl _ _ | go_grown⟩
theorem zsend (w : World) : Calls Tryz.prog 14 #[.pointer none] w (NilR w (errV 4)) := by
 go_enter Tryz.func14, Tryz.ntmps14
 go_wp2_with (go_at_call 48; refine (zfollowed _).mono ?_; rintro en w' ⟨rfl, rfl⟩; simp only [errV_pos (show 4 ≠ 0 by decide)])
 go_ret
 exact ⟨rfl, by first | exact Below.refl _ _ | go_grown⟩
theorem zanew (n : Int) (w : World) : Calls Tryz.prog 17 #[.pointer none, .int .i64 n] w (NilR w (errV 4)) := by
 go_enter Tryz.func17, Tryz.ntmps17
 go_wp2_with (go_at_call 48; refine (zfollowed _).mono ?_; rintro en w' ⟨rfl, rfl⟩; simp only [errV_pos (show 4 ≠ 0 by decide)])
 go_ret
 exact ⟨rfl, by first | exact Below.refl _ _ | go_grown⟩
theorem z1parcels (w : World) : Calls Tryz.prog 22 #[.pointer none] w fun e w' => e = .returned (.pointer none) ∧ w = w' := by
 go_enter Tryz.func22, Tryz.ntmps22
 go_wp2
 go_ret
 exact ⟨rfl, rfl⟩
theorem z1receipts (w : World) : Calls Tryz.prog 23 #[.pointer none] w fun e w' => e = .returned (.pointer none) ∧ w = w' := by
 go_enter Tryz.func23, Tryz.ntmps23
 go_wp2
 go_ret
 exact ⟨rfl, rfl⟩
theorem zup (n : Int) (w : World) : Calls Tryz.prog 15 #[.pointer none, .int .i64 n] w (NilR w (errV 4)) := by
 go_enter Tryz.func15, Tryz.ntmps15
 go_wp2_with (first | (go_at_call 22; refine (z1parcels _).mono ?_; rintro en w' ⟨rfl, rfl⟩) | (go_at_call 51; refine (zdeliver _ _).mono ?_; rintro en w' ⟨rfl, rfl⟩; simp only [errV_pos (show 4 ≠ 0 by decide)]))
 go_ret
 exact ⟨rfl, by first | exact Below.refl _ _ | go_grown⟩
theorem zdown (n : Int) (w : World) : Calls Tryz.prog 16 #[.pointer none, .int .i64 n] w (NilR w (errV 4)) := by
 go_enter Tryz.func16, Tryz.ntmps16
 go_wp2_with (first | (go_at_call 23; refine (z1receipts _).mono ?_; rintro en w' ⟨rfl, rfl⟩) | (go_at_call 51; refine (zdeliver _ _).mono ?_; rintro en w' ⟨rfl, rfl⟩; simp only [errV_pos (show 4 ≠ 0 by decide)]))
 go_ret
 exact ⟨rfl, by first | exact Below.refl _ _ | go_grown⟩
theorem zappend (k : Int) (w : World) : Calls Tryz.prog 6 #[.pointer none, .int .i64 k, .slice none 0 0] w (NilR w (.tuple #[.int .i64 0, .int .i64 0, errV 4])) := by
 go_enter Tryz.func6, Tryz.ntmps6
 go_wp2_with (go_at_call 30; refine (zwriter _ _).mono ?_; rintro en w' ⟨rfl, rfl⟩; simp only [errV_pos (show 4 ≠ 0 by decide)])
 go_ret3
 exact ⟨rfl, by first | exact Below.refl _ _ | go_grown⟩
theorem zfailback (k : Int) (w : World) : Calls Tryz.prog 8 #[.pointer none, .int .i64 k] w (NilR w (.tuple #[.slice none 0 0, errV 4])) := by
 go_enter Tryz.func8, Tryz.ntmps8
 go_wp2_with (go_at_call 27; refine (zside _ _).mono ?_; rintro en w' ⟨rfl, rfl⟩; simp only [errV_pos (show 4 ≠ 0 by decide)])
 go_ret2
 exact ⟨rfl, by first | exact Below.refl _ _ | go_grown⟩
theorem zacquire (k : Int) (w : World) : Calls Tryz.prog 5 #[.pointer none, .int .i64 k, .bool true] w (NilR w (.tuple #[.agg #[.int .i64 0, .int .i64 0, .int .i64 0], errV 4])) := by
 go_enter Tryz.func5, Tryz.ntmps5
 go_wp2_with (go_at_call 27; refine (zside _ _).mono ?_; rintro en w' ⟨rfl, rfl⟩; simp only [errV_pos (show 4 ≠ 0 by decide)])
 refine bodyPost_ret (v := .tuple #[.agg #[.int .i64 0, .int .i64 0, .int .i64 0], .iface 46 (.int .i64 4)]) (by simp [results, Tryz.results5, go_sem]) rfl ?_
 exact ⟨rfl, by first | exact Below.refl _ _ | go_grown⟩
theorem zread (k n : Int) (w : World) : Calls Tryz.prog 7 #[.pointer none, .int .i64 k, .int .i64 n] w (NilR w (.tuple #[.agg #[.int .i64 0, .slice none 0 0], errV 4])) := by
 go_enter Tryz.func7, Tryz.ntmps7
 go_wp2_with (go_at_call 27; refine (zside _ _).mono ?_; rintro en w' ⟨rfl, rfl⟩; simp only [errV_pos (show 4 ≠ 0 by decide)])
 refine bodyPost_ret (v := .tuple #[.agg #[.int .i64 0, .slice none 0 0], .iface 46 (.int .i64 4)]) (by simp [results, Tryz.results7, go_sem]) rfl ?_
 exact ⟨rfl, by first | exact Below.refl _ _ | go_grown⟩
def st0 : List Value := [.int .i64 0, .int .i64 0, .int .i64 0, .int .i64 0, .int .i64 0, .bool false, .bool false, .bool false, .int .i64 0, .int .i64 0, .int .i64 0, .int .i64 0, .int .i64 0, .int .i64 0]
set_option maxHeartbeats 1000000 in
theorem zstatus (w : World) : Calls Tryz.prog 24 #[.pointer none] w (NilR w (.agg #[.int .i64 0, .int .i64 0, .int .i64 0, .int .i64 0, .int .i64 0, .bool false, .bool false, .bool false, .int .i64 0, .int .i64 0, .int .i64 0, .int .i64 0, .int .i64 0, .int .i64 0])) := by
 have H0 := Zh ((Sep.start w).allocAt w.heap.size st0 58 rfl)
 have hiz : (Tryz.prog.info? 58).map (·.size) = some st0.length := by kernel_rfl
 go_enter Tryz.func24, Tryz.ntmps24
 go_wp2_with (refine Sep.storeB H0.out 0 rfl rfl 58 (.tmp 2) (.tmp 8) rfl st0 rfl rfl hiz rfl rfl ?_)
 have H4 := H0.out.setRow 0 rfl st0
 refine bodyPost_ret (v := .agg st0.toArray) (box_result (by first | rfl | kernel_rfl) (H4.box 0 rfl) _ rfl _ Tryz.underlying58 rfl hiz) rfl ?_
 exact ⟨rfl, H4.toBelow⟩
end SL
end Go.Proofs.YtelneaokoiojkaaGreatDoor

namespace Go.Proofs.YtelneaokoiojkaaGreatDoor
open Go.RowKit
namespace SL
open DK SH SQ
@[go_sem] theorem eq_lz (w : World) : (Op.equalIn 10000 25 (.agg #[.int .i64 0, .int .i64 0, .int .i64 0]) (.agg #[.int .i64 0, .int .i64 0, .int .i64 0])).run Tryz.prog w = .ok true w := by kernel_rfl
@[go_sem] theorem eq_bz (w : World) : (Op.equalIn 9999 55 (.agg #[.bool false, .bool false]) (.agg #[.bool false, .bool false])).run Tryz.prog w = .ok true w := by kernel_rfl
@[go_sem] theorem eq_lz2 (w : World) : (Op.equalIn 9999 56 (.agg #[.int .i64 0, .int .i64 0, .int .i64 0, .int .i64 0, .int .i64 0, .int .i64 0]) (.agg #[.int .i64 0, .int .i64 0, .int .i64 0, .int .i64 0, .int .i64 0, .int .i64 0])).run Tryz.prog w = .ok true w := by kernel_rfl
theorem below_cat {a b c : World} (h1 : Below a.heap.size a b) (h2 : Below b.heap.size b c) : Below a.heap.size a c := h1.trans (h2.mono h1.size)
theorem is4 (w : World) : Calls Tryz.prog 18 #[.iface 46 (.int .i64 4), .int .i64 4] w fun e w' => e = .returned (.bool true) ∧ w = w' := is_any 4 4 w
set_option maxHeartbeats 8000000 in
theorem suiteNil_any (k n : Int) (w : World) (hp : DK.Pow w) : Calls Tryz.prog 3 #[.int .i64 k, .int .i64 n] w fun e w' => e = .returned (.bool true) ∧ Below w.heap.size w w' := by
 have HA := Zh (alive32_any w hp)
 clear hp
 have e4 : errV 4 = .iface 46 (.int .i64 4) := rfl
 go_enter Tryz.func3, Tryz.ntmps3
 go_wp2_with fail
 refine HA.out.mono ?_
 rintro en w1 ⟨rfl, hb1⟩
 have H1 := Zh ((Sep.start w).below hb1)
 clear hb1 HA
 go_wp2_with fail
 refine (zacquire k w1).mono ?_
 rintro en w2 ⟨rfl, hb2⟩
 have H3 := Zh ((H1.out.below hb2).allocAt w2.heap.size [.int .i64 0, .int .i64 0, .int .i64 0] 25 rfl)
 rw [e4]
 clear hb2 H1
 go_upto_region 5 with fail
 generalize w2.alloc (.cells #[.int .i64 0, .int .i64 0, .int .i64 0] 25) = w3 at *
 generalize w2.heap.size = B at *
 go_wp2_with fail
 refine (zappend k w3).mono ?_
 rintro en w4 ⟨rfl, hb⟩
 have H4 := Zh (H3.out.below hb)
 rw [e4]
 clear hb H3
 go_wp2_with fail
 refine (zread k n w4).mono ?_
 rintro en w5 ⟨rfl, hb⟩
 have H6 := Zh ((H4.out.below hb).allocAt w5.heap.size [.int .i64 0, .slice none 0 0] 34 rfl)
 rw [e4]
 clear hb H4
 go_upto_region 7 with fail
 generalize w5.alloc (.cells #[.int .i64 0, .slice none 0 0] 34) = w6 at *
 generalize w5.heap.size = X at *
 go_wp2_with fail
 refine (zfailback k w6).mono ?_
 rintro en w7 ⟨rfl, hb⟩
 have H7 := Zh (H6.out.below hb)
 rw [e4]
 clear hb H6
 go_upto_region 9 with fail
 have HQ0 := Zh (H7.out.below (w' := w7.alloc (.cells #[.bool true] 4)) (by go_grown))
 clear H7
 go_wp2_with fail
 refine (zreopen _ _).mono ?_
 rintro en y1 ⟨rfl, hb⟩
 have HQ1 := Zh (HQ0.out.below hb)
 rw [e4]
 clear hb HQ0
 go_wp2_with fail
 refine (zpromote k _).mono ?_
 rintro en y2 ⟨rfl, hb⟩
 have HQ2 := Zh (HQ1.out.below hb)
 rw [e4]
 clear hb HQ1
 go_wp2_with fail
 refine (zdemote k _).mono ?_
 rintro en y3 ⟨rfl, hb⟩
 have HQ3 := Zh (HQ2.out.below hb)
 rw [e4]
 clear hb HQ2
 go_wp2_with fail
 refine (zfill k n _).mono ?_
 rintro en y4 ⟨rfl, hb⟩
 have HQ4 := Zh (HQ3.out.below hb)
 rw [e4]
 clear hb HQ3
 go_wp2_with fail
 refine (ztrim k n _).mono ?_
 rintro en y5 ⟨rfl, hb⟩
 have HQ5 := Zh (HQ4.out.below hb)
 rw [e4]
 clear hb HQ4
 go_wp2_with fail
 refine (zsend _).mono ?_
 rintro en y6 ⟨rfl, hb⟩
 have HQ6 := Zh (HQ5.out.below hb)
 rw [e4]
 clear hb HQ5
 go_wp2_with fail
 refine (zup n _).mono ?_
 rintro en y7 ⟨rfl, hb⟩
 have HQ7 := Zh (HQ6.out.below hb)
 rw [e4]
 clear hb HQ6
 go_wp2_with fail
 refine (zdown n _).mono ?_
 rintro en y8 ⟨rfl, hb⟩
 have HQ8 := Zh (HQ7.out.below hb)
 rw [e4]
 clear hb HQ7
 go_wp2_with fail
 refine (zanew n _).mono ?_
 rintro en y9 ⟨rfl, hb⟩
 have HQ9 := Zh (HQ8.out.below hb)
 rw [e4]
 clear hb HQ8
 have H8 := Zh (HQ9.out.allocAt y9.heap.size (List.replicate 13 (.iface 46 (.int .i64 4))) 27 rfl)
 clear HQ9
 go_upto_region 10 with fail
 obtain ⟨w8, hw8⟩ : ∃ w8, y9.alloc (.cells #[.iface 46 (.int .i64 4), .iface 46 (.int .i64 4), .iface 46 (.int .i64 4), .iface 46 (.int .i64 4), .iface 46 (.int .i64 4), .iface 46 (.int .i64 4), .iface 46 (.int .i64 4), .iface 46 (.int .i64 4), .iface 46 (.int .i64 4), .iface 46 (.int .i64 4), .iface 46 (.int .i64 4), .iface 46 (.int .i64 4), .iface 46 (.int .i64 4)] 27) = w8 := ⟨_, rfl⟩
 have hw9 : y9.alloc (.cells (List.replicate 13 (.iface 46 (.int .i64 4))).toArray 27) = w8 := hw8
 rw [hw9] at H8
 rw [hw8]
 clear hw8 hw9
 generalize y9.heap.size = C at *
 go_loopw [15, 80] (fun v15 v80 wr => ∃ K : Nat, v15 = .bool true ∧ v80 = .int .i64 K ∧ K ≤ 13 ∧ wr = w8) (fun _ v80 _ => (13 - intOf v80).toNat)
 case atStart => exact ⟨0, rfl, rfl, by decide, rfl⟩
 case round =>
  obtain ⟨K, rfl, rfl, hK, rfl⟩ := hrel
  by_cases hlt : K < 13
  ·have hc := H8.out.cell 0 rfl K (v := .iface 46 (.int .i64 4)) (by rw [List.getElem?_replicate, if_pos hlt])
   have hl := H8.out.lt 0 rfl
   go_wp2_with (go_at_call 18; refine (is4 _).mono ?_; rintro en wz ⟨rfl, rfl⟩)
   go_roundw
   case rel => exact ⟨K + 1, by first | rfl | trivial, by go_num, by omega, by first | rfl | trivial⟩
   case measure => simp [intOf]; omega
  ·obtain rfl : K = 13 := by omega
   have b0 := H8.out.cell 2 rfl 0 rfl; have b1 := H8.out.cell 2 rfl 1 rfl; have b2 := H8.out.cell 2 rfl 2 rfl; have bl := H8.out.lt 2 rfl
   have x0 := H8.out.cell 1 rfl 0 rfl; have xl := H8.out.lt 1 rfl
   go_wp2_with (first | (go_at_call 19; refine (zpclocks _).mono ?_; rintro en q0 ⟨rfl, hb0⟩) | (go_at_call 20; refine (zcluster _ _).mono ?_; rintro en q1 ⟨rfl, hb1⟩) | (go_at_call 21; refine (zpregister _).mono ?_; rintro en q2 ⟨rfl, hb2⟩) | (go_at_call 22; refine (zpparcels _).mono ?_; rintro en q3 ⟨rfl, hb3⟩) | (go_at_call 23; refine (zpreceipts _).mono ?_; rintro en q4 ⟨rfl, hb4⟩) | (go_at_call 24; refine (zstatus _).mono ?_; rintro en q5 ⟨rfl, hb5⟩))
   go_ret
   exact ⟨rfl, H8.out.toBelow.trans (Below.mono (below_cat (below_cat (below_cat (below_cat (below_cat hb0 hb1) hb2) hb3) hb4) hb5) H8.out.toBelow.size)⟩
end SL
end Go.Proofs.YtelneaokoiojkaaGreatDoor
