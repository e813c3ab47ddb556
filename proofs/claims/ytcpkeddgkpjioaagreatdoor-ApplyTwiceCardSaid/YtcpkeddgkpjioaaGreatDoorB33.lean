/- Proved here: a part of the proof (33 of 34). -/
import Derived.Test.YtcpkeddgkpjioaaGreatDoorB30
import Derived.Test.YtcpkeddgkpjioaaGreatDoorB32
set_option linter.unusedSimpArgs false
set_option linter.unusedVariables false
set_option maxRecDepth 100000
namespace Go.Proofs.YtcpkeddgkpjioaaGreatDoor
open Go.RowKit
namespace SL
open DK SH SQ
/-- which parcels are right -/
def pclC (e t f : Int) (X : List C) : Nat := if inB e 1099511627776 = false ∨ inB t 1048576 = false then 1 else segC f X
set_option maxHeartbeats 8000000 in
theorem pclCheck_any (e t f : Int) (a : Option Addr) (k : Nat) (X : List CE) (w : World) (h : CEs w a k X) : Calls Tryz.prog 46 #[pclV e t f a X.length k] w fun en w' => en = .returned (errV (pclC e t f (X.map (·.c)))) ∧ Below w.heap.size w w' := by
 have HF := Zh (show pclC e t f (X.map (·.c)) = if inB e 1099511627776 = false ∨ inB t 1048576 = false then 1 else segC f (X.map (·.c)) from rfl)
 have hs1 := (Sep.start w).allocAt w.heap.size [.int .i64 e, .int .i64 t, .int .i64 f, .slice a X.length k] 41 rfl
 obtain ⟨w1, hw1⟩ : ∃ w1, w.alloc (.cells #[.int .i64 e, .int .i64 t, .int .i64 f, .slice a X.length k] 41) = w1 := ⟨_, rfl⟩
 have hs2 : Sep w NoF [.box w.heap.size [.int .i64 e, .int .i64 t, .int .i64 f, .slice a X.length k] 41] w1 := by rw [← hw1]; exact hs1
 have H1 := Lib.hid' hs2
 have HSC := Zh (segCheck_any f a k X w1 (h.below hs2.toBelow))
 clear h hs1 hs2
 go_enter Tryz.func46, Tryz.ntmps46
 go_upto_region 1 with fail
 try rw [hw1]
 clear hw1
 have q0 := H1.out.cell 0 rfl 0 rfl; have q1 := H1.out.cell 0 rfl 1 rfl; have q2 := H1.out.cell 0 rfl 2 rfl; have q3 := H1.out.cell 0 rfl 3 rfl; have ql := H1.out.lt 0 rfl
 have FIN := Zh (fun wq (hq : Below w1.heap.size w1 wq) => H1.out.toBelow.trans (hq.mono H1.out.toBelow.size))
 cases hi1 : inB e 1099511627776 with
 | false =>
  have HR := Zh (HF.out.trans (if_pos (.inl hi1)))
  go_wp2_with (go_at_call 78; refine (pcin_any _ _ _).mono ?_; rintro en w' ⟨rfl, rfl⟩)
  go_ret
  rw [HR.out]
  exact ⟨rfl, FIN.out _ (Below.refl _ _)⟩
 | true =>
 cases hi2 : inB t 1048576 with
 | false =>
  have HR := Zh (HF.out.trans (if_pos (.inr hi2)))
  go_wp2_with (go_at_call 78; refine (pcin_any _ _ _).mono ?_; rintro en w' ⟨rfl, rfl⟩)
  go_ret
  rw [HR.out]
  exact ⟨rfl, FIN.out _ (Below.refl _ _)⟩
 | true =>
 have HR := Zh (HF.out.trans (if_neg (by rw [hi1, hi2]; decide)))
 clear HF
 generalize segC f (X.map (·.c)) = z at *
 go_wp2_with (first | (go_at_call 78; refine (pcin_any _ _ _).mono ?_; rintro en w' ⟨rfl, rfl⟩) | (go_at_call 79; refine HSC.out.mono ?_; rintro en w2 ⟨rfl, hb2⟩))
 go_ret
 rw [HR.out]
 exact ⟨rfl, FIN.out _ hb2⟩
theorem ceV_drop (X : List CE) (j : Nat) : (X.drop j).flatMap ceV = (X.flatMap ceV).drop (j * 2) := by
 induction X generalizing j with
 | nil => simp
 | cons x X ih =>
  cases j with
  | zero => simp
  | succ j =>
   rw [List.drop_succ_cons, ih, List.flatMap_cons, show (j + 1) * 2 = (ceV x).length + j * 2 by show _ = 2 + j * 2; omega, List.drop_append]
   simp
theorem CEs.drop {w : World} {b off : Nat} {k : Nat} {X : List CE} (h : CEs w (some ⟨b, off, none⟩) k X) {j : Nat} (hj : j ≤ X.length) : CEs w (some ⟨b, off + j * 2, none⟩) (k - j) (X.drop j) := by
 refine ⟨?_, fun x hx => h.each x (List.mem_of_mem_drop hx)⟩
 obtain ⟨a, c, he, h1, h2, h3, h4⟩ := h.row
 simp only [Value.slice.injEq] at he
 obtain ⟨rfl, _, rfl⟩ := he
 have hadd : ∀ b o j : Nat, (⟨b, o, none⟩ : Addr).add j = ⟨b, o + j, none⟩ := fun b o j => by unfold Addr.add; split <;> simp_all
 refine ⟨_, _, rfl, by rw [List.length_drop]; omega, by omega, by simp, fun i u hu => ⟨_, rfl, ?_⟩⟩
 rw [ceV_drop, List.getElem?_drop] at hu
 obtain ⟨p, hp, hc⟩ := h4 _ u hu
 cases hp
 rw [hadd] at hc
 rw [hadd, Nat.add_assoc]; exact hc
theorem CEs.take {w : World} {a : Option Addr} {k : Nat} {X : List CE} (h : CEs w a k X) {j : Nat} (hj : j ≤ X.length) : CEs w a k (X.take j) := by
 refine ⟨?_, fun x hx => h.each x (List.mem_of_mem_take hx)⟩
 obtain ⟨a', c, he, h1, h2, h3, h4⟩ := h.row
 simp only [Value.slice.injEq] at he
 obtain ⟨rfl, _, rfl⟩ := he
 refine ⟨_, _, rfl, by rw [List.length_take]; omega, h2, h3, fun i u hu => h4 i u ?_⟩
 have e : X.flatMap ceV = (X.take j).flatMap ceV ++ (X.drop j).flatMap ceV := by rw [← List.flatMap_append, List.take_append_drop]
 rw [e, List.getElem?_append_left (List.getElem?_eq_some_iff.1 hu).1]
 exact hu
def emptyC (x : CE) : Bool := x.c.k == 0
theorem emptyC_any (x : CE) (w : World) : Calls Tryz.prog 83 #[.agg (ceV x).toArray] w fun e w' => e = .returned (.bool (emptyC x)) ∧ Below w.heap.size w w' := by
 obtain ⟨⟨k, d⟩, a, c⟩ := x
 have HE := Zh (show emptyC ⟨⟨k, d⟩, a, c⟩ = (k == 0) from rfl)
 rw [show (ceV ⟨⟨k, d⟩, a, c⟩).toArray = #[.int .i64 k, .slice a d.length c] from rfl]
 go_enter Tryz.func83, Tryz.ntmps83
 go_wp2_with fail
 go_ret
 rw [HE.out]
 exact ⟨rfl, by go_grown⟩
theorem cf_news (args : Array Value) (w : World) : (callFunc 83 args).run Tryz.prog w = .ok (.enter 83 args) w := by kernel_rfl
set_option maxHeartbeats 4000000 in
theorem idxCe_any (l : List CE) (a : Option Addr) (c : Nat) (w : World) (h : CEs w a c l) :
  Calls Tryz.prog 82 #[.slice a l.length c, .func (.func 83) #[] #[]] w fun e w' => e = .returned (.int .i64 (idxB emptyC l)) ∧ Below w.heap.size w w' := by
 have HS := Lib.hid' h
 have hlen : l.length ≤ 9223372036854775807 := by obtain ⟨_, _, he, h1, h2, _⟩ := h.row; cases he; unfold maxLen at h2; omega
 have hcf := cf_news
 clear h
 go_enter Tryz.func82, Tryz.ntmps82
 go_wp2_with fail
 go_loopw [8] (fun v8 wr => ∃ k : Nat, v8 = .int .i64 k ∧ k ≤ l.length ∧ Hid (∀ y ∈ l.take k, emptyC y = false) ∧ Hid (Below w.heap.size w wr)) (fun v8 _ => l.length - (intOf v8).toNat)
 case atStart => exact ⟨0, rfl, Nat.zero_le _, Zh (by simp), Zh (Below.refl _ _)⟩
 case round =>
  obtain ⟨k, rfl, hk, HNO, HB⟩ := hrel
  by_cases hlt : k < l.length
  ·have hx := HS.out.below HB.out
   obtain ⟨b, off, rfl, hb, hc⟩ := SlV.row (f := ceV) (s := 2) (fun _ => rfl) (by decide) hx.row hlt
   have c0 := hc 0 _ rfl; have c1 := hc 1 _ rfl
   simp only [Nat.add_zero] at c0
   have HH := Zh (fun h2 => idxB_hit (f := emptyC) hlt HNO.out h2)
   have HT := Zh (fun h2 => take_no (f := emptyC) hlt HNO.out h2)
   have HC := Zh (emptyC_any l[k] wr)
   clear hc hx
   generalize l[k] = y at *
   obtain ⟨⟨yk, yd⟩, ya, yc⟩ := y
   simp only at c0 c1
   rw [show (ceV ⟨⟨yk, yd⟩, ya, yc⟩).toArray = #[.int .i64 yk, .slice ya yd.length yc] from rfl] at HC
   go_wp2_with fail
   refine HC.out.mono ?_
   rintro e w2 ⟨rfl, hb2⟩
   have HB2 := Zh (HB.out.trans (hb2.mono HB.out.size))
   clear hb2 HC c0 c1 hb
   cases hq : emptyC ⟨⟨yk, yd⟩, ya, yc⟩ with
   | true =>
    have HF := Zh (HH.out hq)
    go_wp2_with fail
    go_ret
    exact ⟨ret_eq (by rw [HF.out]; rfl), HB2.out⟩
   | false =>
    have HF := Zh (HT.out hq)
    go_wp2_with fail
    go_roundw
    case rel => exact ⟨k + 1, by go_num, by omega, HF, HB2⟩
    case measure => simp [intOf]; omega
  ·have HF := Zh (idxB_none (f := emptyC) (by have := HNO.out; rwa [List.take_of_length_le (by omega)] at this))
   go_wp2_with fail
   go_ret
   exact ⟨ret_eq (by rw [HF.out]; rfl), HB.out⟩
/-- the cells of a segment from an address on, up to the first empty one -/
def newsS (f : Int) (X : List CE) (a : Int) : List CE := if f + X.length ≤ a then [] else if 0 ≤ idxB emptyC (X.drop (a - f).toNat) then (X.drop (a - f).toNat).take (idxB emptyC (X.drop (a - f).toNat)).toNat else X.drop (a - f).toNat
set_option maxHeartbeats 8000000 in
theorem news_any (f a : Int) (X : List CE) (pa : Option Addr) (pk : Nat) (w : World) (h : CEs w pa pk X) (hf : 0 ≤ f ∧ f ≤ 1048576) (hn : X.length ≤ 64) (ha : f ≤ a) :
  Calls Tryz.prog 48 #[.agg #[.int .i64 f, .slice pa X.length pk], .int .i64 a] w fun en w' => ∃ na nk, en = .returned (.slice na (newsS f X a).length nk) ∧ (∀ wq, CEs wq pa pk X → CEs wq na nk (newsS f X a)) ∧ Below w.heap.size w w' := by
 have HF := Zh (show newsS f X a = if f + X.length ≤ a then [] else if 0 ≤ idxB emptyC (X.drop (a - f).toNat) then (X.drop (a - f).toNat).take (idxB emptyC (X.drop (a - f).toNat)).toNat else X.drop (a - f).toNat from rfl)
 have hs1 := (Sep.start w).allocAt w.heap.size [.int .i64 f, .slice pa X.length pk] 39 rfl
 obtain ⟨w1, hw1⟩ : ∃ w1, w.alloc (.cells #[.int .i64 f, .slice pa X.length pk] 39) = w1 := ⟨_, rfl⟩
 have hs2 : Sep w NoF [.box w.heap.size [.int .i64 f, .slice pa X.length pk] 39] w1 := by rw [← hw1]; exact hs1
 have H1 := Lib.hid' hs2
 have HX := Lib.hid' h
 have HEND := Zh (segEnd_any f pa X.length pk w1 hf (by omega))
 have hcap : X.length ≤ pk ∧ pk ≤ maxLen := by obtain ⟨_, _, he, h1, h2, _⟩ := h.row; cases he; exact ⟨h1, h2⟩
 have hcap2 : pk ≤ 9223372036854775807 := by have := hcap.2; unfold maxLen at this; omega
 clear h hs1 hs2
 go_enter Tryz.func48, Tryz.ntmps48
 go_upto_region 1 with fail
 try rw [hw1]
 clear hw1
 have q0 := H1.out.cell 0 rfl 0 rfl; have q1 := H1.out.cell 0 rfl 1 rfl; have ql := H1.out.lt 0 rfl
 go_wp2_with fail
 refine HEND.out.mono ?_
 clear HEND
 rintro en w2 ⟨rfl, hb2⟩
 have H2 := Zh (H1.out.below hb2)
 clear q0 q1 ql hb2 H1
 by_cases hge : f + X.length ≤ a
 ·have HR := Zh (HF.out.trans (if_pos hge))
  clear HF
  go_wp2_with fail
  go_ret
  rw [HR.out]
  exact ⟨none, 0, rfl, fun wq _ => ⟨SlV.of_own (own_nil _ 0 0 0), by simp⟩, H2.out.toBelow⟩
 have HF1 := Zh (HF.out.trans (if_neg hge))
 clear HF
 obtain ⟨j, hj⟩ : ∃ j : Nat, a - f = j := ⟨(a - f).toNat, by omega⟩
 have hjl : j < X.length := by omega
 have hjt : (a - f).toNat = j := by omega
 rw [hjt] at HF1
 have HX2 := Zh (HX.out.below H2.out.toBelow)
 obtain ⟨b, off, rfl, hbl, _⟩ := SlV.row (f := ceV) (s := 2) (fun _ => rfl) (by decide) HX2.out.row hjl
 have q0 := H2.out.cell 0 rfl 0 rfl; have q1 := H2.out.cell 0 rfl 1 rfl; have ql := H2.out.lt 0 rfl
 have HDR := Zh (HX2.out.drop (j := j) (by omega))
 have hjk : j < pk := by omega
 obtain rfl : a = f + j := by omega
 have e1 : f + (j : Int) - f = j := by omega
 clear hjt hge hj
 go_upto_region 4 with fail
 have hix := idxCe_any (X.drop j) (some ⟨b, off + j * 2, none⟩) (pk - j) w2 HDR.out
 rw [List.length_drop] at hix
 have HIX := Lib.hid' hix
 have hig := idxB_ge emptyC (X.drop j)
 rw [List.length_drop] at hig
 have HDL := Zh (show (X.drop j).length = X.length - j from List.length_drop ..)
 have HDQ := Zh (fun (wq : World) (hq : CEs wq (some ⟨b, off, none⟩) pk X) => hq.drop (j := j) (by omega))
 clear hix HDR q0 q1 ql
 generalize X.drop j = Y at *
 generalize idxB emptyC Y = i at *
 go_wp2_with fail
 refine HIX.out.mono ?_
 clear HIX
 rintro en w3 ⟨rfl, hb3⟩
 have HB3 := Zh (H2.out.toBelow.trans (hb3.mono H2.out.toBelow.size))
 clear hb3 H2
 by_cases hi0 : 0 ≤ i
 ·obtain ⟨m, rfl⟩ : ∃ m : Nat, i = m := ⟨i.toNat, by omega⟩
  have hm : m ≤ X.length - j := by omega
  have HR := Zh (HF1.out.trans (by rw [if_pos hi0, Int.toNat_natCast] : _ = Y.take m))
  have HML := Zh (show (Y.take m).length = m by rw [List.length_take, HDL.out]; omega)
  clear HF1
  go_wp2_with fail
  go_ret
  rw [HR.out]
  exact ⟨some ⟨b, off + j * 2, none⟩, pk - j, by rw [HML.out]; rfl, fun wq hq => (HDQ.out wq hq).take (by rw [HDL.out]; omega), HB3.out⟩
 ·have HR := Zh (HF1.out.trans (if_neg hi0))
  clear HF1
  go_wp2_with fail
  go_ret
  rw [HR.out]
  exact ⟨some ⟨b, off + j * 2, none⟩, pk - j, by rw [HDL.out]; rfl, HDQ.out, HB3.out⟩
/-- one cell is applied -/
def oneS (M : Cl) (a : Int) (y : C) : Nat × Cl := if y.k = 3 then (0, M) else if (M.putAt a y).1 ≠ 9 then M.putAt a y else markS (M.putAt a y).2 (a + 1)
theorem putAt_ok {M : Cl} (h : M.ok) (a : Int) (y : C) : (M.putAt a y).2.ok := (putAt_up h a y).ok
theorem markS_ok {M : Cl} (h : M.ok) (b : Int) : (markS M b).2.ok := by
 unfold markS
 split
 ·exact h
 ·exact (trim_up h b).ok
theorem oneS_ok {M : Cl} (h : M.ok) (a : Int) (y : C) : (oneS M a y).2.ok := by
 unfold oneS
 split
 ·exact h
 ·split
  ·exact putAt_ok h _ _
  ·exact markS_ok (putAt_ok h _ _) _
set_option maxHeartbeats 8000000 in
theorem one_any {c b : Nat} {M : Cl} {J : CJ} {L : List Asn} {W : World} (x : Sp) (y : C) (ya : Option Addr) (yc : Nat) (w : World) (hp : Pow W) (h : ClAt c M J (Asn.appl b x :: L) W w) (hok : M.ok) (hx : 0 ≤ x.a ∧ x.a ≤ 1048640) (hB : ∀ M' w', ClAt c M' J L W w' → Bytes w' (.slice ya y.d.length yc) y.d) :
  Calls Tryz.prog 80 #[ptrV b, ptrV c, .agg #[.int .i64 y.k, .slice ya y.d.length yc]] w fun en w' => en = .returned (errV (oneS M x.a y).1) ∧ ClAt c (oneS M x.a y).2 J (Asn.appl b x :: L) W w' := by
 have HP := Lib.hid' hp
 have HOK := Lib.hid' hok
 have h1 := h.allocB w.heap.size [.int .i64 y.k, .slice ya y.d.length yc] 36 rfl
 obtain ⟨w1, hw1⟩ : ∃ w1, w.alloc (.cells #[.int .i64 y.k, .slice ya y.d.length yc] 36) = w1 := ⟨_, rfl⟩
 rw [show ([.int .i64 y.k, .slice ya y.d.length yc] : List Value).toArray = #[.int .i64 y.k, .slice ya y.d.length yc] from rfl, hw1] at h1
 have H1 := Lib.hid' h1
 have HBY := Lib.hid' hB
 have HF := Zh (show oneS M x.a y = if y.k = 3 then (0, M) else if (M.putAt x.a y).1 ≠ 9 then M.putAt x.a y else markS (M.putAt x.a y).2 (x.a + 1) from rfl)
 have HPT := Zh (fun (wq : World) (hq : ClAt c M J (.box w.heap.size [.int .i64 y.k, .slice ya y.d.length yc] 36 :: Asn.appl b x :: L) W wq) => Put_any x.a y ya yc wq hp hq hok (fun M' w' h' => hB M' w' (ClAt.less (K := [_, _]) h')))
 have HPK := Zh (putAt_ok hok x.a y)
 clear h h1 hp hok hB
 obtain ⟨yk, yd⟩ := y
 obtain ⟨xe, xa⟩ := x
 simp only at H1 HF HPT HPK hx ⊢
 go_enter Tryz.func80, Tryz.ntmps80
 go_upto_region 1 with fail
 try rw [hw1]
 clear hw1
 generalize w.heap.size = N at *
 have c0 := H1.out.side.cell 0 rfl 0 rfl; have c1 := H1.out.side.cell 0 rfl 1 rfl; have cl := H1.out.side.lt 0 rfl
 have a1 := H1.out.side.cell 1 rfl 1 rfl; have al := H1.out.side.lt 1 rfl
 by_cases hk : yk = 3
 ·have HR := Zh (HF.out.trans (if_pos hk))
  subst hk
  clear HF HPT
  go_wp2_with fail
  go_ret
  rw [HR.out]
  exact ⟨rfl, ClAt.less (K := [_]) H1.out⟩
 ·have HF1 := Zh (HF.out.trans (if_neg hk))
  clear HF
  generalize M.putAt xa ⟨yk, yd⟩ = pr at *
  obtain ⟨pz, M1⟩ := pr
  simp only at HPT HPK HF1
  go_upto_region 3 with fail
  refine startD (S := (fun w' => w'.cell? ⟨b, 1, none⟩ = some (.int .i64 xa) ∧ b < w'.heap.size ∧ w'.cell? ⟨N, 0, none⟩ = some (.int .i64 yk) ∧ w'.cell? ⟨N, 1, none⟩ = some (.slice ya yd.length yc) ∧ N < w'.heap.size)) (by kernel_rfl) ⟨a1, al, c0, c1, cl⟩ (fun hH0 => ?_)
  simp only [List.length_cons, List.length_nil, Nat.reduceAdd, List.replicate_succ, List.replicate_zero]
  refine tD 0 11 (.pointer (some ⟨c, 0, none⟩)) rfl rfl [(1, .pointer (some ⟨c, 0, none⟩))] hH0 ?_
  dsimp only [sZ, sS]
  refine tD 1 12 (.pointer (some ⟨b, 0, none⟩)) rfl rfl [(0, .pointer (some ⟨b, 0, none⟩))] hH0 ?_
  dsimp only [sZ, sS]
  refine tD 2 13 (.pointer (some ⟨b, 0, none⟩)) rfl rfl [(12, .pointer (some ⟨b, 0, none⟩))] hH0 ?_
  dsimp only [sZ, sS]
  refine tD 3 14 (.pointer (some ⟨b, 1, none⟩)) rfl rfl [(13, .pointer (some ⟨b, 0, none⟩))] hH0 ?_
  dsimp only [sZ, sS]
  refine tD 4 15 (.int .i64 xa) rfl rfl [(14, .pointer (some ⟨b, 1, none⟩))] hH0 ?_
  dsimp only [sZ, sS]
  refine tD 5 16 (.agg #[.int .i64 yk, .slice ya yd.length yc]) rfl rfl [(5, .pointer (some ⟨N, 0, none⟩))] hH0 ?_
  dsimp only [sZ, sS]
  refine rD 6 rfl (fun K hK => ?_)
  go_simp
  refine (HPT.out _ (H1.out.below (Below.refl w1.heap.size w1).drew)).mono ?_
  clear HPT
  rintro en w5 ⟨rfl, h5⟩
  have H5 := Lib.hid' h5
  clear h5
  refine hK.out _ _ ?_ (fun hH1 => ?_)
  ·exact ⟨H5.out.side.cell 1 rfl 1 rfl, H5.out.side.lt 1 rfl, H5.out.side.cell 0 rfl 0 rfl, H5.out.side.cell 0 rfl 1 rfl, H5.out.side.lt 0 rfl⟩
  clear hK K
  try simp only [Act.put, gA, gZ, gS, sA, sZ, sS]
  refine tD 7 7 (errV pz) rfl rfl [(17, errV pz)] hH1 ?_
  dsimp only [sZ, sS]
  refine wpAnyH_done (by kernel_rfl) ?_ _
  skip
  clear c0 c1 cl a1 al H1
  have H6 := Zh (ClAt.less (K := [_]) H5.out)
  clear H5
  by_cases hz : pz = 9
  ·subst hz
   have HR := Zh (HF1.out.trans (if_neg (by simp)))
   rw [errV_pos (by decide)]
   clear HF1
   have a1 := H6.out.side.cell 0 rfl 1 rfl; have al := H6.out.side.lt 0 rfl
   have HMK := Zh (mark_any (xa + 1) w5 HP.out H6.out HPK.out)
   go_wp2_with fail
   refine HMK.out.mono ?_
   rintro en w7 ⟨rfl, h7⟩
   have H7 := Lib.hid' h7
   clear h7
   go_wp2_with fail
   go_ret
   rw [HR.out]
   exact ⟨rfl, H7.out⟩
  ·have HR := Zh (HF1.out.trans (if_pos hz))
   clear HF1
   by_cases hz0 : pz = 0
   ·subst hz0
    rw [errV_0]
    go_wp2_with fail
    go_ret
    rw [HR.out]
    exact ⟨rfl, H6.out⟩
   ·have HZ := Lib.hid' hz0
    rw [errV_pos hz0]
    have hz9 : ((pz : Int) == 9) = false := by simpa using (by omega : ¬ (pz : Int) = 9)
    clear hz0 hz
    go_wp2_with fail
    go_ret
    rw [HR.out]
    exact ⟨by rw [errV_pos HZ.out]; rfl, H6.out⟩
/-- behind the last trimmed one -/
def lowF (a : Int) (s : Int × Int) (x : C) : Int × Int := (s.1 + 1, if x.k = 3 then a + s.1 + 1 else s.2)
def lowL (a : Int) (X : List C) : Int := (X.foldl (lowF a) (0, 0)).2
/-- cells are applied, one by one: an error's number, the cluster then, up to where -/
def onesS : List C → Cl → Int → Nat × Cl × Int
 | [], M, a => (0, M, a)
 | x :: l, M, a => if (oneS M a x).1 ≠ 0 then ((oneS M a x).1, (oneS M a x).2, a) else onesS l (oneS M a x).2 (a + 1)
def cellsS (M : Cl) (a : Int) (X : List C) : Nat × Cl × Int := if (markS M (lowL a X)).1 ≠ 0 then ((markS M (lowL a X)).1, (markS M (lowL a X)).2, a) else onesS X (markS M (lowL a X)).2 a
set_option maxHeartbeats 16000000 in
theorem cellsA_any {c b : Nat} {M : Cl} {J : CJ} {L : List Asn} {W : World} (x : Sp) (X : List CE) (ca : Option Addr) (ck : Nat) (w : World) (hp : Pow W) (h : ClAt c M J (Asn.appl b x :: L) W w) (hok : M.ok) (hx : 0 ≤ x.a ∧ x.a ≤ 1048576) (hl : X.length ≤ 64) (hX : ∀ M' w', ClAt c M' J L W w' → CEs w' ca ck X) :
  Calls Tryz.prog 47 #[ptrV b, ptrV c, .slice ca X.length ck] w fun en w' => en = .returned (errV (cellsS M x.a (X.map (·.c))).1) ∧ ClAt c (cellsS M x.a (X.map (·.c))).2.1 J (Asn.appl b ⟨x.e, (cellsS M x.a (X.map (·.c))).2.2⟩ :: L) W w' := by
 have HP := Lib.hid' hp
 have HOK := Lib.hid' hok
 have HX := Lib.hid' hX
 have H0 := Lib.hid' h
 obtain ⟨xe, xa⟩ := x
 simp only at hx H0 ⊢
 have HF := Zh (show cellsS M xa (X.map (·.c)) = if (markS M (lowL xa (X.map (·.c)))).1 ≠ 0 then ((markS M (lowL xa (X.map (·.c)))).1, (markS M (lowL xa (X.map (·.c)))).2, xa) else onesS (X.map (·.c)) (markS M (lowL xa (X.map (·.c)))).2 xa from rfl)
 clear h hX hp hok
 go_enter Tryz.func47, Tryz.ntmps47
 go_wp2_with fail
 go_loopw [7, 16] (fun v7 v16 wr => ∃ (k : Nat) (low : Int), v7 = .int .i64 low ∧ v16 = .int .i64 k ∧ k ≤ X.length ∧ Hid (((X.take k).map (·.c)).foldl (lowF xa) (0, 0) = ((k : Int), low)) ∧ Hid (ClAt c M J (Asn.appl b ⟨xe, xa⟩ :: L) W wr)) (fun _ v16 _ => X.length - (intOf v16).toNat)
 case atStart => exact ⟨0, 0, rfl, rfl, Nat.zero_le _, Lib.hid' rfl, H0⟩
 case round =>
  clear H0
  obtain ⟨k, low, rfl, rfl, hk, HL, H1⟩ := hrel
  by_cases hlt : k < X.length
  ·have hx1 := HX.out _ _ (ClAt.less (K := [_]) H1.out)
   obtain ⟨bb, off, rfl, hb, hc⟩ := SlV.row (f := ceV) (s := 2) (fun _ => rfl) (by decide) hx1.row hlt
   have c0 := hc 0 _ rfl; have c1 := hc 1 _ rfl
   simp only [Nat.add_zero] at c0
   have HTK := Zh (take_succ X k hlt)
   clear hc hx1
   generalize X[k] = y at *
   obtain ⟨⟨yk, yd⟩, ya, yc⟩ := y
   simp only at c0 c1
   go_upto_region 5 with fail
   have h2 := H1.out.allocB wr.heap.size [.int .i64 yk, .slice ya yd.length yc] 36 rfl
   rw [show ([.int .i64 yk, .slice ya yd.length yc] : List Value).toArray = #[.int .i64 yk, .slice ya yd.length yc] from rfl] at h2
   have H2 := Lib.hid' h2
   clear h2 c0 c1 hb H1
   generalize wr.alloc (.cells #[.int .i64 yk, .slice ya yd.length yc] 36) = w2 at *
   generalize wr.heap.size = N2 at *
   have c0 := H2.out.side.cell 0 rfl 0 rfl; have cl := H2.out.side.lt 0 rfl
   have a1 := H2.out.side.cell 1 rfl 1 rfl; have al := H2.out.side.lt 1 rfl
   by_cases hk3 : yk = 3
   ·have HS := Zh (show ((X.take (k + 1)).map (·.c)).foldl (lowF xa) (0, 0) = (((k + 1 : Nat) : Int), xa + k + 1) by
     rw [HTK.out, List.map_append, List.foldl_append, HL.out]; simp [lowF, hk3])
    subst hk3
    go_wp2_with fail
    go_roundw
    case rel => exact ⟨k + 1, xa + k + 1, by go_num, by go_num, by omega, HS, Zh (ClAt.less (K := [_]) H2.out)⟩
    case measure => simp [intOf]; omega
   ·have HS := Zh (show ((X.take (k + 1)).map (·.c)).foldl (lowF xa) (0, 0) = (((k + 1 : Nat) : Int), low) by
     rw [HTK.out, List.map_append, List.foldl_append, HL.out]; simp [lowF, hk3])
    go_wp2_with fail
    go_roundw
    case rel => exact ⟨k + 1, low, rfl, by go_num, by omega, HS, Zh (ClAt.less (K := [_]) H2.out)⟩
    case measure => simp [intOf]; omega
  ·have HLO := Zh (show lowL xa (X.map (·.c)) = low by unfold lowL; have := HL.out; rw [List.take_of_length_le (by omega)] at this; rw [this])
   rw [HLO.out] at HF
   have HMK := Zh (mark_any low wr HP.out H1.out HOK.out)
   have HMO := Zh (markS_ok HOK.out low)
   clear HL HLO
   generalize markS M low = mr at *
   obtain ⟨mz, M1⟩ := mr
   simp only at HF HMK HMO
   go_wp2_with fail
   refine HMK.out.mono ?_
   clear HMK
   rintro en w3 ⟨rfl, h3⟩
   have H3 := Lib.hid' h3
   clear h3 H1
   by_cases hz : mz = 0
   rotate_left
   ·have HR := Zh (HF.out.trans (if_pos hz))
    have HZ := Lib.hid' hz
    rw [errV_pos hz]
    clear HF hz
    go_wp2_with fail
    go_ret
    rw [HR.out]
    exact ⟨by rw [errV_pos HZ.out]; rfl, H3.out⟩
   subst hz
   have HR := Zh (HF.out.trans (if_neg (by simp)))
   rw [errV_0]
   clear HF
   go_wp2_with fail
   go_loopw [40] (fun v40 wr => ∃ (k : Nat) (M2 : Cl), v40 = .int .i64 k ∧ k ≤ X.length ∧ Hid (ClAt c M2 J (Asn.appl b ⟨xe, xa + k⟩ :: L) W wr) ∧ Hid M2.ok ∧ Hid (cellsS M xa (X.map (·.c)) = onesS ((X.drop k).map (·.c)) M2 (xa + k))) (fun v40 _ => X.length - (intOf v40).toNat)
   case atStart => exact ⟨0, M1, rfl, Nat.zero_le _, Zh (by simpa using H3.out), HMO, Zh (by simpa using HR.out)⟩
   case round =>
    clear H3 HMO HR
    obtain ⟨k, M2, rfl, hk, H4, HO4, HR4⟩ := hrel
    by_cases hlt : k < X.length
    ·have hx1 := HX.out _ _ (ClAt.less (K := [_]) H4.out)
     obtain ⟨bb, off, rfl, hb, hc⟩ := SlV.row (f := ceV) (s := 2) (fun _ => rfl) (by decide) hx1.row hlt
     have c0 := hc 0 _ rfl; have c1 := hc 1 _ rfl
     simp only [Nat.add_zero] at c0
     have HMEM := Zh (List.getElem_mem hlt)
     have HDR := Zh (List.drop_eq_getElem_cons hlt)
     clear hc hx1
     generalize X[k] = y at *
     obtain ⟨⟨yk, yd⟩, ya, yc⟩ := y
     simp only at c0 c1
     go_upto_region 14 with fail
     have h2 := H4.out.allocB wr.heap.size [.int .i64 yk, .slice ya yd.length yc] 36 rfl
     rw [show ([.int .i64 yk, .slice ya yd.length yc] : List Value).toArray = #[.int .i64 yk, .slice ya yd.length yc] from rfl] at h2
     have H5 := Lib.hid' h2.swapB
     clear h2 c0 c1 hb H4
     generalize wr.alloc (.cells #[.int .i64 yk, .slice ya yd.length yc] 36) = w5 at *
     generalize wr.heap.size = N5 at *
     have c0 := H5.out.side.cell 1 rfl 0 rfl; have c1 := H5.out.side.cell 1 rfl 1 rfl; have cl := H5.out.side.lt 1 rfl
     have HON := Zh (one_any ⟨xe, xa + k⟩ ⟨yk, yd⟩ ya yc w5 HP.out H5.out HO4.out ⟨by show 0 ≤ xa + (k : Int); omega, by show xa + (k : Int) ≤ 1048640; omega⟩ (fun M' w' h' => (HX.out M' w' (ClAt.less (K := [_]) h')).each _ HMEM.out))
     have HO5 := Zh (oneS_ok HO4.out (xa + k) ⟨yk, yd⟩)
     have HS5 := Zh (show cellsS M xa (X.map (·.c)) = if (oneS M2 (xa + k) ⟨yk, yd⟩).1 ≠ 0 then ((oneS M2 (xa + k) ⟨yk, yd⟩).1, (oneS M2 (xa + k) ⟨yk, yd⟩).2, xa + k) else onesS ((X.drop (k + 1)).map (·.c)) (oneS M2 (xa + k) ⟨yk, yd⟩).2 (xa + k + 1) by rw [HR4.out, HDR.out]; rfl)
     simp only at HON
     clear HR4 HDR
     generalize oneS M2 (xa + k) ⟨yk, yd⟩ = orr at *
     obtain ⟨oz, M3⟩ := orr
     simp only at HON HO5 HS5
     go_wp2_with fail
     refine HON.out.mono ?_
     clear HON c0 c1 cl
     rintro en w6 ⟨rfl, h6⟩
     have H6 := Zh (ClAt.less (K := [_]) h6.swapB)
     clear h6 H5
     by_cases hz : oz = 0
     rotate_left
     ·have HR := Zh (HS5.out.trans (if_pos hz))
      have HZ := Lib.hid' hz
      rw [errV_pos hz]
      clear HS5 hz
      go_wp2_with fail
      go_ret
      rw [HR.out]
      exact ⟨by rw [errV_pos HZ.out]; rfl, H6.out⟩
     subst hz
     have HR := Zh (HS5.out.trans (if_neg (by simp)))
     rw [errV_0]
     clear HS5
     have a1 := H6.out.side.cell 0 rfl 1 rfl; have af := H6.out.side.free 0 rfl 1; have al := H6.out.side.lt 0 rfl
     have H7 := Zh (H6.out.setB 1 (.int .i64 (xa + k + 1)))
     have hov : xa + (k : Int) + 1 ≤ 1048700 := by omega
     have hov0 : 0 ≤ xa + (k : Int) := by omega
     go_wp2_with fail
     go_roundw
     case rel => exact ⟨k + 1, M3, by go_num, by omega, Zh (by have := H7.out; rw [show xa + ((k + 1 : Nat) : Int) = xa + k + 1 by omega]; exact this), HO5, Zh (by rw [HR.out, show xa + ((k + 1 : Nat) : Int) = xa + k + 1 by omega])⟩
     case measure => simp [intOf]; omega
    ·have HR := Zh (show cellsS M xa (X.map (·.c)) = (0, M2, xa + k) by rw [HR4.out, List.drop_of_length_le (by omega)]; rfl)
     clear HR4
     go_wp2_with fail
     go_ret
     rw [HR.out]
     exact ⟨rfl, H4.out⟩
theorem onesS_rng : ∀ (l : List C) (M : Cl) (a : Int), a ≤ (onesS l M a).2.2 ∧ (onesS l M a).2.2 ≤ a + l.length
 | [], M, a => ⟨Int.le_refl _, by simp [onesS]⟩
 | x :: l, M, a => by
  unfold onesS
  split
  ·exact ⟨Int.le_refl _, by simp only [List.length_cons]; omega⟩
  ·have := onesS_rng l (oneS M a x).2 (a + 1)
   simp only [List.length_cons]
   omega
theorem cellsS_rng {M : Cl} {X : List C} {a : Int} (h : M.ok) (ha : 0 ≤ a ∧ a ≤ 1048576) (hl : X.length ≤ 64) : a ≤ (cellsS M a X).2.2 ∧ (cellsS M a X).2.2 ≤ a + X.length := by
 unfold cellsS
 split
 ·exact ⟨Int.le_refl _, by show a ≤ a + (X.length : Int); omega⟩
 ·exact onesS_rng _ _ _
/-- a parcel is applied: an error's number, the cluster, the applier then -/
def takeA (M : Cl) (x : Sp) (e t f : Int) (X : List CE) : Nat × Cl × Sp :=
 if pclC e t f (X.map (·.c)) ≠ 0 then (pclC e t f (X.map (·.c)), M, x) else if e ≠ x.e then (7, M, x) else
 if x.a < f then (0, M, x) else
 if (cellsS M x.a ((newsS f X x.a).map (·.c))).1 ≠ 0 then ((cellsS M x.a ((newsS f X x.a).map (·.c))).1, (cellsS M x.a ((newsS f X x.a).map (·.c))).2.1, ⟨x.e, (cellsS M x.a ((newsS f X x.a).map (·.c))).2.2⟩) else
 ((markS (cellsS M x.a ((newsS f X x.a).map (·.c))).2.1 (min t (cellsS M x.a ((newsS f X x.a).map (·.c))).2.2)).1, (markS (cellsS M x.a ((newsS f X x.a).map (·.c))).2.1 (min t (cellsS M x.a ((newsS f X x.a).map (·.c))).2.2)).2, ⟨x.e, (cellsS M x.a ((newsS f X x.a).map (·.c))).2.2⟩)
def rcV (r : Nat × Cl × Sp) : Value := if r.1 = 0 then .agg #[.int .i64 r.2.2.e, .int .i64 r.2.2.a] else .agg #[.int .i64 0, .int .i64 0]
theorem rcV_err {z : Nat} {M : Cl} {x : Sp} (h : z ≠ 0) : rcV (z, M, x) = .agg #[.int .i64 0, .int .i64 0] := if_neg h
theorem onesS_ok : ∀ (l : List C) {M : Cl} (a : Int), M.ok → (onesS l M a).2.1.ok
 | [], M, a, h => h
 | x :: l, M, a, h => by
  unfold onesS
  split
  ·exact oneS_ok h _ _
  ·exact onesS_ok l _ (oneS_ok h _ _)
theorem cellsS_ok {M : Cl} (h : M.ok) (a : Int) (X : List C) : (cellsS M a X).2.1.ok := by
 unfold cellsS
 split
 ·exact markS_ok h _
 ·exact onesS_ok _ _ (markS_ok h _)
theorem segC_zero {f : Int} {X : List C} (h : segC f X = 0) : 0 ≤ f ∧ f ≤ 1048576 ∧ X.length ≤ 64 ∧ f + X.length ≤ 1048576 ∧ chkCs X = 0 := by
 unfold segC at h
 split at h
 ·cases h
 ·split at h
  ·cases h
  ·split at h
   ·cases h
   ·exact ⟨by omega, by omega, by omega, by omega, h⟩
theorem pclC_zero {e t f : Int} {X : List C} (h : pclC e t f X = 0) : inB e 1099511627776 = true ∧ inB t 1048576 = true ∧ segC f X = 0 := by
 unfold pclC at h
 split at h
 ·cases h
 ·rename_i hn
  refine ⟨?_, ?_, h⟩
  ·cases hq : inB e 1099511627776 with
   | true => rfl
   | false => exact absurd (.inl hq) hn
  ·cases hq : inB t 1048576 with
   | true => rfl
   | false => exact absurd (.inr hq) hn
theorem newsS_len (f : Int) (X : List CE) (a : Int) : (newsS f X a).length ≤ X.length := by
 unfold newsS
 split
 ·simp
 ·split
  ·rw [List.length_take, List.length_drop]; omega
  ·rw [List.length_drop]; omega
set_option maxHeartbeats 16000000 in
theorem atake_any {c b : Nat} {M : Cl} {J : CJ} {L : List Asn} {W : World} (x : Sp) (e t f : Int) (X : List CE) (pa : Option Addr) (pk : Nat) (w : World) (hp : Pow W) (h : ClAt c M J (Asn.appl b x :: L) W w) (hok : M.ok) (hx : 0 ≤ x.a ∧ x.a ≤ 1048576) (hX : ∀ M' w', ClAt c M' J L W w' → CEs w' pa pk X) :
  Calls Tryz.prog 17 #[ptrV b, ptrV c, pclV e t f pa X.length pk] w fun en w' => en = .returned (.tuple #[rcV (takeA M x e t f X), errV (takeA M x e t f X).1]) ∧ ClAt c (takeA M x e t f X).2.1 J (Asn.appl b (takeA M x e t f X).2.2 :: L) W w' := by
 have HP := Lib.hid' hp
 have HOK := Lib.hid' hok
 have HX := Lib.hid' hX
 obtain ⟨xe, xa⟩ := x
 simp only at hx h ⊢
 have HF := Zh (show takeA M ⟨xe, xa⟩ e t f X = if pclC e t f (X.map (·.c)) ≠ 0 then (pclC e t f (X.map (·.c)), M, ⟨xe, xa⟩) else if e ≠ xe then (7, M, ⟨xe, xa⟩) else if xa < f then (0, M, ⟨xe, xa⟩) else
  if (cellsS M xa ((newsS f X xa).map (·.c))).1 ≠ 0 then ((cellsS M xa ((newsS f X xa).map (·.c))).1, (cellsS M xa ((newsS f X xa).map (·.c))).2.1, ⟨xe, (cellsS M xa ((newsS f X xa).map (·.c))).2.2⟩) else
  ((markS (cellsS M xa ((newsS f X xa).map (·.c))).2.1 (min t (cellsS M xa ((newsS f X xa).map (·.c))).2.2)).1, (markS (cellsS M xa ((newsS f X xa).map (·.c))).2.1 (min t (cellsS M xa ((newsS f X xa).map (·.c))).2.2)).2, ⟨xe, (cellsS M xa ((newsS f X xa).map (·.c))).2.2⟩) from rfl)
 have h1 := ((h.allocB w.heap.size [.int .i64 e, .int .i64 t, .int .i64 f, .slice pa X.length pk] 41 rfl).allocB (w.heap.size + 1) [.int .i64 0, .int .i64 0] 49 (by simp)).swapB
 obtain ⟨w1, hw1⟩ : ∃ w1, (w.alloc (.cells #[.int .i64 e, .int .i64 t, .int .i64 f, .slice pa X.length pk] 41)).alloc (.cells #[.int .i64 0, .int .i64 0] 49) = w1 := ⟨_, rfl⟩
 rw [show ([.int .i64 e, .int .i64 t, .int .i64 f, .slice pa X.length pk] : List Value).toArray = #[.int .i64 e, .int .i64 t, .int .i64 f, .slice pa X.length pk] from rfl, show ([.int .i64 0, .int .i64 0] : List Value).toArray = #[.int .i64 0, .int .i64 0] from rfl, hw1] at h1
 have H1 := Lib.hid' h1
 have HCK := Zh (pclCheck_any e t f pa pk X w1 (HX.out M w1 (ClAt.less (K := [_, _, _]) h1)))
 have HPZ := Zh (fun h0 => pclC_zero (e := e) (t := t) (f := f) (X := X.map (·.c)) h0)
 rw [show pclV e t f pa X.length pk = .agg #[.int .i64 e, .int .i64 t, .int .i64 f, .slice pa X.length pk] from rfl] at HCK ⊢
 clear h h1 hp hok hX
 go_enter Tryz.func17, Tryz.ntmps17
 go_upto_region 1 with fail
 try rw [hw1]
 clear hw1
 obtain ⟨NR, hNR⟩ : ∃ n, w.heap.size + 1 = n := ⟨_, rfl⟩
 try rw [hNR]
 rw [hNR] at H1
 clear hNR
 generalize w.heap.size = NP at *
 have p0 := H1.out.side.cell 0 rfl 0 rfl; have p1 := H1.out.side.cell 0 rfl 1 rfl; have p2 := H1.out.side.cell 0 rfl 2 rfl; have p3 := H1.out.side.cell 0 rfl 3 rfl; have pl := H1.out.side.lt 0 rfl
 generalize pclC e t f (X.map (·.c)) = z at *
 go_wp2_with fail
 refine HCK.out.mono ?_
 clear HCK p0 p1 p2 p3 pl
 rintro en w2 ⟨rfl, hb2⟩
 have H2 := Zh (H1.out.below hb2)
 clear hb2 H1
 by_cases hz : z = 0
 rotate_left
 ·have HR := Zh (HF.out.trans (if_pos hz))
  have HZ := Lib.hid' hz
  rw [errV_pos hz]
  clear HF hz HPZ
  have y0 := H2.out.side.cell 1 rfl 0 rfl; have y1 := H2.out.side.cell 1 rfl 1 rfl; have r0 := H2.out.side.free 1 rfl 0; have r1 := H2.out.side.free 1 rfl 1; have rl := H2.out.side.lt 1 rfl
  have H8 := Zh (((H2.out.focus 1 rfl).setB 0 (.int .i64 0)).setB 1 (.int .i64 0))
  go_wp2_with fail
  have k0 := H8.out.side.cell 0 rfl 0 rfl; have k1 := H8.out.side.cell 0 rfl 1 rfl
  generalize (w2.setCell ⟨NR, 0, none⟩ (.int .i64 0)).setCell ⟨NR, 1, none⟩ (.int .i64 0) = w8 at *
  refine bodyPost_ret (v := .tuple #[.agg #[.int .i64 0, .int .i64 0], .iface 69 (.int .i64 z)]) (by simp [results, Tryz.results17, go_sem, k0, k1]) rfl ?_
  rw [HR.out]
  exact ⟨by rw [rcV_err HZ.out, errV_pos HZ.out], ClAt.less (K := [_, _]) H8.out⟩
 subst hz
 have HF1 := Zh (HF.out.trans (if_neg (by simp)))
 obtain ⟨_, hti, hsz⟩ := HPZ.out rfl
 obtain ⟨hf0, hf1, hX64, _, _⟩ := segC_zero hsz
 rw [List.length_map] at hX64
 have HSZ := Zh (And.intro hf0 (And.intro hf1 hX64))
 have HTI := Zh (inB_iff.1 hti)
 rw [errV_0]
 clear HF HPZ hti hsz
 have p0 := H2.out.side.cell 0 rfl 0 rfl; have pl := H2.out.side.lt 0 rfl
 have a0 := H2.out.side.cell 2 rfl 0 rfl; have al := H2.out.side.lt 2 rfl
 by_cases he : e = xe
 rotate_left
 ·have HR := Zh (HF1.out.trans (if_pos he))
  have HZ := Zh (show (7 : Nat) ≠ 0 by decide)
  clear HF1
  go_upto_region 6 with fail
  refine startD (S := (fun w' => w'.cell? ⟨NP, 0, none⟩ = some (.int .i64 e) ∧ NP < w'.heap.size ∧ w'.cell? ⟨b, 0, none⟩ = some (.int .i64 xe) ∧ b < w'.heap.size)) (by kernel_rfl) ⟨p0, pl, a0, al⟩ (fun hH0 => ?_)
  simp only [List.length_cons, List.length_nil, Nat.reduceAdd, List.replicate_succ, List.replicate_zero]
  refine tD 0 25 (.pointer (some ⟨NP, 0, none⟩)) rfl rfl [(5, .pointer (some ⟨NP, 0, none⟩))] hH0 ?_
  dsimp only [sZ, sS]
  refine tD 1 26 (.int .i64 e) rfl rfl [(25, .pointer (some ⟨NP, 0, none⟩))] hH0 ?_
  dsimp only [sZ, sS]
  refine tD 2 27 (.pointer (some ⟨b, 0, none⟩)) rfl rfl [(0, .pointer (some ⟨b, 0, none⟩))] hH0 ?_
  dsimp only [sZ, sS]
  refine tD 3 28 (.pointer (some ⟨b, 0, none⟩)) rfl rfl [(27, .pointer (some ⟨b, 0, none⟩))] hH0 ?_
  dsimp only [sZ, sS]
  refine tD 4 29 (.pointer (some ⟨b, 0, none⟩)) rfl rfl [(28, .pointer (some ⟨b, 0, none⟩))] hH0 ?_
  dsimp only [sZ, sS]
  refine tD 5 30 (.int .i64 xe) rfl rfl [(29, .pointer (some ⟨b, 0, none⟩))] hH0 ?_
  dsimp only [sZ, sS]
  refine tD 6 31 (.bool true) rfl rfl [(26, .int .i64 e), (30, .int .i64 xe)] hH0 ?_
  dsimp only [sZ, sS]
  refine wpAnyH_done (by kernel_rfl) ?_ _
  skip
  have H3 := Zh (H2.out.below (Below.refl w2.heap.size w2).drew)
  clear p0 pl a0 al H2
  generalize w2.drew = w3 at *
  have y0 := H3.out.side.cell 1 rfl 0 rfl; have y1 := H3.out.side.cell 1 rfl 1 rfl; have r0 := H3.out.side.free 1 rfl 0; have r1 := H3.out.side.free 1 rfl 1; have rl := H3.out.side.lt 1 rfl
  have H8 := Zh (((H3.out.focus 1 rfl).setB 0 (.int .i64 0)).setB 1 (.int .i64 0))
  go_wp2_with fail
  have k0 := H8.out.side.cell 0 rfl 0 rfl; have k1 := H8.out.side.cell 0 rfl 1 rfl
  generalize (w3.setCell ⟨NR, 0, none⟩ (.int .i64 0)).setCell ⟨NR, 1, none⟩ (.int .i64 0) = w8 at *
  refine bodyPost_ret (v := .tuple #[.agg #[.int .i64 0, .int .i64 0], .iface 69 (.int .i64 ((7:Nat):Int))]) (by simp [results, Tryz.results17, go_sem, k0, k1]) rfl ?_
  rw [HR.out]
  exact ⟨by rw [rcV_err HZ.out, errV_pos HZ.out], ClAt.less (K := [_, _]) H8.out⟩
 subst he
 have HF2 := Zh (HF1.out.trans (if_neg (by simp)))
 clear HF1
 go_upto_region 6 with fail
 refine startD (S := (fun w' => w'.cell? ⟨NP, 0, none⟩ = some (.int .i64 e) ∧ NP < w'.heap.size ∧ w'.cell? ⟨b, 0, none⟩ = some (.int .i64 e) ∧ b < w'.heap.size)) (by kernel_rfl) ⟨p0, pl, a0, al⟩ (fun hH0 => ?_)
 simp only [List.length_cons, List.length_nil, Nat.reduceAdd, List.replicate_succ, List.replicate_zero]
 refine tD 0 25 (.pointer (some ⟨NP, 0, none⟩)) rfl rfl [(5, .pointer (some ⟨NP, 0, none⟩))] hH0 ?_
 dsimp only [sZ, sS]
 refine tD 1 26 (.int .i64 e) rfl rfl [(25, .pointer (some ⟨NP, 0, none⟩))] hH0 ?_
 dsimp only [sZ, sS]
 refine tD 2 27 (.pointer (some ⟨b, 0, none⟩)) rfl rfl [(0, .pointer (some ⟨b, 0, none⟩))] hH0 ?_
 dsimp only [sZ, sS]
 refine tD 3 28 (.pointer (some ⟨b, 0, none⟩)) rfl rfl [(27, .pointer (some ⟨b, 0, none⟩))] hH0 ?_
 dsimp only [sZ, sS]
 refine tD 4 29 (.pointer (some ⟨b, 0, none⟩)) rfl rfl [(28, .pointer (some ⟨b, 0, none⟩))] hH0 ?_
 dsimp only [sZ, sS]
 refine tD 5 30 (.int .i64 e) rfl rfl [(29, .pointer (some ⟨b, 0, none⟩))] hH0 ?_
 dsimp only [sZ, sS]
 refine tD 6 31 (.bool false) rfl rfl [(26, .int .i64 e), (30, .int .i64 e)] hH0 ?_
 dsimp only [sZ, sS]
 refine wpAnyH_done (by kernel_rfl) ?_ _
 skip
 have H3 := Zh (H2.out.below (Below.refl w2.heap.size w2).drew)
 clear p0 pl a0 al H2
 generalize w2.drew = w3 at *
 have p2 := H3.out.side.cell 0 rfl 2 rfl; have pl := H3.out.side.lt 0 rfl
 have a1 := H3.out.side.cell 2 rfl 1 rfl; have al := H3.out.side.lt 2 rfl
 by_cases hfa : xa < f
 ·have HR := Zh (HF2.out.trans (if_pos hfa))
  have hfa2 : ¬ f ≤ xa := by omega
  clear HF2
  go_upto_region 8 with fail
  refine startD (S := (fun w' => w'.cell? ⟨NP, 2, none⟩ = some (.int .i64 f) ∧ NP < w'.heap.size ∧ w'.cell? ⟨b, 1, none⟩ = some (.int .i64 xa) ∧ b < w'.heap.size)) (by kernel_rfl) ⟨p2, pl, a1, al⟩ (fun hH0 => ?_)
  simp only [List.length_cons, List.length_nil, Nat.reduceAdd, List.replicate_succ, List.replicate_zero]
  refine tD 0 34 (.pointer (some ⟨NP, 2, none⟩)) rfl rfl [(5, .pointer (some ⟨NP, 0, none⟩))] hH0 ?_
  dsimp only [sZ, sS]
  refine tD 1 35 (.pointer (some ⟨NP, 2, none⟩)) rfl rfl [(34, .pointer (some ⟨NP, 2, none⟩))] hH0 ?_
  dsimp only [sZ, sS]
  refine tD 2 36 (.int .i64 f) rfl rfl [(35, .pointer (some ⟨NP, 2, none⟩))] hH0 ?_
  dsimp only [sZ, sS]
  refine tD 3 37 (.pointer (some ⟨b, 0, none⟩)) rfl rfl [(0, .pointer (some ⟨b, 0, none⟩))] hH0 ?_
  dsimp only [sZ, sS]
  refine tD 4 38 (.pointer (some ⟨b, 0, none⟩)) rfl rfl [(37, .pointer (some ⟨b, 0, none⟩))] hH0 ?_
  dsimp only [sZ, sS]
  refine tD 5 39 (.pointer (some ⟨b, 1, none⟩)) rfl rfl [(38, .pointer (some ⟨b, 0, none⟩))] hH0 ?_
  dsimp only [sZ, sS]
  refine tD 6 40 (.int .i64 xa) rfl rfl [(39, .pointer (some ⟨b, 1, none⟩))] hH0 ?_
  dsimp only [sZ, sS]
  refine tD 7 41 (.bool false) rfl rfl [(36, .int .i64 f), (40, .int .i64 xa)] hH0 ?_
  dsimp only [sZ, sS]
  refine wpAnyH_done (by kernel_rfl) ?_ _
  skip
  have H4 := Zh (H3.out.below (Below.refl w3.heap.size w3).drew)
  clear p2 pl a1 al H3
  generalize w3.drew = w4 at *
  have a0 := H4.out.side.cell 2 rfl 0 rfl; have a1 := H4.out.side.cell 2 rfl 1 rfl; have al := H4.out.side.lt 2 rfl
  have HRC := Zh (areceipt_any w4 2 H4.out.side rfl)
  simp only at HRC
  go_wp2_with fail
  refine HRC.out.mono ?_
  clear HRC a0 a1 al
  rintro en w9 ⟨rfl, hb9⟩
  have H9 := Zh (H4.out.below hb9)
  have y0 := H9.out.side.cell 1 rfl 0 rfl; have y1 := H9.out.side.cell 1 rfl 1 rfl; have r0 := H9.out.side.free 1 rfl 0; have r1 := H9.out.side.free 1 rfl 1; have rl := H9.out.side.lt 1 rfl
  have H8 := Zh (((H9.out.focus 1 rfl).setB 0 (.int .i64 e)).setB 1 (.int .i64 xa))
  clear hb9
  go_wp2_with fail
  have k0 := H8.out.side.cell 0 rfl 0 rfl; have k1 := H8.out.side.cell 0 rfl 1 rfl
  generalize (w9.setCell ⟨NR, 0, none⟩ (.int .i64 e)).setCell ⟨NR, 1, none⟩ (.int .i64 xa) = w8 at *
  refine bodyPost_ret (v := .tuple #[.agg #[.int .i64 e, .int .i64 xa], .nilIface]) (by simp [results, Tryz.results17, go_sem, k0, k1]) rfl ?_
  rw [HR.out]
  exact ⟨rfl, ClAt.less (K := [_, _]) H8.out⟩
 have HF3 := Zh (HF2.out.trans (if_neg hfa))
 have hfa2 : f ≤ xa := by omega
 clear HF2
 go_upto_region 8 with fail
 refine startD (S := (fun w' => w'.cell? ⟨NP, 2, none⟩ = some (.int .i64 f) ∧ NP < w'.heap.size ∧ w'.cell? ⟨b, 1, none⟩ = some (.int .i64 xa) ∧ b < w'.heap.size)) (by kernel_rfl) ⟨p2, pl, a1, al⟩ (fun hH0 => ?_)
 simp only [List.length_cons, List.length_nil, Nat.reduceAdd, List.replicate_succ, List.replicate_zero]
 refine tD 0 34 (.pointer (some ⟨NP, 2, none⟩)) rfl rfl [(5, .pointer (some ⟨NP, 0, none⟩))] hH0 ?_
 dsimp only [sZ, sS]
 refine tD 1 35 (.pointer (some ⟨NP, 2, none⟩)) rfl rfl [(34, .pointer (some ⟨NP, 2, none⟩))] hH0 ?_
 dsimp only [sZ, sS]
 refine tD 2 36 (.int .i64 f) rfl rfl [(35, .pointer (some ⟨NP, 2, none⟩))] hH0 ?_
 dsimp only [sZ, sS]
 refine tD 3 37 (.pointer (some ⟨b, 0, none⟩)) rfl rfl [(0, .pointer (some ⟨b, 0, none⟩))] hH0 ?_
 dsimp only [sZ, sS]
 refine tD 4 38 (.pointer (some ⟨b, 0, none⟩)) rfl rfl [(37, .pointer (some ⟨b, 0, none⟩))] hH0 ?_
 dsimp only [sZ, sS]
 refine tD 5 39 (.pointer (some ⟨b, 1, none⟩)) rfl rfl [(38, .pointer (some ⟨b, 0, none⟩))] hH0 ?_
 dsimp only [sZ, sS]
 refine tD 6 40 (.int .i64 xa) rfl rfl [(39, .pointer (some ⟨b, 1, none⟩))] hH0 ?_
 dsimp only [sZ, sS]
 refine tD 7 41 (.bool true) rfl rfl [(36, .int .i64 f), (40, .int .i64 xa)] hH0 ?_
 dsimp only [sZ, sS]
 refine wpAnyH_done (by kernel_rfl) ?_ _
 skip
 have H4 := Zh (H3.out.below (Below.refl w3.heap.size w3).drew)
 clear p2 pl a1 al H3
 generalize w3.drew = w3 at *
 have H3 := H4
 clear H4
 have p2 := H3.out.side.cell 0 rfl 2 rfl; have p3 := H3.out.side.cell 0 rfl 3 rfl; have pl := H3.out.side.lt 0 rfl
 have a1 := H3.out.side.cell 2 rfl 1 rfl; have al := H3.out.side.lt 2 rfl
 have HNL := newsS_len f X xa
 have HNW := Zh (fun (wq : World) (hq : ClAt c M J (.box NP [.int .i64 e, .int .i64 t, .int .i64 f, .slice pa X.length pk] 41 :: .box NR [.int .i64 0, .int .i64 0] 49 :: Asn.appl b ⟨e, xa⟩ :: L) W wq) => news_any f xa X pa pk wq (HX.out M wq (ClAt.less (K := [_, _, _]) hq)) ⟨HSZ.out.1, HSZ.out.2.1⟩ HSZ.out.2.2 hfa2)
 have HCL := Zh (fun (na : Option Addr) (nk : Nat) (wq : World) (hq : ClAt c M J (.box NP [.int .i64 e, .int .i64 t, .int .i64 f, .slice pa X.length pk] 41 :: .box NR [.int .i64 0, .int .i64 0] 49 :: Asn.appl b ⟨e, xa⟩ :: L) W wq) (hn : ∀ wq, CEs wq pa pk X → CEs wq na nk (newsS f X xa)) =>
  cellsA_any ⟨e, xa⟩ (newsS f X xa) na nk wq HP.out (hq.focus 2 rfl) HOK.out hx (by have := HSZ.out.2.2; omega) (fun M' w' h' => hn _ (HX.out M' w' (ClAt.less (K := [_, _]) h'))))
 have HCO := Zh (cellsS_ok HOK.out xa ((newsS f X xa).map (·.c)))
 have HCR := Zh (cellsS_rng HOK.out (M := M) (X := (newsS f X xa).map (·.c)) hx (by rw [List.length_map]; have := HSZ.out.2.2; omega))
 clear HNL
 simp only at HCL
 generalize cellsS M xa ((newsS f X xa).map (·.c)) = cr at *
 obtain ⟨cz, M5, ca⟩ := cr
 simp only at HCL HF3 HCO HCR
 go_upto_region 9 with fail
 refine startD (S := (fun w' => w'.cell? ⟨NP, 2, none⟩ = some (.int .i64 f) ∧ w'.cell? ⟨NP, 3, none⟩ = some (.slice pa X.length pk) ∧ NP < w'.heap.size ∧ b < w'.heap.size)) (by kernel_rfl) ⟨p2, p3, pl, al⟩ (fun hH0 => ?_)
 simp only [List.length_cons, List.length_nil, Nat.reduceAdd, List.replicate_succ, List.replicate_zero]
 refine tD 0 42 (.pointer (some ⟨b, 0, none⟩)) rfl rfl [(0, .pointer (some ⟨b, 0, none⟩))] hH0 ?_
 dsimp only [sZ, sS]
 refine tD 1 43 (.pointer (some ⟨c, 0, none⟩)) rfl rfl [(1, .pointer (some ⟨c, 0, none⟩))] hH0 ?_
 dsimp only [sZ, sS]
 refine tD 2 44 (.pointer (some ⟨NP, 2, none⟩)) rfl rfl [(5, .pointer (some ⟨NP, 0, none⟩))] hH0 ?_
 dsimp only [sZ, sS]
 refine tD 3 45 (.agg #[.int .i64 f, .slice pa X.length pk]) rfl rfl [(44, .pointer (some ⟨NP, 2, none⟩))] hH0 ?_
 dsimp only [sZ, sS]
 refine tD 4 46 (.pointer (some ⟨b, 0, none⟩)) rfl rfl [(0, .pointer (some ⟨b, 0, none⟩))] hH0 ?_
 dsimp only [sZ, sS]
 refine tD 5 47 (.pointer (some ⟨b, 0, none⟩)) rfl rfl [(46, .pointer (some ⟨b, 0, none⟩))] hH0 ?_
 dsimp only [sZ, sS]
 refine tD 6 48 (.pointer (some ⟨b, 1, none⟩)) rfl rfl [(47, .pointer (some ⟨b, 0, none⟩))] hH0 ?_
 dsimp only [sZ, sS]
 refine rD 7 rfl (fun K hK => ?_)
 go_simp
 refine hK.out _ _ ?_ (fun hH1 => ?_)
 ·exact hH0
 clear hK K
 try simp only [Act.put, gA, gZ, gS, sA, sZ, sS]
 refine rD 8 rfl (fun K hK => ?_)
 go_simp
 refine (HNW.out _ (H3.out.below (Below.refl w3.heap.size w3).drew)).mono ?_
 clear HNW
 rintro en w5 ⟨na, nk, rfl, hn5, hb5⟩
 have H5 := Zh ((H3.out.below (Below.refl w3.heap.size w3).drew).below hb5)
 have HN5 := Lib.hid' hn5
 have HB5 := Lib.hid' hb5
 clear hn5 hb5
 refine hK.out _ _ ?_ (fun hH2 => ?_)
 ·exact ⟨H5.out.side.cell 0 rfl 2 rfl, H5.out.side.cell 0 rfl 3 rfl, H5.out.side.lt 0 rfl, H5.out.side.lt 2 rfl⟩
 clear hK K
 try simp only [Act.put, gA, gZ, gS, sA, sZ, sS]
 refine rD 9 rfl (fun K hK => ?_)
 go_simp
 refine (HCL.out na nk w5 H5.out HN5.out).mono ?_
 clear HCL
 rintro en w6 ⟨rfl, h6⟩
 have H6 := Lib.hid' h6
 clear h6
 refine hK.out _ _ ?_ (fun hH3 => ?_)
 ·exact ⟨H6.out.side.cell 1 rfl 2 rfl, H6.out.side.cell 1 rfl 3 rfl, H6.out.side.lt 1 rfl, H6.out.side.lt 0 rfl⟩
 clear hK K
 try simp only [Act.put, gA, gZ, gS, sA, sZ, sS]
 refine tD 10 9 (errV cz) rfl rfl [(51, errV cz)] hH3 ?_
 dsimp only [sZ, sS]
 refine wpAnyH_done (by kernel_rfl) ?_ _
 skip
 have H7 := Zh (((H6.out.focus 1 rfl).focus 2 rfl).swapB)
 clear p2 p3 pl a1 al H6 H5 H3 HN5 HB5
 generalize w6 = w7 at *
 by_cases hz : cz = 0
 rotate_left
 ·have HR := Zh (HF3.out.trans (if_pos hz))
  have HZ := Lib.hid' hz
  rw [errV_pos hz]
  clear HF3 hz
  have y0 := H7.out.side.cell 1 rfl 0 rfl; have y1 := H7.out.side.cell 1 rfl 1 rfl; have r0 := H7.out.side.free 1 rfl 0; have r1 := H7.out.side.free 1 rfl 1; have rl := H7.out.side.lt 1 rfl
  have H8 := Zh (((H7.out.focus 1 rfl).setB 0 (.int .i64 0)).setB 1 (.int .i64 0))
  go_wp2_with fail
  have k0 := H8.out.side.cell 0 rfl 0 rfl; have k1 := H8.out.side.cell 0 rfl 1 rfl
  generalize (w7.setCell ⟨NR, 0, none⟩ (.int .i64 0)).setCell ⟨NR, 1, none⟩ (.int .i64 0) = w8 at *
  refine bodyPost_ret (v := .tuple #[.agg #[.int .i64 0, .int .i64 0], .iface 69 (.int .i64 cz)]) (by simp [results, Tryz.results17, go_sem, k0, k1]) rfl ?_
  rw [HR.out]
  exact ⟨by rw [rcV_err HZ.out, errV_pos HZ.out], ClAt.less (K := [_, _]) H8.out⟩
 subst hz
 have HF4 := Zh (HF3.out.trans (if_neg (by simp)))
 rw [errV_0]
 clear HF3
 have p1 := H7.out.side.cell 0 rfl 1 rfl; have pl := H7.out.side.lt 0 rfl
 have a1 := H7.out.side.cell 2 rfl 1 rfl; have al := H7.out.side.lt 2 rfl
 have HMK := Zh (fun (wq : World) (hq : ClAt c M5 J (.box NP [.int .i64 e, .int .i64 t, .int .i64 f, .slice pa X.length pk] 41 :: .box NR [.int .i64 0, .int .i64 0] 49 :: Asn.appl b ⟨e, ca⟩ :: L) W wq) => mark_any (min t ca) wq HP.out (hq.focus 2 rfl) HCO.out)
 generalize markS M5 (min t ca) = mr at *
 obtain ⟨mz, M6⟩ := mr
 simp only at HF4 HMK
 go_upto_region 12 with fail
 refine startD (S := (fun w' => w'.cell? ⟨NP, 1, none⟩ = some (.int .i64 t) ∧ NP < w'.heap.size ∧ w'.cell? ⟨b, 1, none⟩ = some (.int .i64 ca) ∧ b < w'.heap.size)) (by kernel_rfl) ⟨p1, pl, a1, al⟩ (fun hH0 => ?_)
 simp only [List.length_cons, List.length_nil, Nat.reduceAdd, List.replicate_succ, List.replicate_zero]
 refine tD 0 56 (.pointer (some ⟨c, 0, none⟩)) rfl rfl [(1, .pointer (some ⟨c, 0, none⟩))] hH0 ?_
 dsimp only [sZ, sS]
 refine tD 1 57 (.pointer (some ⟨NP, 1, none⟩)) rfl rfl [(5, .pointer (some ⟨NP, 0, none⟩))] hH0 ?_
 dsimp only [sZ, sS]
 refine tD 2 58 (.int .i64 t) rfl rfl [(57, .pointer (some ⟨NP, 1, none⟩))] hH0 ?_
 dsimp only [sZ, sS]
 refine tD 3 59 (.pointer (some ⟨b, 0, none⟩)) rfl rfl [(0, .pointer (some ⟨b, 0, none⟩))] hH0 ?_
 dsimp only [sZ, sS]
 refine tD 4 60 (.pointer (some ⟨b, 0, none⟩)) rfl rfl [(59, .pointer (some ⟨b, 0, none⟩))] hH0 ?_
 dsimp only [sZ, sS]
 refine tD 5 61 (.pointer (some ⟨b, 1, none⟩)) rfl rfl [(60, .pointer (some ⟨b, 0, none⟩))] hH0 ?_
 dsimp only [sZ, sS]
 refine tD 6 62 (.int .i64 ca) rfl rfl [(61, .pointer (some ⟨b, 1, none⟩))] hH0 ?_
 dsimp only [sZ, sS]
 refine rD 7 rfl (fun K hK => ?_)
 go_simp
 refine hK.out _ _ ?_ (fun hH1 => ?_)
 ·exact hH0
 clear hK K
 try simp only [Act.put, gA, gZ, gS, sA, sZ, sS]
 refine rD 8 rfl (fun K hK => ?_)
 go_simp
 refine (HMK.out _ (H7.out.below (Below.refl w7.heap.size w7).drew)).mono ?_
 clear HMK
 rintro en w8 ⟨rfl, h8⟩
 have H8 := Lib.hid' h8
 clear h8
 refine hK.out _ _ ?_ (fun hH2 => ?_)
 ·exact ⟨H8.out.side.cell 1 rfl 1 rfl, H8.out.side.lt 1 rfl, H8.out.side.cell 0 rfl 1 rfl, H8.out.side.lt 0 rfl⟩
 clear hK K
 try simp only [Act.put, gA, gZ, gS, sA, sZ, sS]
 refine tD 9 10 (errV mz) rfl rfl [(64, errV mz)] hH2 ?_
 dsimp only [sZ, sS]
 refine wpAnyH_done (by kernel_rfl) ?_ _
 skip
 have H9 := Zh (((H8.out.focus 1 rfl).focus 2 rfl).swapB)
 clear p1 pl a1 al H8 H7
 generalize w8 = w9 at *
 by_cases hz : mz = 0
 rotate_left
 ·have HZ := Lib.hid' hz
  have HR := HF4
  rw [errV_pos hz]
  clear hz
  have y0 := H9.out.side.cell 1 rfl 0 rfl; have y1 := H9.out.side.cell 1 rfl 1 rfl; have r0 := H9.out.side.free 1 rfl 0; have r1 := H9.out.side.free 1 rfl 1; have rl := H9.out.side.lt 1 rfl
  have H8 := Zh (((H9.out.focus 1 rfl).setB 0 (.int .i64 0)).setB 1 (.int .i64 0))
  go_wp2_with fail
  have k0 := H8.out.side.cell 0 rfl 0 rfl; have k1 := H8.out.side.cell 0 rfl 1 rfl
  generalize (w9.setCell ⟨NR, 0, none⟩ (.int .i64 0)).setCell ⟨NR, 1, none⟩ (.int .i64 0) = w8 at *
  refine bodyPost_ret (v := .tuple #[.agg #[.int .i64 0, .int .i64 0], .iface 69 (.int .i64 mz)]) (by simp [results, Tryz.results17, go_sem, k0, k1]) rfl ?_
  rw [HR.out]
  exact ⟨by rw [rcV_err HZ.out, errV_pos HZ.out], ClAt.less (K := [_, _]) H8.out⟩
 subst hz
 have HR := HF4
 rw [errV_0]
 have H10 := H9
 clear H9 HF4
 generalize w9 = w10 at *
 have a0 := H10.out.side.cell 2 rfl 0 rfl; have a1 := H10.out.side.cell 2 rfl 1 rfl; have al := H10.out.side.lt 2 rfl
 have HRC := Zh (areceipt_any w10 2 H10.out.side rfl)
 simp only at HRC
 go_wp2_with fail
 refine HRC.out.mono ?_
 clear HRC a0 a1 al
 rintro en w9 ⟨rfl, hb9⟩
 have H9 := Zh (H10.out.below hb9)
 have y0 := H9.out.side.cell 1 rfl 0 rfl; have y1 := H9.out.side.cell 1 rfl 1 rfl; have r0 := H9.out.side.free 1 rfl 0; have r1 := H9.out.side.free 1 rfl 1; have rl := H9.out.side.lt 1 rfl
 have H8 := Zh (((H9.out.focus 1 rfl).setB 0 (.int .i64 e)).setB 1 (.int .i64 ca))
 clear hb9
 go_wp2_with fail
 have k0 := H8.out.side.cell 0 rfl 0 rfl; have k1 := H8.out.side.cell 0 rfl 1 rfl
 generalize (w9.setCell ⟨NR, 0, none⟩ (.int .i64 e)).setCell ⟨NR, 1, none⟩ (.int .i64 ca) = w8 at *
 refine bodyPost_ret (v := .tuple #[.agg #[.int .i64 e, .int .i64 ca], .nilIface]) (by simp [results, Tryz.results17, go_sem, k0, k1]) rfl ?_
 rw [HR.out]
 exact ⟨rfl, ClAt.less (K := [_, _]) H8.out⟩
end SL
end Go.Proofs.YtcpkeddgkpjioaaGreatDoor

namespace Go.Proofs.YtcpkeddgkpjioaaGreatDoor
namespace SL
open DK SH SQ
theorem Ueq.okU {u v : U} (h : Ueq v u) (k : v.ok) : u.ok :=
 ⟨by rw [← h.e]; exact k.e0, by rw [← h.e]; exact k.e1, by rw [← h.l]; exact k.l0, by rw [← h.l]; exact k.l1, fun p hp => by rw [← h.l]; exact k.addr p (h.cells.mem_iff.2 hp), fun p hp => k.kind p (h.cells.mem_iff.2 hp), (h.cells.map _).nodup_iff.1 k.nodup⟩
theorem Fine.okU {r : Int} {k : Nat} {u : U} {x : Un} (h : Fine r k u x) : u.ok := by
 obtain ⟨n, L, rfl, h2, h3, h4, h5, v, hv, he⟩ := h
 exact Ueq.okU he hv.ok
theorem Fine.lowU {r : Int} {k : Nat} {u : U} {x : Un} {M : Cl} {i : Nat} (h : Fine r k u x) (hx : M.us[i]? = some x) : M.lowU (i : Int) = u.l := by
 obtain ⟨n, L, rfl, _⟩ := h
 unfold Cl.lowU
 rw [Int.toNat_natCast, hx]
theorem write_l (u : U) (e a : Int) (d : List UInt8) : (u.write e a d).2.l = u.l := by unfold U.write; (repeat' split) <;> rfl
theorem fill_l (u : U) (e a : Int) : (u.fill e a).2.l = u.l := by unfold U.fill; (repeat' split) <;> rfl
theorem at_three {u : U} (h : u.ok) {a : Int} (h3 : (u.at a).k = 3) : a < u.l := by
 unfold U.at at h3
 split at h3
 ·assumption
 ·exfalso
  cases hq : u.cells.any (·.1 == a) with
  | false => rw [lookC_none hq] at h3; cases h3
  | true =>
   rcases (h.kind _ (lookC_mem hq)).1 with e | e
   ·have : (lookC u.cells a).k = 1 := e
    omega
   ·have : (lookC u.cells a).k = 2 := e.1
    omega
theorem cur_ne9 (u : U) (e : Int) : u.cur e ≠ 9 := by unfold U.cur; (repeat' split) <;> decide
theorem asks_ne9 (u : U) (e : Int) (f : Bool) : u.asks e f ≠ 9 := by
 unfold U.asks
 split
 ·exact cur_ne9 _ _
 ·decide
theorem acheck_ne9 (x : Ac) : x.check ≠ 9 := by unfold Ac.check; (repeat' split) <;> decide
theorem write_9 {u : U} (h : u.ok) {e a : Int} {d : List UInt8} (h9 : (u.write e a d).1 = 9) : a < u.l := by
 unfold U.write at h9
 split at h9
 ·cases h9
 ·split at h9
  ·cases h9
  ·split at h9
   ·exact absurd h9 (cur_ne9 _ _)
   ·split at h9
    ·rename_i h3; exact at_three h h3
    ·split at h9 <;> cases h9
theorem fill_9 {u : U} (h : u.ok) {e a : Int} (h9 : (u.fill e a).1 = 9) : a < u.l := by
 unfold U.fill at h9
 split at h9
 ·exact absurd h9 (asks_ne9 _ _ _)
 ·split at h9
  ·rename_i h3; exact at_three h h3
  ·split at h9 <;> cases h9
theorem put_9 {u : U} (h : u.ok) {e a : Int} {x : C} (h9 : (apU u (putA e a x)).1 = 9) : a < u.l := by
 unfold apU at h9
 split at h9
 ·exact absurd h9 (acheck_ne9 _)
 ·unfold putA at h9
  split at h9
  ·simp at h9; exact write_9 h h9
  ·simp at h9; exact fill_9 h h9
theorem put_l (u : U) (e a : Int) (x : C) : (apU u (putA e a x)).2.2.l = u.l ∧ (apU u (putA e a x)).2.2.e = u.e := by
 refine ⟨?_, ap_e (putA_k _ _ _)⟩
 unfold putA
 by_cases hk : x.k = 1
 ·rw [if_pos hk]
  unfold apU
  split
  ·rfl
  ·simp; exact write_l _ _ _ _
 ·rw [if_neg hk]
  unfold apU
  split
  ·rfl
  ·simp; exact fill_l _ _ _
theorem trim_ap {u : U} {e b : Int} (he : u.e = e) (h0 : 0 ≤ e ∧ e ≤ 1099511627776) (hb : 0 ≤ b ∧ b ≤ 1048576) : (apU u ⟨4, e, b, []⟩).1 = 0 ∧ (apU u ⟨4, e, b, []⟩).2.2.l = max u.l b ∧ (apU u ⟨4, e, b, []⟩).2.2.e = e := by
 have hc : (⟨4, e, b, []⟩ : Ac).check = 0 := by
  unfold Ac.check
  rw [if_neg (by simp; omega), if_neg (by simp), if_neg (by simp), if_neg (by simp)]
 have ha : u.asks e (inR b 1048576) = 0 := by
  unfold U.asks U.cur inR
  rw [he]
  simp [hb.1, hb.2]
 have ht : u.trim e b = (0, { u with l := max u.l b, cells := u.cells.filter (fun p => !decide (p.1 < max u.l b)) }) := by
  unfold U.trim
  rw [if_neg (by rw [ha]; decide)]
 unfold apU
 rw [if_neg (by rw [hc]; decide)]
 simp only
 rw [if_neg (by decide), if_neg (by decide), if_neg (by decide), if_pos trivial, ht]
 exact ⟨rfl, rfl, he⟩
theorem allC_rest {St : Type} {f : St → Int → Nat × St} {P : List Int → St → Prop} {Q : Nat → Prop} (hf : ∀ u rest s, P (u :: rest) s → P rest (f s u).2 ∧ ((f s u).1 ≠ 0 → Q (f s u).1)) : ∀ (l : List Int) {s : St}, P l s → ∃ rest, P rest (allC f l s).2 ∧ ((allC f l s).1 ≠ 0 → Q (allC f l s).1) ∧ ((allC f l s).1 = 0 → rest = [])
 | [], s, h => ⟨[], h, fun h => absurd rfl h, fun _ => rfl⟩
 | u :: l, s, h => by
  have h1 := hf u l s h
  unfold allC
  split
  ·rename_i hz
   exact ⟨l, h1.1, h1.2, fun h0 => absurd h0 hz⟩
  ·exact allC_rest hf l h1.1
/-- units that have never failed, on the way: those of the list yet to come have had k acts, and the low mark l; the others one act more, and l' -/
structure Way (r : Int) (k : Nat) (l l' : Int) (M : Cl) (rest : List Int) (s : Cl) : Prop where
 ok : s.ok
 stay : Stay M s
 nodup : rest.Nodup
 each : ∀ (i : Nat) (x : Un), s.us[i]? = some x → ∃ u, u.e = M.p.e ∧ if (i : Int) ∈ rest then Fine r k u x ∧ u.l = l else Fine r (k + 1) u x ∧ u.l = l'
theorem Way.step {r : Int} {k : Nat} {l l' : Int} {M s : Cl} {u : Int} {rest : List Int} (h : Way r k l l' M (u :: rest) s) (hk : k < 512) (hr : ((200 * k + 200 : Nat) : Int) ≤ r) {x : Ac} (hx : x.k ≠ 1) (hu : 0 ≤ u)
  (hl : ∀ v : U, v.e = M.p.e → v.l = l → v.ok → (if (apU v x).1 = 0 then (apU v x).2.2.l else v.l) = l') : Way r k l l' M rest (s.do u.toNat x).2.2 ∧ (∀ hlt : u.toNat < s.us.length, ∃ v : U, v.e = M.p.e ∧ v.l = l ∧ v.ok ∧ (s.do u.toNat x).1 = (apU v x).1) := by
 have hok := h.ok.do u.toNat x
 have hnd := List.nodup_cons.1 h.nodup
 have hst := h.stay.do u.toNat x
 cases hus : s.us[u.toNat]? with
 | none =>
  have hge : s.us.length ≤ u.toNat := List.getElem?_eq_none_iff.1 hus
  refine ⟨⟨hok, hst, hnd.2, fun i y hy => ?_⟩, fun hlt => by omega⟩
  have hd : (s.do u.toNat x).2.2 = s := by unfold Cl.do; rw [hus]
  rw [hd] at hy
  obtain ⟨v, he, hv⟩ := h.each i y hy
  refine ⟨v, he, ?_⟩
  have hi : i < s.us.length := (List.getElem?_eq_some_iff.1 hy).1
  have hne : (i : Int) ≠ u := by omega
  by_cases hm : (i : Int) ∈ rest
  ·rw [if_pos (List.mem_cons_of_mem _ hm)] at hv; rw [if_pos hm]; exact hv
  ·rw [if_neg (by rw [List.mem_cons]; rintro (h | h); exact hne h; exact hm h)] at hv; rw [if_neg hm]; exact hv
 | some y0 =>
  obtain ⟨v, he, hv⟩ := h.each _ _ hus
  rw [if_pos (by rw [Int.toNat_of_nonneg hu]; exact List.mem_cons_self)] at hv
  obtain ⟨S1, D1, S2, D2, hy, e, hF⟩ := hv.1.act2 hk hr x
  subst hy
  have hd : s.do u.toNat x = ((apU v x).1, (if (apU v x).1 = 0 then (apU v x).2.1 else 0), s.put u.toNat ⟨D2, some S2⟩) := by
   rw [do_on x hus, e]
  have hvo := hv.1.okU
  refine ⟨⟨hok, hst, hnd.2, fun i y hy => ?_⟩, fun _ => ⟨v, he, hv.2, hvo, by rw [hd]⟩⟩
  rw [hd] at hy
  have hy' : (s.us.set u.toNat ⟨D2, some S2⟩)[i]? = some y := hy
  rw [List.getElem?_set] at hy'
  split at hy'
  ·rename_i hi
   split at hy'
   ·simp only [Option.some.injEq] at hy'
    subst hy'
    have hui : (i : Int) = u := by rw [← hi, Int.toNat_of_nonneg hu]
    refine ⟨if (apU v x).1 = 0 then (apU v x).2.2 else v, ?_, ?_⟩
    rotate_left
    ·rw [if_neg (by rw [hui]; exact hnd.1)]
     exact ⟨hF.mono (by split <;> omega), by have := hl v he hv.2 hvo; split <;> rename_i hz <;> simp only [hz, if_true, if_false] at this <;> exact this⟩
    ·split
     ·rw [ap_e hx]; exact he
     ·exact he
   ·cases hy'
  ·rename_i hi
   obtain ⟨v2, he2, hv2⟩ := h.each i y hy'
   refine ⟨v2, he2, ?_⟩
   have hne : (i : Int) ≠ u := fun e => hi (by rw [← e, Int.toNat_natCast])
   by_cases hm : (i : Int) ∈ rest
   ·rw [if_pos (List.mem_cons_of_mem _ hm)] at hv2; rw [if_pos hm]; exact hv2
   ·rw [if_neg (by rw [List.mem_cons]; rintro (h | h); exact hne h; exact hm h)] at hv2; rw [if_neg hm]; exact hv2
/-- no unit has ever failed, each has had at most k acts, all have one low mark -/
structure Even (r : Int) (k : Nat) (l : Int) (M : Cl) : Prop where
 ok : M.ok
 e : M.q.e = M.p.e
 all : M.p.all.Nodup
 low : 0 ≤ l ∧ l ≤ 1048576
 each : ∀ (i : Nat) (x : Un), M.us[i]? = some x → ∃ u, Fine r k u x ∧ u.e = M.p.e ∧ u.l = l
theorem Even.live {r : Int} {k : Nat} {l : Int} {M : Cl} (h : Even r k l M) : Live r k M := ⟨h.ok, h.e, fun i x hx => by obtain ⟨u, h1, h2, _⟩ := h.each i x hx; exact ⟨u, h1, h2⟩⟩
theorem Even.mono {r : Int} {k m : Nat} {l : Int} {M : Cl} (h : Even r k l M) (hk : k ≤ m) : Even r m l M := ⟨h.ok, h.e, h.all, h.low, fun i x hx => by obtain ⟨u, h1, h2, h3⟩ := h.each i x hx; exact ⟨u, h1.mono hk, h2, h3⟩⟩
theorem Even.way {r : Int} {k : Nat} {l l' : Int} {M : Cl} (h : Even r k l M) {us : List Int} (hn : us.Nodup) (hu : ∀ i : Nat, i < M.us.length → (i : Int) ∈ us ∨ l' = l) : Way r k l l' M us M :=
 ⟨h.ok, Stay.refl M, hn, fun i x hx => by
  obtain ⟨u, h1, h2, h3⟩ := h.each i x hx
  refine ⟨u, h2, ?_⟩
  by_cases hm : (i : Int) ∈ us
  ·rw [if_pos hm]; exact ⟨h1, h3⟩
  ·rw [if_neg hm]
   rcases hu i (List.getElem?_eq_some_iff.1 hx).1 with h | h
   ·exact absurd h hm
   ·exact ⟨h1.mono (Nat.le_succ k), by rw [h]; exact h3⟩⟩
theorem Way.even {r : Int} {k : Nat} {l : Int} {M s : Cl} {rest : List Int} (h : Way r k l l M rest s) (he : M.q.e = M.p.e) (ha : M.p.all.Nodup) (hl : 0 ≤ l ∧ l ≤ 1048576) : Even r (k + 1) l s :=
 ⟨h.ok, by rw [h.stay.q, h.stay.p]; exact he, by rw [h.stay.p]; exact ha, hl, fun i x hx => by
  obtain ⟨u, h1, h2⟩ := h.each i x hx
  rw [h.stay.p]
  split at h2
  ·exact ⟨u, h2.1.mono (Nat.le_succ k), h1, h2.2⟩
  ·exact ⟨u, h2.1, h1, h2.2⟩⟩
theorem Way.even0 {r : Int} {k : Nat} {l l' : Int} {M s : Cl} (h : Way r k l l' M [] s) (he : M.q.e = M.p.e) (ha : M.p.all.Nodup) (hl : 0 ≤ l' ∧ l' ≤ 1048576) : Even r (k + 1) l' s :=
 ⟨h.ok, by rw [h.stay.q, h.stay.p]; exact he, by rw [h.stay.p]; exact ha, hl, fun i x hx => by
  obtain ⟨u, h1, h2⟩ := h.each i x hx
  rw [h.stay.p]
  rw [if_neg (by simp)] at h2
  exact ⟨u, h2.1, h1, h2.2⟩⟩
theorem Even.raise {r : Int} {k : Nat} {l : Int} {M : Cl} (h : Even r k l M) (n : Int) : Even r k l (M.raise n).2 := by
 have hu := raise_up h.ok n
 exact ⟨hu.ok, by rw [hu.qe, hu.p]; exact h.e, by rw [hu.p]; exact h.all, h.low, h.each⟩
theorem Even.lowAt {r : Int} {k : Nat} {l : Int} {M : Cl} (h : Even r k l M) {u : Int} (hu : 0 ≤ u ∧ u < (M.us.length : Int)) : M.lowU u = l := by
 obtain ⟨i, rfl⟩ : ∃ i : Nat, u = i := ⟨u.toNat, by omega⟩
 have hlt : i < M.us.length := by omega
 obtain ⟨v, h1, _, h3⟩ := h.each i _ (List.getElem?_eq_getElem hlt)
 rw [h1.lowU (List.getElem?_eq_getElem hlt), h3]
theorem minLow_ge {M : Cl} {b : Int} : ∀ (l : List Int) (t : Int), b ≤ t → (∀ u ∈ l, b ≤ M.lowU u) → b ≤ minLow M l t
 | [], t, h, _ => h
 | u :: l, t, h, hu => minLow_ge l (min t (M.lowU u)) (by have := hu u List.mem_cons_self; omega) (fun v hv => hu v (List.mem_cons_of_mem _ hv))
theorem Even.minLow {r : Int} {k : Nat} {l b : Int} {M : Cl} (h : Even r k l M) (hb : b ≤ l) : b ≤ SL.minLow M M.units 1048576 :=
 minLow_ge _ _ (by have := h.low; omega) (fun u hu => by rw [h.lowAt ((units_facts h.ok).2 u hu)]; exact hb)
theorem home_nodup {M : Cl} (h : M.p.all.Nodup) (a : Int) : (M.home a).Nodup := by
 unfold Cl.home
 rw [List.getD_eq_getElem?_getD]
 cases hg : M.p.cs[(a % (M.p.cs.length : Int)).toNat]? with
 | none => simp
 | some c => exact (List.sublist_flatten_of_mem (List.mem_of_getElem? hg)).nodup h
theorem home_mem {M : Cl} {a u : Int} (h : u ∈ M.home a) : u ∈ M.p.all := by
 unfold Cl.home at h
 rw [List.getD_eq_getElem?_getD] at h
 cases hg : M.p.cs[(a % (M.p.cs.length : Int)).toNat]? with
 | none => rw [hg] at h; simp at h
 | some c => rw [hg] at h; exact List.mem_flatten.2 ⟨_, List.mem_of_getElem? hg, h⟩
/-- a put into such a cluster: a trimmed address lies below the low mark -/
theorem Even.spread {r : Int} {k : Nat} {l : Int} {M : Cl} (h : Even r k l M) (hk : k < 512) (hr : ((200 * k + 200 : Nat) : Int) ≤ r) {us : List Int} (hn : us.Nodup) (hu : ∀ u ∈ us, 0 ≤ u ∧ u < (M.us.length : Int)) (a : Int) (x : C) : Even r (k + 1) l (M.spread us a x).2 ∧ ((M.spread us a x).1 = 9 → a < l) := by
 obtain ⟨rest, h1, h2, h3⟩ := allC_rest (f := Cl.putS a x) (P := fun rest s => Way r k l l M rest s ∧ ∀ u ∈ rest, 0 ≤ u ∧ u < (M.us.length : Int)) (Q := fun z => z = 9 → a < l) (fun u rest s ⟨hs, hr2⟩ => by
  have hu0 := hr2 u List.mem_cons_self
  have h4 := hs.step hk hr (x := putA s.p.e a x) (putA_k _ _ _) hu0.1 (fun v he hv _ => by rw [hs.stay.p]; split; exact (put_l v M.p.e a x).1.trans hv; exact hv)
  have e2 : (Cl.putS a x s u).2 = (s.do u.toNat (putA s.p.e a x)).2.2 := putC_len _ _ _ _ _
  refine ⟨⟨by rw [e2]; exact h4.1, fun v hv => hr2 v (List.mem_cons_of_mem _ hv)⟩, fun _ h9 => ?_⟩
  obtain ⟨v, _, hvl, hvo, hvd⟩ := h4.2 (by have := hs.stay.us; omega)
  have h9' : (s.do u.toNat (putA s.p.e a x)).1 = 9 := by
   have h9 : (Cl.putC s.p.e a x s u).1 = 9 := h9
   unfold Cl.putC at h9
   split at h9
   ·cases h9
   ·exact h9
  rw [hvd] at h9'
  rw [← hvl]
  exact put_9 hvo h9') us (s := M) ⟨h.way hn (fun _ _ => .inr rfl), hu⟩
 have he := h1.1.even h.e h.all h.low
 unfold Cl.spread
 split
 ·rename_i hz
  exact ⟨he, h2 hz⟩
 ·refine ⟨he.raise _, fun h9 => ?_⟩
  exfalso
  have h9' : ((allC (Cl.putS a x) us M).2.q.raise (allC (Cl.putS a x) us M).2.p.e (a + 1)).1 = 9 := h9
  unfold Q.raise at h9'
  split at h9'
  ·simp only at h9'
   unfold Q.asks at h9'
   (repeat' split at h9') <;> cases h9'
  ·cases h9'
theorem Even.putAt {r : Int} {k : Nat} {l : Int} {M : Cl} (h : Even r k l M) (hk : k < 512) (hr : ((200 * k + 200 : Nat) : Int) ≤ r) (a : Int) (x : C) : Even r (k + 1) l (M.putAt a x).2 ∧ ((M.putAt a x).1 = 9 → a < l) := by
 unfold Cl.putAt
 split
 ·exact ⟨h.mono (Nat.le_succ k), fun h => by cases h⟩
 ·split
  ·refine ⟨h.mono (Nat.le_succ k), fun h9 => ?_⟩
   exfalso
   have h9 : x.check = 9 := h9
   unfold C.check at h9
   (repeat' split at h9) <;> cases h9
  ·split
   ·exact ⟨h.mono (Nat.le_succ k), fun h => by cases h⟩
   ·exact h.spread hk hr (home_nodup h.all a) (fun u hu => h.ok.there u (home_mem hu)) a x
theorem Even.trim {r : Int} {k : Nat} {l : Int} {M : Cl} (h : Even r k l M) (hk : k < 512) (hr : ((200 * k + 200 : Nat) : Int) ≤ r) (hall : ∀ i : Nat, i < M.us.length → (i : Int) ∈ M.p.all) {b : Int} (hb : 0 ≤ b ∧ b ≤ 1048576) : ∃ M', M.trim b = (0, M') ∧ Even r (k + 1) (max l b) M' := by
 have hpe := (pj_ok h.ok.proj).e
 obtain ⟨rest, h1, h2, h3⟩ := allC_rest (f := Cl.trimS M.p.e b) (P := fun rest s => Way r k l (max l b) M rest s ∧ ∀ u ∈ rest, 0 ≤ u ∧ u < (M.us.length : Int)) (Q := fun _ => False) (fun u rest s ⟨hs, hr2⟩ => by
  have hu0 := hr2 u List.mem_cons_self
  have h4 := hs.step hk hr (x := ⟨4, M.p.e, b, []⟩) (by simp) hu0.1 (fun v he hv _ => by
   obtain ⟨g1, g2, _⟩ := trim_ap (u := v) he hpe hb
   rw [if_pos g1, g2, hv])
  refine ⟨⟨h4.1, fun v hv => hr2 v (List.mem_cons_of_mem _ hv)⟩, fun hz => ?_⟩
  obtain ⟨v, hve, hvl, hvo, hvd⟩ := h4.2 (by have := hs.stay.us; omega)
  exact hz (hvd.trans (trim_ap hve hpe hb).1)) M.units (s := M) ⟨h.way (by
   unfold Cl.units
   have hlt := unitsOf_nodup M.p.all
   exact (List.Pairwise.imp (fun {a b} hab e => by omega) (dedS_rise (sortI M.p.all) (sortI_sorted _)))) (fun i hi => .inl ((unitsOf_mem _ _).2 (hall i hi))), (units_facts h.ok).2⟩
 have hz : (allC (Cl.trimS M.p.e b) M.units M).1 = 0 := by
  cases hq : (allC (Cl.trimS M.p.e b) M.units M).1 with
  | zero => rfl
  | succ n => exact (h2 (by rw [hq]; simp)).elim
 have he : Even r (k + 1) (max l b) (allC (Cl.trimS M.p.e b) M.units M).2 := by
  have := h3 hz
  subst this
  exact h1.1.even0 h.e h.all (by have := h.low; omega)
 have hin : inB b 1048576 = true := inB_iff.2 hb
 refine ⟨((allC (Cl.trimS M.p.e b) M.units M).2.raise b).2, ?_, he.raise b⟩
 unfold Cl.trim
 rw [if_neg (by rw [hin]; decide), if_neg (by rw [hz]; decide)]
 have hrz : ((allC (Cl.trimS M.p.e b) M.units M).2.raise b).1 = 0 := by
  show ((allC (Cl.trimS M.p.e b) M.units M).2.q.raise (allC (Cl.trimS M.p.e b) M.units M).2.p.e b).1 = 0
  have hqe := he.e
  unfold Q.raise Q.asks
  rw [hin, hqe]
  simp
 exact Prod.ext hrz rfl
end SL
end Go.Proofs.YtcpkeddgkpjioaaGreatDoor

namespace Go.Proofs.YtcpkeddgkpjioaaGreatDoor
namespace SL
open DK SH SQ
theorem idxB_spec {α : Type} {p : α → Bool} {l : List α} (h : 0 ≤ idxB p l) : ∃ m : Nat, idxB p l = m ∧ ∃ hm : m < l.length, p l[m] = true := by
 unfold idxB at h ⊢
 cases hq : l.findIdx? p with
 | none => rw [hq] at h; simp at h
 | some i =>
  rw [List.findIdx?_eq_some_iff_getElem] at hq
  obtain ⟨h1, h2, _⟩ := hq
  exact ⟨i, rfl, h1, h2⟩
theorem news_idem {f a : Int} {X : List CE} (hf : f ≤ a) : newsS f X (a + (newsS f X a).length) = [] := by
 by_cases h1 : f + X.length ≤ a
 ·have e : newsS f X a = [] := by unfold newsS; rw [if_pos h1]
  rw [e]
  unfold newsS
  rw [if_pos (by simp; omega)]
 ·have hd : ((X.drop (a - f).toNat).length : Int) = f + X.length - a := by rw [List.length_drop]; omega
  by_cases h2 : 0 ≤ idxB emptyC (X.drop (a - f).toNat)
  ·obtain ⟨m, hm, hlt, hp⟩ := idxB_spec h2
   have e : newsS f X a = (X.drop (a - f).toNat).take m := by unfold newsS; rw [if_neg h1, if_pos h2, hm, Int.toNat_natCast]
   have hl : (newsS f X a).length = m := by rw [e, List.length_take]; omega
   rw [hl]
   have hdd : X.drop (a + (m : Int) - f).toNat = (X.drop (a - f).toNat).drop m := by
    rw [List.drop_drop]; congr 1; omega
   have h0 : idxB emptyC ((X.drop (a - f).toNat).drop m) = (0 : Nat) := by
    refine idxB_hit (k := 0) (by rw [List.length_drop]; omega) (by simp) ?_
    simpa using hp
   unfold newsS
   split
   ·rfl
   ·rw [hdd, h0]
    simp
  ·have e : newsS f X a = X.drop (a - f).toNat := by unfold newsS; rw [if_neg h1, if_neg h2]
   rw [e]
   unfold newsS
   rw [if_pos (by omega)]
theorem news_end {f a : Int} {X : List CE} (hf : f ≤ a) (ha : a ≤ 1048576) (he : f + X.length ≤ 1048576) : a + (newsS f X a).length ≤ 1048576 := by
 by_cases h1 : f + X.length ≤ a
 ·have e : newsS f X a = [] := by unfold newsS; rw [if_pos h1]
  rw [e]; simpa using ha
 ·have hl : (newsS f X a).length ≤ (X.drop (a - f).toNat).length := by
   unfold newsS
   rw [if_neg h1]
   split
   ·rw [List.length_take]; omega
   ·exact Nat.le_refl _
  rw [List.length_drop] at hl
  omega
theorem markS_up {M : Cl} (h : M.ok) (b : Int) : Up M (markS M b).2 := by
 unfold markS
 split
 ·exact Up.refl h
 ·exact trim_up h b
theorem oneS_up {M : Cl} (h : M.ok) (a : Int) (y : C) : Up M (oneS M a y).2 := by
 unfold oneS
 split
 ·exact Up.refl h
 ·split
  ·exact putAt_up h _ _
  ·exact (putAt_up h _ _).trans (markS_up (putAt_up h _ _).ok _)
theorem onesS_up : ∀ (l : List C) {M : Cl} (a : Int), M.ok → Up M (onesS l M a).2.1
 | [], M, a, h => Up.refl h
 | x :: l, M, a, h => by
  unfold onesS
  split
  ·exact oneS_up h _ _
  ·exact (oneS_up h _ _).trans (onesS_up l _ (oneS_up h _ _).ok)
theorem cellsS_up {M : Cl} (h : M.ok) (a : Int) (X : List C) : Up M (cellsS M a X).2.1 := by
 unfold cellsS
 split
 ·exact markS_up h _
 ·exact (markS_up h _).trans (onesS_up _ _ (markS_up h _).ok)
theorem takeA_up {M : Cl} (h : M.ok) (x : Sp) (e t f : Int) (X : List CE) : Up M (takeA M x e t f X).2.1 := by
 unfold takeA
 split
 ·exact Up.refl h
 ·split
  ·exact Up.refl h
  ·split
   ·exact Up.refl h
   ·split
    ·exact cellsS_up h _ _
    ·exact (cellsS_up h _ _).trans (markS_up (cellsS_up h _ _).ok _)
def AllIn (M : Cl) : Prop := ∀ i : Nat, i < M.us.length → (i : Int) ∈ M.p.all
theorem AllIn.up {M M' : Cl} (h : AllIn M) (g : Up M M') : AllIn M' := fun i hi => by rw [g.p]; exact h i (by rw [← g.us]; exact hi)
theorem Even.markS {r : Int} {k : Nat} {l : Int} {M : Cl} (h : Even r k l M) (hk : k < 512) (hr : ((200 * k + 200 : Nat) : Int) ≤ r) (hall : AllIn M) {b : Int} (hb : 0 ≤ b ∧ b ≤ 1048576) : ∃ M' l', SL.markS M b = (0, M') ∧ Even r (k + 1) l' M' ∧ b ≤ SL.minLow M' M'.units 1048576 := by
 unfold SL.markS
 split
 ·rename_i hq
  exact ⟨M, l, rfl, h.mono (Nat.le_succ k), hq⟩
 ·obtain ⟨M', e, h'⟩ := h.trim hk hr hall hb
  exact ⟨M', _, e, h', h'.minLow (by omega)⟩
theorem Even.one {r : Int} {k : Nat} {l : Int} {M : Cl} (h : Even r k l M) (hk : k < 512) (hr : ((200 * k + 200 : Nat) : Int) ≤ r) (a : Int) (y : C) : Even r (k + 1) l (oneS M a y).2 := by
 have hp := h.putAt hk hr a y
 unfold oneS
 split
 ·exact h.mono (Nat.le_succ k)
 ·split
  ·exact hp.1
  ·rename_i h9
   have ha := hp.2 (by omega)
   have : SL.markS (M.putAt a y).2 (a + 1) = (0, (M.putAt a y).2) := if_pos (hp.1.minLow (by omega))
   rw [this]
   exact hp.1
theorem Even.ones {r : Int} {l : Int} : ∀ (X : List C) {k : Nat} {M : Cl} (a : Int), Even r k l M → k + X.length ≤ 512 → ((200 * (k + X.length) : Nat) : Int) ≤ r → Even r (k + X.length) l (onesS X M a).2.1
 | [], k, M, a, h, _, _ => h
 | x :: X, k, M, a, h, hk, hr => by
  simp only [List.length_cons] at hk hr ⊢
  have h1 := h.one (by omega) (by omega) a x
  unfold onesS
  split
  ·exact h1.mono (by omega)
  ·exact (Even.ones X (a + 1) h1 (by omega) (by omega)).mono (by omega)
theorem onesS_end : ∀ (X : List C) {M : Cl} (a : Int), (onesS X M a).1 = 0 → (onesS X M a).2.2 = a + X.length
 | [], M, a, _ => by simp [onesS]
 | x :: X, M, a, h => by
  unfold onesS at h ⊢
  split at h
  ·rename_i hz; exact absurd h hz
  ·rename_i hz
   rw [if_neg hz, onesS_end X _ h]
   simp only [List.length_cons]; omega
theorem lowF_rng (a : Int) (ha : 0 ≤ a) : ∀ (X : List C) (s : Int × Int), 0 ≤ s.1 → 0 ≤ s.2 → s.2 ≤ a + s.1 → 0 ≤ (X.foldl (lowF a) s).2 ∧ (X.foldl (lowF a) s).2 ≤ a + s.1 + X.length
 | [], s, h0, h1, h2 => by simp; omega
 | x :: X, s, h0, h1, h2 => by
  have h3 := lowF_rng a ha X (lowF a s x) (by show 0 ≤ s.1 + 1; omega) (by show 0 ≤ (if x.k = 3 then a + s.1 + 1 else s.2); split <;> omega) (by show (if x.k = 3 then a + s.1 + 1 else s.2) ≤ a + (s.1 + 1); split <;> omega)
  rw [show (lowF a s x).1 = s.1 + 1 from rfl] at h3
  rw [List.foldl_cons]
  simp only [List.length_cons]
  omega
theorem lowL_rng {a : Int} (ha : 0 ≤ a) (X : List C) : 0 ≤ lowL a X ∧ lowL a X ≤ a + X.length := by
 have := lowF_rng a ha X (0, 0) (Int.le_refl _) (Int.le_refl _) (by omega)
 unfold lowL
 simpa using this
theorem Even.cells {r : Int} {k : Nat} {l : Int} {M : Cl} (h : Even r k l M) (hall : AllIn M) {a : Int} {X : List C} (hk : k + 1 + X.length ≤ 512) (hr : ((200 * (k + 1 + X.length) : Nat) : Int) ≤ r) (ha : 0 ≤ a) (he : a + X.length ≤ 1048576) :
  ∃ l', Even r (k + 1 + X.length) l' (cellsS M a X).2.1 ∧ ((cellsS M a X).1 = 0 → (cellsS M a X).2.2 = a + X.length) := by
 have hlo := lowL_rng ha X
 obtain ⟨M', l', e, h', _⟩ := h.markS (by omega) (by omega) hall (b := lowL a X) ⟨hlo.1, by omega⟩
 have e2 : cellsS M a X = onesS X M' a := by
  unfold cellsS
  rw [e, if_neg (by simp)]
 rw [e2]
 exact ⟨l', h'.ones X a (by omega) (by omega), onesS_end X a⟩
theorem cellsS_nil {r : Int} {k : Nat} {l : Int} {M : Cl} (h : Even r k l M) (a : Int) : cellsS M a [] = (0, M, a) := by
 have e : SL.markS M (lowL a []) = (0, M) := if_pos (h.minLow (by show (0 : Int) ≤ l; exact h.low.1))
 unfold cellsS
 rw [e, if_neg (by simp)]
 rfl
/-- what a parcel leaves: it can be applied again, and changes nothing more -/
theorem take_twice {r : Int} {k : Nat} {l : Int} {M : Cl} (h : Even r k l M) (hall : AllIn M) (x : Sp) (hx : 0 ≤ x.a ∧ x.a ≤ 1048576) (e t f : Int) (X : List CE) (hX : X.length ≤ 12) (hk : k + 14 ≤ 512) (hr : ((200 * (k + 14) : Nat) : Int) ≤ r) :
  (∃ l', Even r (k + 14) l' (takeA M x e t f X).2.1) ∧ (0 ≤ (takeA M x e t f X).2.2.a ∧ (takeA M x e t f X).2.2.a ≤ 1048576) ∧ ((takeA M x e t f X).1 = 0 → takeA (takeA M x e t f X).2.1 (takeA M x e t f X).2.2 e t f X = (0, (takeA M x e t f X).2.1, (takeA M x e t f X).2.2)) := by
 by_cases h1 : pclC e t f (X.map (·.c)) ≠ 0
 ·have e1 : takeA M x e t f X = (pclC e t f (X.map (·.c)), M, x) := by unfold takeA; rw [if_pos h1]
  rw [e1]
  exact ⟨⟨l, h.mono (by omega)⟩, hx, fun h0 => absurd h0 h1⟩
 by_cases h2 : e ≠ x.e
 ·have e1 : takeA M x e t f X = (7, M, x) := by unfold takeA; rw [if_neg h1, if_pos h2]
  rw [e1]
  exact ⟨⟨l, h.mono (by omega)⟩, hx, fun h0 => by cases h0⟩
 by_cases h3 : x.a < f
 ·have e1 : takeA M x e t f X = (0, M, x) := by unfold takeA; rw [if_neg h1, if_neg h2, if_pos h3]
  rw [e1]
  exact ⟨⟨l, h.mono (by omega)⟩, hx, fun _ => e1⟩
 have hz : pclC e t f (X.map (·.c)) = 0 := by omega
 obtain ⟨_, hti, hsz⟩ := pclC_zero hz
 have ht := inB_iff.1 hti
 obtain ⟨hf0, hf1, _, hfe, _⟩ := segC_zero hsz
 rw [List.length_map] at hfe
 have hne := news_end (X := X) (by omega : f ≤ x.a) hx.2 hfe
 have hnl := newsS_len f X x.a
 have hid := news_idem (X := X) (by omega : f ≤ x.a)
 obtain ⟨l5, h5, hend⟩ := h.cells hall (a := x.a) (X := (newsS f X x.a).map (·.c)) (by rw [List.length_map]; omega) (by rw [List.length_map]; omega) hx.1 (by rw [List.length_map]; exact hne)
 have hrg := cellsS_rng h.ok (M := M) (X := (newsS f X x.a).map (·.c)) hx (by rw [List.length_map]; omega)
 have hup := cellsS_up h.ok x.a ((newsS f X x.a).map (·.c))
 have e1 : takeA M x e t f X = if (cellsS M x.a ((newsS f X x.a).map (·.c))).1 ≠ 0 then ((cellsS M x.a ((newsS f X x.a).map (·.c))).1, (cellsS M x.a ((newsS f X x.a).map (·.c))).2.1, ⟨x.e, (cellsS M x.a ((newsS f X x.a).map (·.c))).2.2⟩) else
   ((SL.markS (cellsS M x.a ((newsS f X x.a).map (·.c))).2.1 (min t (cellsS M x.a ((newsS f X x.a).map (·.c))).2.2)).1, (SL.markS (cellsS M x.a ((newsS f X x.a).map (·.c))).2.1 (min t (cellsS M x.a ((newsS f X x.a).map (·.c))).2.2)).2, ⟨x.e, (cellsS M x.a ((newsS f X x.a).map (·.c))).2.2⟩) := by
  unfold takeA; rw [if_neg h1, if_neg h2, if_neg h3]
 rw [List.length_map] at h5 hend hrg
 generalize cellsS M x.a ((newsS f X x.a).map (·.c)) = cr at *
 obtain ⟨cz, M5, ca⟩ := cr
 simp only at h5 hend hrg hup e1
 by_cases hcz : cz ≠ 0
 ·rw [if_pos hcz] at e1
  rw [e1]
  exact ⟨⟨l5, h5.mono (by omega)⟩, ⟨by show 0 ≤ ca; omega, by show ca ≤ 1048576; omega⟩, fun h0 => absurd h0 hcz⟩
 ·rw [if_neg hcz] at e1
  have hca := hend (by omega)
  obtain ⟨M6, l6, e6, h6, hm6⟩ := h5.markS (by omega) (by omega) (hall.up hup) (b := min t ca) ⟨by omega, by omega⟩
  rw [e6] at e1
  rw [e1]
  refine ⟨⟨l6, h6.mono (by omega)⟩, ⟨by show 0 ≤ ca; omega, by show ca ≤ 1048576; omega⟩, fun _ => ?_⟩
  show takeA M6 ⟨x.e, ca⟩ e t f X = (0, M6, ⟨x.e, ca⟩)
  have hn0 : newsS f X ca = [] := by rw [hca]; exact hid
  unfold takeA
  simp only
  rw [if_neg h1, if_neg h2, if_neg (by omega), hn0]
  simp only [List.map_nil]
  rw [cellsS_nil h6]
  simp only [ne_eq, not_true_eq_false, if_false]
  have : SL.markS M6 (min t ca) = (0, M6) := if_pos hm6
  rw [this]
end SL
end Go.Proofs.YtcpkeddgkpjioaaGreatDoor

namespace Go.Proofs.YtcpkeddgkpjioaaGreatDoor
open Go.RowKit
namespace SL
open DK SH SQ
theorem eqIn_rc (n : Nat) (a b : Int) (w : World) : (Op.equalIn (n + 5) 49 (.agg #[.int .i64 a, .int .i64 b]) (.agg #[.int .i64 a, .int .i64 b])).run Tryz.prog w = .ok true w := by
 rw [show n + 5 = (n + 4) + 1 from rfl, run_equalIn_agg w (n+4) 49 _ _ (by kernel_rfl) (by kernel_rfl)]
 simp [Program.fieldsOf, Tryz.underlying49, go_sem, Op.eqFields]
@[go_sem] theorem rcGuard : Tryz.prog.eqGuardType Tryz.prog.depth 49 = false := by kernel_rfl
@[go_sem] theorem neq_rc (a b : Int) (w : World) : (binOp .neq 49 (.agg #[.int .i64 a, .int .i64 b]) (.agg #[.int .i64 a, .int .i64 b])).run Tryz.prog w = .ok (.bool false) w := by
 rw [run_neq_struct, eqIn_rc 9995 a b w]
 rfl
@[go_sem] theorem eql_rc (a b : Int) (w : World) : (binOp .eql 49 (.agg #[.int .i64 a, .int .i64 b]) (.agg #[.int .i64 a, .int .i64 b])).run Tryz.prog w = .ok (.bool true) w := by
 rw [run_eql_struct, eqIn_rc 9995 a b w]
 rfl
/-- a parcel, with where its cells lie -/
structure PE where
 e : Int
 t : Int
 f : Int
 X : List CE
 a : Option Addr
 k : Nat
def peV (y : PE) : List Value := [.int .i64 y.e, .int .i64 y.t, .int .i64 y.f, .slice y.a y.X.length y.k]
structure PEs (w : World) (a : Option Addr) (k : Nat) (Y : List PE) : Prop where
 row : SlV w (.slice a Y.length k) Y.length (Y.flatMap peV)
 each : ∀ y ∈ Y, CEs w y.a y.k y.X
theorem PEs.below {w w' : World} {a : Option Addr} {k : Nat} {Y : List PE} (h : PEs w a k Y) (hb : Below w.heap.size w w') : PEs w' a k Y := ⟨SlV.below h.row (Nat.le_refl _) hb, fun y hy => (h.each y hy).below hb⟩
def bigC (x : CE) : Bool := decide (100 < x.c.d.length)
def long5 (X : List CE) (most : Nat) : Bool := X.any bigC || decide (most < X.length)
set_option maxHeartbeats 4000000 in
theorem long5_any (X : List CE) (most : Nat) (hmost : most ≤ 1000) (a : Option Addr) (c : Nat) (W : World) (h : CEs W a c X) :
  Calls Tryz.prog 16 #[.slice a X.length c, .int .i64 most] W fun e w' => e = .returned (.bool (long5 X most)) ∧ Below W.heap.size W w' := by
 have HS := Lib.hid' h
 have hlen : X.length ≤ 9223372036854775807 := by obtain ⟨_, _, he, h1, h2, _⟩ := h.row; cases he; unfold maxLen at h2; omega
 clear h
 go_enter Tryz.func16, Tryz.ntmps16
 go_wp2_with fail
 go_loopw [9] (fun v9 wr => ∃ k : Nat, v9 = .int .i64 k ∧ k ≤ X.length ∧ Hid ((X.take k).any bigC = false) ∧ Hid (Below W.heap.size W wr)) (fun v9 _ => X.length - (intOf v9).toNat)
 case atStart => exact ⟨0, rfl, Nat.zero_le _, Zh (by simp), Zh (Below.refl _ _)⟩
 case round =>
  obtain ⟨k, rfl, hk, HNO, HBW⟩ := hrel
  by_cases hlt : k < X.length
  ·have hx := HS.out.below HBW.out
   obtain ⟨b, off, rfl, hb, hc⟩ := SlV.row (f := ceV) (s := 2) (fun _ => rfl) (by decide) hx.row hlt
   have c0 := hc 0 _ rfl; have c1 := hc 1 _ rfl
   simp only [Nat.add_zero] at c0
   have hd1 : X[k].c.d.length ≤ 9223372036854775807 := by obtain ⟨_, _, he, h1, h2, _⟩ := hx.each _ (List.getElem_mem hlt); cases he; unfold maxLen at h2; omega
   have HTK := Zh (take_any bigC X k hlt)
   have HMEM := Zh (List.getElem_mem hlt)
   clear hc hx
   generalize X[k] = x at *
   obtain ⟨⟨xk, xd⟩, xa, xc⟩ := x
   simp only at c0 c1 hd1
   by_cases hq : 100 < xd.length
   ·have HF := Zh (show long5 X most = true by unfold long5; rw [List.any_eq_true.2 ⟨_, HMEM.out, by unfold bigC; simpa using hq⟩]; rfl)
    have hq2 : (100 : Int) < xd.length := by omega
    clear hq HTK HMEM
    go_wp2_with fail
    go_ret
    exact ⟨ret_eq (by rw [HF.out]; rfl), HBW.out.trans ((show Below wr.heap.size wr _ by go_grown).mono HBW.out.size)⟩
   ·have HT := Zh (show (X.take (k + 1)).any bigC = false by
     rw [HTK.out, HNO.out, show bigC ⟨⟨xk, xd⟩, xa, xc⟩ = false by unfold bigC; simpa using hq]; rfl)
    have hq2 : ¬ (100 : Int) < xd.length := by omega
    clear HTK hq
    go_wp2_with fail
    go_roundw
    case rel => exact ⟨k + 1, by go_num, by omega, HT, Zh (HBW.out.trans ((show Below wr.heap.size wr _ by go_grown).mono HBW.out.size))⟩
    case measure => simp [intOf]; omega
  ·have HF := Zh (show X.any bigC = false by
    have := HNO.out; rwa [List.take_of_length_le (by omega)] at this)
   by_cases hm : most < X.length
   ·have HM := Lib.hid' hm
    have hm2 : (most : Int) < X.length := by omega
    go_wp2_with fail
    go_ret
    exact ⟨ret_eq (by unfold long5; rw [HF.out]; simp [HM.out]), HBW.out⟩
   ·have HM := Lib.hid' hm
    have hm2 : ¬ (most : Int) < X.length := by omega
    go_wp2_with fail
    go_ret
    exact ⟨ret_eq (by unfold long5; rw [HF.out]; simp [HM.out]), HBW.out⟩
theorem long5_no {X : List CE} {most : Nat} (h : long5 X most = false) : X.length ≤ most := by
 unfold long5 at h
 rw [Bool.or_eq_false_iff] at h
 simpa using h.2
theorem slv_boxN {w0 w : World} {F : Nat → Prop} {L : List Asn} (H : Sep w0 F L w) (i : Nat) {N t n : Nat} {R : List Value} (hi : L[i]? = some (.box N R t)) (hl : n ≤ 1000) : SlV w (.slice (some ⟨N, 0, none⟩) n n) n R := by
 refine ⟨_, _, rfl, Nat.le_refl _, by unfold maxLen; omega, (fun h => by cases h), fun j u hj => ⟨_, rfl, ?_⟩⟩
 have e1 : (Addr.add ⟨N, 0, none⟩ j) = ⟨N, j, none⟩ := by unfold Addr.add; split <;> simp_all
 rw [e1]
 exact H.cell i hi j hj
def hole1 : CE := ⟨⟨2, []⟩, none, 0⟩
theorem ces_hole {w0 w : World} {L : List Asn} (H : Sep w0 NoF L w) (i : Nat) {N : Nat} (hi : L[i]? = some (.box N [.int .i64 2, .slice none 0 0] 36)) : CEs w (some ⟨N, 0, none⟩) 1 [hole1] :=
 ⟨slv_boxN H i hi (by decide), fun x hx => by obtain rfl := List.mem_singleton.1 hx; exact SlV.of_own (own_nil _ 0 0 0)⟩
theorem ap_hole : (apU u1 ⟨3, 1, 1, []⟩).1 = 0 := by first | rfl | kernel_rfl
theorem even_one {r : Int} {x : Un} (hx : Fine r 1 u1 x) (hs : Sd x.d) : Even r 1 0 (M1 x 0) :=
 ⟨m1_ok hx hs ⟨by decide, by decide⟩, rfl, by show ([0] : List Int).Nodup; simp, by decide, fun i y hy => by
  have : y = x := by
   have h1 : ([x] : List Un)[i]? = some y := hy
   cases i with
   | zero => simpa using h1.symm
   | succ i => simp at h1
  rw [this]; exact ⟨u1, hx, rfl, rfl⟩⟩
theorem take26 {r : Int} {x : Un} (hr : 1000 ≤ r) (hx : Fine r 1 u1 x) (hs : Sd x.d) : takeA (M1 x 0) ⟨1, 1⟩ 1 0 2 [hole1] = (0, M1 x 0, ⟨1, 1⟩) ∧ ∃ M', takeA (M1 x 0) ⟨1, 1⟩ 1 0 1 [hole1] = (0, M', ⟨1, 2⟩) := by
 have hev := even_one hx hs
 have hp : ∀ f : Int, 0 ≤ f → f ≤ 10 → pclC 1 0 f ([hole1].map (·.c)) = 0 := fun f h0 h1 => by
  unfold pclC
  rw [if_neg (by decide)]
  unfold segC
  rw [if_neg (by omega), if_neg (by decide), if_neg (by show ¬ 1048576 < f + 1; omega)]
  rfl
 refine ⟨?_, ?_⟩
 ·unfold takeA
  rw [if_neg (by rw [hp 2 (by decide) (by decide)]; decide), if_neg (by decide), if_pos (by decide)]
 ·have hn : newsS 1 [hole1] 1 = [hole1] := by
   have hi : idxB emptyC ([hole1].drop ((1 : Int) - 1).toNat) = -1 := rfl
   unfold newsS
   rw [if_neg (by decide), hi, if_neg (by decide)]
   rfl
  have hput : ((M1 x 0).putAt 1 ⟨2, []⟩).1 = 0 := by
   obtain ⟨S, D, S', D', hxe, e, hF⟩ := hx.act (by decide) (by omega) ⟨3, 1, 1, []⟩
   have hh : (M1 x 0).home 1 = [0] := by unfold Cl.home M1; simp
   have hd : (M1 x 0).do 0 ⟨3, 1, 1, []⟩ = (0, (apU u1 ⟨3, 1, 1, []⟩).2.1, (M1 x 0).put 0 ⟨D', some S'⟩) := by
    rw [do_on (u := 0) (D := D) (S := S) _ (by show ([x] : List Un)[0]? = _; rw [hxe]; rfl), e, ap_hole]
    rfl
   unfold Cl.putAt
   rw [if_neg (by decide), if_neg (by decide), if_neg (by decide), hh]
   have hs1 : Cl.putS 1 ⟨2, []⟩ (M1 x 0) 0 = (0, (M1 x 0).put 0 ⟨D', some S'⟩) := by
    unfold Cl.putS Cl.putC
    rw [if_neg (by simp)]
    show (((M1 x 0).do 0 ⟨3, 1, 1, []⟩).1, ((M1 x 0).do 0 ⟨3, 1, 1, []⟩).2.2) = _
    rw [hd]
   unfold Cl.spread
   have ha : allC (Cl.putS 1 ⟨2, []⟩) [0] (M1 x 0) = (0, (M1 x 0).put 0 ⟨D', some S'⟩) := by
    unfold allC
    rw [hs1]
    simp [allC]
   rw [ha]
   rw [if_neg (by simp)]
   show ((⟨1, 0⟩ : Q).raise 1 (1 + 1)).1 = 0
   decide
  have hone : (oneS (M1 x 0) 1 ⟨2, []⟩).1 = 0 := by
   unfold oneS
   rw [if_neg (by decide), if_pos (by rw [hput]; decide)]
   exact hput
  have hmk : SL.markS (M1 x 0) (lowL 1 [⟨2, []⟩]) = (0, M1 x 0) := if_pos (hev.minLow (by show (0 : Int) ≤ 0; decide))
  have hc : cellsS (M1 x 0) 1 [⟨2, []⟩] = (0, (oneS (M1 x 0) 1 ⟨2, []⟩).2, 2) := by
   unfold cellsS
   rw [hmk]
   simp only [ne_eq, not_true_eq_false, if_false]
   unfold onesS
   rw [if_neg (by rw [hone]; decide)]
   rfl
  have hev2 := hev.one (by decide) (by omega) 1 ⟨2, []⟩
  have hm2 : SL.markS (oneS (M1 x 0) 1 ⟨2, []⟩).2 (min 0 2) = (0, (oneS (M1 x 0) 1 ⟨2, []⟩).2) := if_pos (hev2.minLow (by decide))
  refine ⟨(oneS (M1 x 0) 1 ⟨2, []⟩).2, ?_⟩
  unfold takeA
  rw [if_neg (by rw [hp 1 (by decide) (by decide)]; decide), if_neg (by decide), if_neg (by decide)]
  simp only
  rw [hn]
  show (if (cellsS (M1 x 0) 1 [⟨2, []⟩]).1 ≠ 0 then _ else _) = _
  rw [show ([hole1].map (·.c)) = [⟨2, []⟩] from rfl, hc]
  simp only [ne_eq, not_true_eq_false, if_false]
  rw [hm2]
set_option maxHeartbeats 16000000 in
theorem alive26_any (w : World) (hp : Pow w) : Calls Tryz.prog 14 #[] w fun e w' => e = .returned (.bool true) ∧ Below w.heap.size w w' := by
 have HP := Lib.hid' hp
 obtain ⟨x1, hx1, hs1, hn1⟩ := new_one (r := 1048576) (by decide)
 have HN1 := Lib.hid' hn1
 obtain ⟨ht1, M', ht2⟩ := take26 (by decide) hx1 hs1
 have HT1 := Lib.hid' ht1
 have HT2 := Lib.hid' ht2
 have HOK := Zh (m1_ok hx1 hs1 ⟨by decide, by decide⟩ : (M1 x1 0).ok)
 clear hx1 hs1 hn1 hp ht1 ht2
 go_enter Tryz.func14, Tryz.ntmps14
 go_wp2_with fail
 obtain ⟨w0, hw0, hb0, hX⟩ := chs_one (w := w)
 rw [hw0]
 have hL : Sep w NoF [] w0 := (Sep.start w).below hb0
 clear hw0 hb0
 have HNW := Zh (New_any 1 1048576 _ _ _ w0 HP.out hL hX (by show ([0] : List Int).length ≤ _; decide))
 clear hX hL
 refine HNW.out.mono ?_
 rintro e w1 hE
 unfold NewR at hE
 rw [show newCl 1 1048576 (([([0], some ⟨w.heap.size, 0, none⟩, 1)] : List Ch).map (·.1)) = (0, M1 x1 0) from HN1.out] at hE
 obtain ⟨c, J, rfl, h1⟩ : ∃ c J, e = .returned (.tuple #[ptrV c, .nilIface]) ∧ ClAt c (M1 x1 0) J [] w w1 := by
  rcases hE with ⟨h0, _⟩ | ⟨_, h⟩
  ·exact absurd rfl h0
  ·exact h
 have H1 := Lib.hid' h1
 clear hE h1 HNW HN1
 go_wp2_with fail
 refine (anew_any 1 1 w1).mono ?_
 rintro e w2 hE
 unfold NewAp at hE
 rw [if_neg (by decide)] at hE
 obtain ⟨rfl, hs2⟩ := hE
 have H2 := Zh (H1.out.newB (A := Asn.appl w1.heap.size ⟨1, 1⟩) hs2.toBelow (hs2.at 0 rfl) (fun b hb => by have : b = w1.heap.size := hb; omega))
 clear hs2 H1
 generalize w1.heap.size = b at *
 go_wp2_with fail
 have h3 := (H2.out.allocB w2.heap.size [.int .i64 2, .slice none 0 0] 36 rfl).swapB
 rw [show ([.int .i64 2, .slice none 0 0] : List Value).toArray = #[.int .i64 2, .slice none 0 0] from rfl] at h3
 have H3 := Lib.hid' h3
 clear h3 H2
 generalize w2.alloc (.cells #[.int .i64 2, .slice none 0 0] 36) = w3 at *
 generalize w2.heap.size = N3 at *
 have HA := Zh (atake_any ⟨1, 1⟩ 1 0 2 [hole1] (some ⟨N3, 0, none⟩) 1 w3 HP.out H3.out HOK.out (by decide) (fun M' w' h' => ces_hole h'.side 0 rfl))
 rw [HT1.out, show pclV 1 0 2 (some ⟨N3, 0, none⟩) [hole1].length 1 = .agg #[.int .i64 1, .int .i64 0, .int .i64 2, .slice (some ⟨N3, 0, none⟩) 1 1] from rfl] at HA
 refine HA.out.mono ?_
 clear HA
 rintro e w4 ⟨rfl, h4⟩
 rw [show rcV (0, M1 x1 0, (⟨1, 1⟩ : Sp)) = .agg #[.int .i64 1, .int .i64 1] from rfl]
 have H4 := Lib.hid' h4
 clear h4 H3
 rw [errV_0]
 go_upto_region 6 with fail
 have h5 := ((H4.out.allocB w4.heap.size [.int .i64 1, .int .i64 1] 49 rfl).swapB).allocB (w4.heap.size + 1) [.int .i64 2, .slice none 0 0] 36 (by simp)
 rw [show ([.int .i64 2, .slice none 0 0] : List Value).toArray = #[.int .i64 2, .slice none 0 0] from rfl, show ([.int .i64 1, .int .i64 1] : List Value).toArray = #[.int .i64 1, .int .i64 1] from rfl] at h5
 have H5 := Lib.hid' h5.swapB
 clear h5 H4
 go_wp2_with fail
 generalize (w4.alloc (.cells #[.int .i64 1, .int .i64 1] 49)).alloc (.cells #[.int .i64 2, .slice none 0 0] 36) = w5 at *
 generalize w4.heap.size = N4 at *
 have HA := Zh (atake_any ⟨1, 1⟩ 1 0 1 [hole1] (some ⟨N4 + 1, 0, none⟩) 1 w5 HP.out H5.out HOK.out (by decide) (fun M' w' h' => ces_hole h'.side 0 rfl))
 rw [HT2.out, show pclV 1 0 1 (some ⟨N4 + 1, 0, none⟩) [hole1].length 1 = .agg #[.int .i64 1, .int .i64 0, .int .i64 1, .slice (some ⟨N4 + 1, 0, none⟩) 1 1] from rfl] at HA
 refine HA.out.mono ?_
 clear HA
 rintro e w6 ⟨rfl, h6⟩
 rw [show rcV (0, M', (⟨1, 2⟩ : Sp)) = .agg #[.int .i64 1, .int .i64 2] from rfl]
 have H6 := Lib.hid' h6
 have q1 := H6.out.side.cell 2 rfl 1 rfl; have ql := H6.out.side.lt 2 rfl
 clear h6 H5
 rw [errV_0]
 go_wp2_with fail
 go_ret
 have HB := H6.out.toBelow
 exact ⟨rfl, HB.trans ((show Below w6.heap.size w6 _ by go_grown).mono HB.size)⟩
end SL
end Go.Proofs.YtcpkeddgkpjioaaGreatDoor
