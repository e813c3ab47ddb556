/- Proved here: a part of the proof (31 of 34). -/
import Derived.Test.YtpckcpmohcianaaGreatDoorS21
import Derived.Test.YtpckcpmohcianaaGreatDoorS2
import Derived.Test.YtpckcpmohcianaaGreatDoorS30
set_option linter.unusedSimpArgs false
set_option linter.unusedVariables false
set_option maxRecDepth 20000
namespace Go.Proofs.YtpckcpmohcianaaGreatDoor
open Go.RowKit
namespace DK
theorem doR_len (l : Fl) (c : Chg) : (doR l c).length ≤ l.length + 1 := by
 have h1 : ∀ (l : Fl) n, (delF l n).length ≤ l.length := delF_len
 unfold doR
 split
 ·rw [insR_len]; have := h1 l c.name; omega
 ·split
  ·omega
  ·split
   ·rw [insR_len]; have := h1 (delF l c.name) c.to; have := h1 l c.name; omega
   ·have := h1 l c.name; omega
theorem allR_len : ∀ (cs : List Chg) (l : Fl), (allR l cs).length ≤ l.length + cs.length
 | [], l => Nat.le_refl _
 | c :: cs, l => by
  have h1 := allR_len cs (doR l c)
  have h2 := doR_len l c
  show (allR (doR l c) cs).length ≤ _
  rw [List.length_cons]; omega
theorem allR_succ (l : Fl) (cs : List Chg) {k : Nat} (h : k < cs.length) : allR l (cs.take (k + 1)) = doR (allR l (cs.take k)) cs[k] := by
 rw [tkS cs h]; unfold allR; rw [List.foldl_append]; rfl
set_option maxHeartbeats 4000000 in
theorem rshown_any (K : Nat → Prop) (R : Rk) (a : Option Addr) (c : Nat) (x : Option Addr) (y : Nat) (w : World) (hK : ∀ b, K b → b < w.heap.size) (h : RdkK K w R a c x y) (hl : R.sure.length + R.ch.length ≤ 4194303) :
  Calls Tryz.prog 172 #[rdkV R a c x y] w (FsR K (shownR R) w) := by
 obtain ⟨room, sure, ch, fuse, down⟩ := R
 simp only at hl ⊢
 have HK := Lib.hid' hK
 have H := Lib.hid' h
 have h1 := (Sep.start w).allocAt w.heap.size [.int .i64 room, .slice a sure.length c, .slice x ch.length y, .int .i64 fuse, .bool down] 123 rfl
 have k1 := h1.cell 0 rfl 1 rfl
 have H1 := Lib.hid' h1
 clear h hK h1
 go_enter Tryz.func172, Tryz.ntmps172
 go_upto_region 2 with fail
 have HA := Zh (H.out.below H1.out.toBelow).1
 generalize w.alloc (.cells #[.int .i64 room, .slice a sure.length c, .slice x ch.length y, .int .i64 fuse, .bool down] 123) = w1 at *
 clear k1
 go_wp2_with fail
 go_loopw [3, 4] (fun v3 v4 wr => ∃ (k : Nat) (S : Fl) (a3 : Option Addr) (c3 : Nat), v3 = .slice a3 S.length c3 ∧ v4 = .int .i64 k ∧ k ≤ ch.length ∧ S.length ≤ sure.length + k ∧ Hid (S = allR sure (ch.take k)) ∧ Hid (FsK K wr a3 c3 S) ∧ Hid (Sep w NoF [.box w.heap.size [.int .i64 room, .slice a sure.length c, .slice x ch.length y, .int .i64 fuse, .bool down] 123] wr)) (fun _ v4 _ => ch.length - (intOf v4).toNat)
 case atStart => exact ⟨0, sure, a, c, rfl, rfl, Nat.zero_le _, Nat.le_refl _, Lib.hid' rfl, HA, H1⟩
 case round =>
  clear HA H1
  obtain ⟨k, S, a3, c3, rfl, rfl, hk, hs, HS, HR, H1⟩ := hrel
  have t2 := H1.out.cell 0 rfl 2 rfl
  by_cases hlt : k < ch.length
  ·obtain ⟨b, off, rfl, hb, d0, d1, d2, d3⟩ := ch_get (SlV.below H.out.2.1 (Nat.le_refl _) H1.out.toBelow) hlt
   have HN := Zh (allR_succ sure ch hlt)
   rw [← HS.out] at HN
   have hkb := H1.out.toBelow.size
   have HAP := Zh (rapply_any K S a3 c3 ch[k] wr (fun b hb => Nat.lt_of_lt_of_le (HK.out b hb) hkb) HR.out (by omega))
   have hdl := doR_len S ch[k]
   generalize ch[k] = z at *
   obtain ⟨zk, zn, zt, zd⟩ := z
   simp only at d0 d1 d2 d3 HAP
   go_wp2_with (go_at_call 238; refine HAP.out.mono ?_; rintro e w2 ⟨a4, c4, rfl, hf, hb2⟩)
   have H2 := Zh (H1.out.below hb2)
   clear H1 HAP
   go_roundw
   case rel => exact ⟨k + 1, _, a4, c4, rfl, by go_num, by omega, by omega, Lib.hid' HN.out.symm, Lib.hid' hf, H2⟩
   case measure => simp [intOf]; omega
  ·have hkn : k = ch.length := by omega
   have HQ := Zh (show shownR ⟨room, sure, ch, fuse, down⟩ = S by rw [HS.out, hkn, List.take_length]; rfl)
   go_wp2_with fail
   go_ret
   rw [HQ.out]
   exact ⟨a3, c3, rfl, HR.out, H1.out.toBelow⟩
theorem sep_apS {P : Program} {t e size bytes : Nat} (T : ElemT P t e size bytes) {w0 w : World} {F : Nat → Prop} {L : List Asn} {ops : Array Oper} {o : Oper} {a : Act} {K : Act → World → Prop} {Q : Exit → Act → World → Prop} {Z : Prop} (s x : Operand) (i : Nat) (H : Sep w0 F L w)
  (m : Nat) (news : List Value) (y : Value) (hsrc : SlV w y m news) (hl : news.length = m * size) (h1 : ∀ u ∈ news, u.oneCell' = true) {v : Value} {n : Nat} {xs : List Value}
  (h : ∀ a' c' w', Sep w0 F (.row e size (.slice a' (n + m) c') (n + m) (xs ++ news) :: L.eraseIdx i) w' → K (a.put o.dst (.slice a' (n + m) c')) w')
  (hgd : o.guard = none := by rfl) (ho : o.op = .call { callee := .builtin .append, args := #[s, x], argTypes := #[t, t] } := by rfl) (hi : L[i]? = some (.row e size v n xs) := by rfl) (hs : a.eval s = v := by rfl) (hx : a.eval x = y := by rfl) (hb : (n + m) * bytes ≤ 140737488355328 := by omega) :
  if Region.wanted o (yielded ops a.tmps) = true then Oper.wp P o a w K Q else Z := Sep.appendSlStep T hgd s x ho H i hi hs m news y hx hsrc hl h1 hb h
theorem chL (ch : List Chg) : (cvs ch).length = ch.length * 4 := by
 induction ch with
 | nil => rfl
 | cons x l ih => rw [show cvs (x :: l) = cV x ++ cvs l from rfl, List.length_append, ih, show (x :: l).length = l.length + 1 from rfl]; show 4 + _ = _; omega
theorem one4 (k : Nat) (n t : Nm) (d : List UInt8) : ∀ u ∈ [Value.int .i64 (k : Int), .string n, .string t, .string (strOf d)], u.oneCell' = true := by
 intro u hu
 simp only [List.mem_cons, List.not_mem_nil, or_false] at hu
 rcases hu with rfl | rfl | rfl | rfl <;> rfl
def RdR1 (K : Nat → Prop) (R : Rk) (w : World) (en : Ending) (w' : World) : Prop := ∃ a c x y, en = .returned (rdkV R a c x y) ∧ RdkK K w' R a c x y ∧ Below w.heap.size w w'
def RdR2 (K : Nat → Prop) (r : Nat × Rk) (w : World) (en : Ending) (w' : World) : Prop := ∃ a c x y, en = .returned (.tuple #[rdkV r.2 a c x y, .int .i64 (r.1 : Nat)]) ∧ RdkK K w' r.2 a c x y ∧ Below w.heap.size w w'
theorem kd {w0 w : World} {F : Nat → Prop} {L : List Asn} (H : Sep w0 F L w) (i : Nat) {N t : Nat} {a b c d e : Value} (hi : L[i]? = some (.box N [a, b, c, d, e] t)) : w.cell? ⟨N, 2, none⟩ = some c ∧ w.frozen? ⟨N, 2, none⟩ = false ∧ N < w.heap.size :=
 ⟨H.cell i hi 2 rfl, H.free i hi 2, H.lt i hi⟩
theorem km {w0 w : World} {F : Nat → Prop} {L : List Asn} (H : Sep w0 F L w) (i : Nat) {N t : Nat} {a b c d : Value} (hi : L[i]? = some (.box N [a, b, c, d] t)) : w.cell? ⟨N, 0, none⟩ = some a ∧ w.cell? ⟨N, 1, none⟩ = some b ∧ w.cell? ⟨N, 2, none⟩ = some c ∧ w.cell? ⟨N, 3, none⟩ = some d ∧ N < w.heap.size :=
 ⟨H.cell i hi 0 rfl, H.cell i hi 1 rfl, H.cell i hi 2 rfl, H.cell i hi 3 rfl, H.lt i hi⟩
theorem slv4 {w0 w : World} {F : Nat → Prop} {L : List Asn} (H : Sep w0 F L w) (i : Nat) {N t : Nat} {cs : List Value} (hc : cs.length = 4) (hi : L[i]? = some (.box N cs t)) : SlV w (.slice (some ⟨N, 0, none⟩) 1 1) 1 cs := by
 refine ⟨_, _, rfl, Nat.le_refl _, by unfold maxLen; decide, (fun h => by cases h), fun j u hj => ⟨_, rfl, ?_⟩⟩
 rw [show Addr.add ⟨N, 0, none⟩ j = ⟨N, j, none⟩ from by unfold Addr.add; split <;> simp_all]
 exact H.cell i hi j hj
set_option maxHeartbeats 16000000 in
theorem radd_any (K : Nat → Prop) (R : Rk) (a : Option Addr) (c : Nat) (x : Option Addr) (y : Nat) (z : Chg) (w : World) (hK : ∀ b, K b → b < w.heap.size) (h : RdkK K w R a c x y) (hl : R.ch.length ≤ 4194303) :
  Calls Tryz.prog 176 #[rdkV R a c x y, .agg #[.int .i64 (z.kind : Nat), .string z.name, .string z.to, .string (strOf z.d)]] w (RdR1 K (addR R z) w) := by
 obtain ⟨room, sure, ch, fuse, down⟩ := R
 have HCV := Zh (show cvs (ch ++ [z]) = cvs ch ++ [.int .i64 (z.kind : Nat), .string z.name, .string z.to, .string (strOf z.d)] by rw [cvs_app]; rfl)
 have HAD := Zh (show addR ⟨room, sure, ch, fuse, down⟩ z = ⟨room, sure, ch ++ [z], fuse, down⟩ from rfl)
 have HLZ := Zh (show (ch ++ [z]).length = ch.length + 1 by simp)
 generalize ch ++ [z] = cz at *
 obtain ⟨zk, zn, zt, zd⟩ := z
 simp only at hl ⊢
 have HK := Lib.hid' hK
 have H := Zh (show FsK K w a c sure from h.1)
 have HX := Zh (show SlV w (.slice x ch.length y) ch.length (cvs ch) from h.2.1)
 have h1 := (((Sep.start w).allocAt w.heap.size [.int .i64 room, .slice a sure.length c, .slice x ch.length y, .int .i64 fuse, .bool down] 123 rfl).allocAt (w.heap.size + 1) [.int .i64 (zk : Nat), .string zn, .string zt, .string (strOf zd)] 277 (by simp)).allocAt (w.heap.size + 1 + 1) [.int .i64 0, .slice none 0 0, .slice none 0 0, .int .i64 0, .bool false] 123 (by simp)
 have H1 := Lib.hid' h1
 clear h hK h1
 go_enter Tryz.func176, Tryz.ntmps176
 go_upto_region 1 with fail
 generalize ((w.alloc (.cells #[.int .i64 room, .slice a sure.length c, .slice x ch.length y, .int .i64 fuse, .bool down] 123)).alloc (.cells #[.int .i64 (zk : Nat), .string zn, .string zt, .string (strOf zd)] 277)).alloc (.cells #[.int .i64 0, .slice none 0 0, .slice none 0 0, .int .i64 0, .bool false] 123) = w3 at *
 go_cut [] (fun wc => Hid (∃ a9 c9, Sep w NoF [.row 277 4 (.slice a9 (ch.length + 1) c9) (ch.length + 1) (cvs ch ++ [.int .i64 (zk : Nat), .string zn, .string zt, .string (strOf zd)]), .box w.heap.size [.int .i64 room, .slice a sure.length c, .slice a9 (ch.length + 1) c9, .int .i64 fuse, .bool down] 123, .box (w.heap.size + 1 + 1) [.int .i64 0, .slice none 0 0, .slice none 0 0, .int .i64 0, .bool false] 123] wc))
 case first =>
  have K0 := H1.out.drew
  obtain ⟨kd0, kf0, kl0⟩ := kd K0 2 rfl
  refine startD (S := (fun w' => w'.cell? ⟨(w.heap.size + 1), 0, none⟩ = some (.int .i64 (zk : Nat)) ∧ w'.cell? ⟨(w.heap.size + 1), 1, none⟩ = some (.string zn) ∧ w'.cell? ⟨(w.heap.size + 1), 2, none⟩ = some (.string zt) ∧ w'.cell? ⟨(w.heap.size + 1), 3, none⟩ = some (.string (strOf zd)) ∧ (w.heap.size + 1) < w'.heap.size)) (by kernel_rfl) (km K0 1 rfl) (fun hH0 => ?_)
  simp only [List.length_cons, List.length_nil, Nat.reduceAdd, List.replicate_succ, List.replicate_zero]
  generalize w3.drew = wd at *
  refine tD 1 6 (.pointer (some ⟨w.heap.size, 2, none⟩)) rfl rfl [(2, .pointer (some ⟨w.heap.size, 0, none⟩))] hH0 ?_
  dsimp only [sZ, sS]
  refine tD 4 9 (.agg #[.int .i64 (zk : Nat), .string zn, .string zt, .string (strOf zd)]) rfl rfl [(3, .pointer (some ⟨(w.heap.size + 1), 0, none⟩))] hH0 ?_
  dsimp only [sZ, sS]
  refine wpAnyH_ready (rs := [0, 2, 5]) (by kernel_rfl) (by simp) (AllReadyH.cons (o := _) rfl (fun K hK => ?_) (AllReadyH.cons (o := _) rfl (fun K hK => ?_) (AllReadyH.cons (o := _) rfl (fun K hK => ?_) AllReadyH.nil)))
  ·skip
   go_simp
   have K1 := K0.newRowAt (wd.heap.size) 277 4 (by simp)
   obtain ⟨kd1, kf1, kl1⟩ := kd K1 3 rfl
   refine hK.out _ _ ?_ (fun hH1 => ?_)
   ·exact km K1 2 rfl
   clear hK K
   try simp only [Act.put, gA, gZ, gS, sA, sZ, sS]
   refine wpAnyH_ready (rs := [2, 5]) (by kernel_rfl) (by simp) (AllReadyH.cons (o := _) rfl (fun K hK => ?_) (AllReadyH.cons (o := _) rfl (fun K hK => ?_) AllReadyH.nil))
   ·skip
    go_simp
    refine hK.out _ _ ?_ (fun hH2 => ?_)
    ·exact km K1 2 rfl
    clear hK K
    try simp only [Act.put, gA, gZ, gS, sA, sZ, sS]
    refine wpAnyH_ready (rs := [3, 5]) (by kernel_rfl) (by simp) (AllReadyH.cons (o := _) rfl (fun K hK => ?_) (AllReadyH.cons (o := _) rfl (fun K hK => ?_) AllReadyH.nil))
    ·skip
     refine sep_apS etCh (.tmp 5) (.tmp 7) 0 K1 ch.length (cvs ch) (.slice x ch.length y) (SlV.below HX.out (Nat.le_refl _) K1.toBelow) (chL ch) (cvs_one ch) ?_
     intro a8 c8 w8 K2
     rw [Nat.zero_add, List.nil_append] at K2
     rw [Nat.zero_add]
     obtain ⟨kd2, kf2, kl2⟩ := kd K2 3 rfl
     refine hK.out _ _ ?_ (fun hH3 => ?_)
     ·exact km K2 2 rfl
     clear hK K
     simp only [Act.put, gA, gZ, gS, sA, sZ, sS]
     refine rD 5 rfl (fun K hK => ?_)
     go_simp
     have K3 := K2.allocAt (w8.heap.size) [.int .i64 (zk : Nat), .string zn, .string zt, .string (strOf zd)] 277 (by simp)
     obtain ⟨kd3, kf3, kl3⟩ := kd K3 4 rfl
     refine hK.out _ _ ?_ (fun hH4 => ?_)
     ·exact km K3 3 rfl
     clear hK K
     try simp only [Act.put, gA, gZ, gS, sA, sZ, sS]
     refine rD 6 rfl (fun K hK => ?_)
     refine sep_apS etCh (.tmp 8) (.tmp 10) 1 K3 1 [.int .i64 (zk : Nat), .string zn, .string zt, .string (strOf zd)] _ (slv4 K3 0 rfl rfl) rfl (one4 zk zn zt zd) ?_
     intro a9 c9 w9 K4
     obtain ⟨kd4, kf4, kl4⟩ := kd K4 4 rfl
     refine hK.out _ _ ?_ (fun hH5 => ?_)
     ·exact km K4 3 rfl
     clear hK K
     simp only [Act.put, gA, gZ, gS, sA, sZ, sS]
     refine tD 7 12 (.pointer (some ⟨w.heap.size, 2, none⟩)) rfl rfl [(2, .pointer (some ⟨w.heap.size, 0, none⟩))] hH5 ?_
     dsimp only [sZ, sS]
     refine rD 8 rfl (fun K hK => ?_)
     go_simp
     have K5 := K4.set 4 rfl 2 (.slice a9 (ch.length + 1) c9)
     refine hK.out _ _ ?_ (fun hH6 => ?_)
     ·exact km K5 4 rfl
     clear hK K
     refine wpAnyH_done (by kernel_rfl) ?_ _
     go_wp2_with fail
     go_meet
     exact Lib.hid' ⟨a9, c9, ((K5.drop 2).drop 3).rearr [2, 1, 2] rfl⟩
    ·skip
     go_simp
     have K2 := K1.allocAt (wd.heap.size + 1) [.int .i64 (zk : Nat), .string zn, .string zt, .string (strOf zd)] 277 (by simp)
     obtain ⟨kd2, kf2, kl2⟩ := kd K2 4 rfl
     refine hK.out _ _ ?_ (fun hH3 => ?_)
     ·exact km K2 3 rfl
     clear hK K
     try simp only [Act.put, gA, gZ, gS, sA, sZ, sS]
     refine rD 3 rfl (fun K hK => ?_)
     refine sep_apS etCh (.tmp 5) (.tmp 7) 1 K2 ch.length (cvs ch) (.slice x ch.length y) (SlV.below HX.out (Nat.le_refl _) K2.toBelow) (chL ch) (cvs_one ch) ?_
     intro a8 c8 w8 K3
     rw [Nat.zero_add, List.nil_append] at K3
     rw [Nat.zero_add]
     obtain ⟨kd3, kf3, kl3⟩ := kd K3 4 rfl
     refine hK.out _ _ ?_ (fun hH4 => ?_)
     ·exact km K3 3 rfl
     clear hK K
     simp only [Act.put, gA, gZ, gS, sA, sZ, sS]
     refine rD 6 rfl (fun K hK => ?_)
     refine sep_apS etCh (.tmp 8) (.tmp 10) 0 K3 1 [.int .i64 (zk : Nat), .string zn, .string zt, .string (strOf zd)] _ (slv4 K3 1 rfl rfl) rfl (one4 zk zn zt zd) ?_
     intro a9 c9 w9 K4
     obtain ⟨kd4, kf4, kl4⟩ := kd K4 4 rfl
     refine hK.out _ _ ?_ (fun hH5 => ?_)
     ·exact km K4 3 rfl
     clear hK K
     simp only [Act.put, gA, gZ, gS, sA, sZ, sS]
     refine tD 7 12 (.pointer (some ⟨w.heap.size, 2, none⟩)) rfl rfl [(2, .pointer (some ⟨w.heap.size, 0, none⟩))] hH5 ?_
     dsimp only [sZ, sS]
     refine rD 8 rfl (fun K hK => ?_)
     go_simp
     have K5 := K4.set 4 rfl 2 (.slice a9 (ch.length + 1) c9)
     refine hK.out _ _ ?_ (fun hH6 => ?_)
     ·exact km K5 4 rfl
     clear hK K
     refine wpAnyH_done (by kernel_rfl) ?_ _
     go_wp2_with fail
     go_meet
     exact Lib.hid' ⟨a9, c9, ((K5.drop 2).drop 3).rearr [2, 1, 2] rfl⟩
   ·skip
    go_simp
    have K2 := K1.allocAt (wd.heap.size + 1) [.int .i64 (zk : Nat), .string zn, .string zt, .string (strOf zd)] 277 (by simp)
    obtain ⟨kd2, kf2, kl2⟩ := kd K2 4 rfl
    refine hK.out _ _ ?_ (fun hH2 => ?_)
    ·exact km K2 3 rfl
    clear hK K
    try simp only [Act.put, gA, gZ, gS, sA, sZ, sS]
    refine rD 2 rfl (fun K hK => ?_)
    go_simp
    refine hK.out _ _ ?_ (fun hH3 => ?_)
    ·exact km K2 3 rfl
    clear hK K
    try simp only [Act.put, gA, gZ, gS, sA, sZ, sS]
    refine rD 3 rfl (fun K hK => ?_)
    refine sep_apS etCh (.tmp 5) (.tmp 7) 1 K2 ch.length (cvs ch) (.slice x ch.length y) (SlV.below HX.out (Nat.le_refl _) K2.toBelow) (chL ch) (cvs_one ch) ?_
    intro a8 c8 w8 K3
    rw [Nat.zero_add, List.nil_append] at K3
    rw [Nat.zero_add]
    obtain ⟨kd3, kf3, kl3⟩ := kd K3 4 rfl
    refine hK.out _ _ ?_ (fun hH4 => ?_)
    ·exact km K3 3 rfl
    clear hK K
    simp only [Act.put, gA, gZ, gS, sA, sZ, sS]
    refine rD 6 rfl (fun K hK => ?_)
    refine sep_apS etCh (.tmp 8) (.tmp 10) 0 K3 1 [.int .i64 (zk : Nat), .string zn, .string zt, .string (strOf zd)] _ (slv4 K3 1 rfl rfl) rfl (one4 zk zn zt zd) ?_
    intro a9 c9 w9 K4
    obtain ⟨kd4, kf4, kl4⟩ := kd K4 4 rfl
    refine hK.out _ _ ?_ (fun hH5 => ?_)
    ·exact km K4 3 rfl
    clear hK K
    simp only [Act.put, gA, gZ, gS, sA, sZ, sS]
    refine tD 7 12 (.pointer (some ⟨w.heap.size, 2, none⟩)) rfl rfl [(2, .pointer (some ⟨w.heap.size, 0, none⟩))] hH5 ?_
    dsimp only [sZ, sS]
    refine rD 8 rfl (fun K hK => ?_)
    go_simp
    have K5 := K4.set 4 rfl 2 (.slice a9 (ch.length + 1) c9)
    refine hK.out _ _ ?_ (fun hH6 => ?_)
    ·exact km K5 4 rfl
    clear hK K
    refine wpAnyH_done (by kernel_rfl) ?_ _
    go_wp2_with fail
    go_meet
    exact Lib.hid' ⟨a9, c9, ((K5.drop 2).drop 3).rearr [2, 1, 2] rfl⟩
  ·skip
   go_simp
   refine hK.out _ _ ?_ (fun hH1 => ?_)
   ·exact km K0 1 rfl
   clear hK K
   try simp only [Act.put, gA, gZ, gS, sA, sZ, sS]
   refine wpAnyH_ready (rs := [0, 5]) (by kernel_rfl) (by simp) (AllReadyH.cons (o := _) rfl (fun K hK => ?_) (AllReadyH.cons (o := _) rfl (fun K hK => ?_) AllReadyH.nil))
   ·skip
    go_simp
    have K1 := K0.newRowAt (wd.heap.size) 277 4 (by simp)
    obtain ⟨kd1, kf1, kl1⟩ := kd K1 3 rfl
    refine hK.out _ _ ?_ (fun hH2 => ?_)
    ·exact km K1 2 rfl
    clear hK K
    try simp only [Act.put, gA, gZ, gS, sA, sZ, sS]
    refine wpAnyH_ready (rs := [3, 5]) (by kernel_rfl) (by simp) (AllReadyH.cons (o := _) rfl (fun K hK => ?_) (AllReadyH.cons (o := _) rfl (fun K hK => ?_) AllReadyH.nil))
    ·skip
     refine sep_apS etCh (.tmp 5) (.tmp 7) 0 K1 ch.length (cvs ch) (.slice x ch.length y) (SlV.below HX.out (Nat.le_refl _) K1.toBelow) (chL ch) (cvs_one ch) ?_
     intro a8 c8 w8 K2
     rw [Nat.zero_add, List.nil_append] at K2
     rw [Nat.zero_add]
     obtain ⟨kd2, kf2, kl2⟩ := kd K2 3 rfl
     refine hK.out _ _ ?_ (fun hH3 => ?_)
     ·exact km K2 2 rfl
     clear hK K
     simp only [Act.put, gA, gZ, gS, sA, sZ, sS]
     refine rD 5 rfl (fun K hK => ?_)
     go_simp
     have K3 := K2.allocAt (w8.heap.size) [.int .i64 (zk : Nat), .string zn, .string zt, .string (strOf zd)] 277 (by simp)
     obtain ⟨kd3, kf3, kl3⟩ := kd K3 4 rfl
     refine hK.out _ _ ?_ (fun hH4 => ?_)
     ·exact km K3 3 rfl
     clear hK K
     try simp only [Act.put, gA, gZ, gS, sA, sZ, sS]
     refine rD 6 rfl (fun K hK => ?_)
     refine sep_apS etCh (.tmp 8) (.tmp 10) 1 K3 1 [.int .i64 (zk : Nat), .string zn, .string zt, .string (strOf zd)] _ (slv4 K3 0 rfl rfl) rfl (one4 zk zn zt zd) ?_
     intro a9 c9 w9 K4
     obtain ⟨kd4, kf4, kl4⟩ := kd K4 4 rfl
     refine hK.out _ _ ?_ (fun hH5 => ?_)
     ·exact km K4 3 rfl
     clear hK K
     simp only [Act.put, gA, gZ, gS, sA, sZ, sS]
     refine tD 7 12 (.pointer (some ⟨w.heap.size, 2, none⟩)) rfl rfl [(2, .pointer (some ⟨w.heap.size, 0, none⟩))] hH5 ?_
     dsimp only [sZ, sS]
     refine rD 8 rfl (fun K hK => ?_)
     go_simp
     have K5 := K4.set 4 rfl 2 (.slice a9 (ch.length + 1) c9)
     refine hK.out _ _ ?_ (fun hH6 => ?_)
     ·exact km K5 4 rfl
     clear hK K
     refine wpAnyH_done (by kernel_rfl) ?_ _
     go_wp2_with fail
     go_meet
     exact Lib.hid' ⟨a9, c9, ((K5.drop 2).drop 3).rearr [2, 1, 2] rfl⟩
    ·skip
     go_simp
     have K2 := K1.allocAt (wd.heap.size + 1) [.int .i64 (zk : Nat), .string zn, .string zt, .string (strOf zd)] 277 (by simp)
     obtain ⟨kd2, kf2, kl2⟩ := kd K2 4 rfl
     refine hK.out _ _ ?_ (fun hH3 => ?_)
     ·exact km K2 3 rfl
     clear hK K
     try simp only [Act.put, gA, gZ, gS, sA, sZ, sS]
     refine rD 3 rfl (fun K hK => ?_)
     refine sep_apS etCh (.tmp 5) (.tmp 7) 1 K2 ch.length (cvs ch) (.slice x ch.length y) (SlV.below HX.out (Nat.le_refl _) K2.toBelow) (chL ch) (cvs_one ch) ?_
     intro a8 c8 w8 K3
     rw [Nat.zero_add, List.nil_append] at K3
     rw [Nat.zero_add]
     obtain ⟨kd3, kf3, kl3⟩ := kd K3 4 rfl
     refine hK.out _ _ ?_ (fun hH4 => ?_)
     ·exact km K3 3 rfl
     clear hK K
     simp only [Act.put, gA, gZ, gS, sA, sZ, sS]
     refine rD 6 rfl (fun K hK => ?_)
     refine sep_apS etCh (.tmp 8) (.tmp 10) 0 K3 1 [.int .i64 (zk : Nat), .string zn, .string zt, .string (strOf zd)] _ (slv4 K3 1 rfl rfl) rfl (one4 zk zn zt zd) ?_
     intro a9 c9 w9 K4
     obtain ⟨kd4, kf4, kl4⟩ := kd K4 4 rfl
     refine hK.out _ _ ?_ (fun hH5 => ?_)
     ·exact km K4 3 rfl
     clear hK K
     simp only [Act.put, gA, gZ, gS, sA, sZ, sS]
     refine tD 7 12 (.pointer (some ⟨w.heap.size, 2, none⟩)) rfl rfl [(2, .pointer (some ⟨w.heap.size, 0, none⟩))] hH5 ?_
     dsimp only [sZ, sS]
     refine rD 8 rfl (fun K hK => ?_)
     go_simp
     have K5 := K4.set 4 rfl 2 (.slice a9 (ch.length + 1) c9)
     refine hK.out _ _ ?_ (fun hH6 => ?_)
     ·exact km K5 4 rfl
     clear hK K
     refine wpAnyH_done (by kernel_rfl) ?_ _
     go_wp2_with fail
     go_meet
     exact Lib.hid' ⟨a9, c9, ((K5.drop 2).drop 3).rearr [2, 1, 2] rfl⟩
   ·skip
    go_simp
    have K1 := K0.allocAt (wd.heap.size) [.int .i64 (zk : Nat), .string zn, .string zt, .string (strOf zd)] 277 (by simp)
    obtain ⟨kd1, kf1, kl1⟩ := kd K1 3 rfl
    refine hK.out _ _ ?_ (fun hH2 => ?_)
    ·exact km K1 2 rfl
    clear hK K
    try simp only [Act.put, gA, gZ, gS, sA, sZ, sS]
    refine rD 0 rfl (fun K hK => ?_)
    go_simp
    have K2 := K1.newRowAt (wd.heap.size + 1) 277 4 (by simp)
    obtain ⟨kd2, kf2, kl2⟩ := kd K2 4 rfl
    refine hK.out _ _ ?_ (fun hH3 => ?_)
    ·exact km K2 3 rfl
    clear hK K
    try simp only [Act.put, gA, gZ, gS, sA, sZ, sS]
    refine rD 3 rfl (fun K hK => ?_)
    refine sep_apS etCh (.tmp 5) (.tmp 7) 0 K2 ch.length (cvs ch) (.slice x ch.length y) (SlV.below HX.out (Nat.le_refl _) K2.toBelow) (chL ch) (cvs_one ch) ?_
    intro a8 c8 w8 K3
    rw [Nat.zero_add, List.nil_append] at K3
    rw [Nat.zero_add]
    obtain ⟨kd3, kf3, kl3⟩ := kd K3 4 rfl
    refine hK.out _ _ ?_ (fun hH4 => ?_)
    ·exact km K3 3 rfl
    clear hK K
    simp only [Act.put, gA, gZ, gS, sA, sZ, sS]
    refine rD 6 rfl (fun K hK => ?_)
    refine sep_apS etCh (.tmp 8) (.tmp 10) 0 K3 1 [.int .i64 (zk : Nat), .string zn, .string zt, .string (strOf zd)] _ (slv4 K3 1 rfl rfl) rfl (one4 zk zn zt zd) ?_
    intro a9 c9 w9 K4
    obtain ⟨kd4, kf4, kl4⟩ := kd K4 4 rfl
    refine hK.out _ _ ?_ (fun hH5 => ?_)
    ·exact km K4 3 rfl
    clear hK K
    simp only [Act.put, gA, gZ, gS, sA, sZ, sS]
    refine tD 7 12 (.pointer (some ⟨w.heap.size, 2, none⟩)) rfl rfl [(2, .pointer (some ⟨w.heap.size, 0, none⟩))] hH5 ?_
    dsimp only [sZ, sS]
    refine rD 8 rfl (fun K hK => ?_)
    go_simp
    have K5 := K4.set 4 rfl 2 (.slice a9 (ch.length + 1) c9)
    refine hK.out _ _ ?_ (fun hH6 => ?_)
    ·exact km K5 4 rfl
    clear hK K
    refine wpAnyH_done (by kernel_rfl) ?_ _
    go_wp2_with fail
    go_meet
    exact Lib.hid' ⟨a9, c9, ((K5.drop 2).drop 3).rearr [2, 1, 2] rfl⟩
  ·skip
   go_simp
   have K1 := K0.allocAt (wd.heap.size) [.int .i64 (zk : Nat), .string zn, .string zt, .string (strOf zd)] 277 (by simp)
   obtain ⟨kd1, kf1, kl1⟩ := kd K1 3 rfl
   refine hK.out _ _ ?_ (fun hH1 => ?_)
   ·exact km K1 2 rfl
   clear hK K
   try simp only [Act.put, gA, gZ, gS, sA, sZ, sS]
   refine wpAnyH_ready (rs := [0, 2]) (by kernel_rfl) (by simp) (AllReadyH.cons (o := _) rfl (fun K hK => ?_) (AllReadyH.cons (o := _) rfl (fun K hK => ?_) AllReadyH.nil))
   ·skip
    go_simp
    have K2 := K1.newRowAt (wd.heap.size + 1) 277 4 (by simp)
    obtain ⟨kd2, kf2, kl2⟩ := kd K2 4 rfl
    refine hK.out _ _ ?_ (fun hH2 => ?_)
    ·exact km K2 3 rfl
    clear hK K
    try simp only [Act.put, gA, gZ, gS, sA, sZ, sS]
    refine rD 2 rfl (fun K hK => ?_)
    go_simp
    refine hK.out _ _ ?_ (fun hH3 => ?_)
    ·exact km K2 3 rfl
    clear hK K
    try simp only [Act.put, gA, gZ, gS, sA, sZ, sS]
    refine rD 3 rfl (fun K hK => ?_)
    refine sep_apS etCh (.tmp 5) (.tmp 7) 0 K2 ch.length (cvs ch) (.slice x ch.length y) (SlV.below HX.out (Nat.le_refl _) K2.toBelow) (chL ch) (cvs_one ch) ?_
    intro a8 c8 w8 K3
    rw [Nat.zero_add, List.nil_append] at K3
    rw [Nat.zero_add]
    obtain ⟨kd3, kf3, kl3⟩ := kd K3 4 rfl
    refine hK.out _ _ ?_ (fun hH4 => ?_)
    ·exact km K3 3 rfl
    clear hK K
    simp only [Act.put, gA, gZ, gS, sA, sZ, sS]
    refine rD 6 rfl (fun K hK => ?_)
    refine sep_apS etCh (.tmp 8) (.tmp 10) 0 K3 1 [.int .i64 (zk : Nat), .string zn, .string zt, .string (strOf zd)] _ (slv4 K3 1 rfl rfl) rfl (one4 zk zn zt zd) ?_
    intro a9 c9 w9 K4
    obtain ⟨kd4, kf4, kl4⟩ := kd K4 4 rfl
    refine hK.out _ _ ?_ (fun hH5 => ?_)
    ·exact km K4 3 rfl
    clear hK K
    simp only [Act.put, gA, gZ, gS, sA, sZ, sS]
    refine tD 7 12 (.pointer (some ⟨w.heap.size, 2, none⟩)) rfl rfl [(2, .pointer (some ⟨w.heap.size, 0, none⟩))] hH5 ?_
    dsimp only [sZ, sS]
    refine rD 8 rfl (fun K hK => ?_)
    go_simp
    have K5 := K4.set 4 rfl 2 (.slice a9 (ch.length + 1) c9)
    refine hK.out _ _ ?_ (fun hH6 => ?_)
    ·exact km K5 4 rfl
    clear hK K
    refine wpAnyH_done (by kernel_rfl) ?_ _
    go_wp2_with fail
    go_meet
    exact Lib.hid' ⟨a9, c9, ((K5.drop 2).drop 3).rearr [2, 1, 2] rfl⟩
   ·skip
    go_simp
    refine hK.out _ _ ?_ (fun hH2 => ?_)
    ·exact km K1 2 rfl
    clear hK K
    try simp only [Act.put, gA, gZ, gS, sA, sZ, sS]
    refine rD 0 rfl (fun K hK => ?_)
    go_simp
    have K2 := K1.newRowAt (wd.heap.size + 1) 277 4 (by simp)
    obtain ⟨kd2, kf2, kl2⟩ := kd K2 4 rfl
    refine hK.out _ _ ?_ (fun hH3 => ?_)
    ·exact km K2 3 rfl
    clear hK K
    try simp only [Act.put, gA, gZ, gS, sA, sZ, sS]
    refine rD 3 rfl (fun K hK => ?_)
    refine sep_apS etCh (.tmp 5) (.tmp 7) 0 K2 ch.length (cvs ch) (.slice x ch.length y) (SlV.below HX.out (Nat.le_refl _) K2.toBelow) (chL ch) (cvs_one ch) ?_
    intro a8 c8 w8 K3
    rw [Nat.zero_add, List.nil_append] at K3
    rw [Nat.zero_add]
    obtain ⟨kd3, kf3, kl3⟩ := kd K3 4 rfl
    refine hK.out _ _ ?_ (fun hH4 => ?_)
    ·exact km K3 3 rfl
    clear hK K
    simp only [Act.put, gA, gZ, gS, sA, sZ, sS]
    refine rD 6 rfl (fun K hK => ?_)
    refine sep_apS etCh (.tmp 8) (.tmp 10) 0 K3 1 [.int .i64 (zk : Nat), .string zn, .string zt, .string (strOf zd)] _ (slv4 K3 1 rfl rfl) rfl (one4 zk zn zt zd) ?_
    intro a9 c9 w9 K4
    obtain ⟨kd4, kf4, kl4⟩ := kd K4 4 rfl
    refine hK.out _ _ ?_ (fun hH5 => ?_)
    ·exact km K4 3 rfl
    clear hK K
    simp only [Act.put, gA, gZ, gS, sA, sZ, sS]
    refine tD 7 12 (.pointer (some ⟨w.heap.size, 2, none⟩)) rfl rfl [(2, .pointer (some ⟨w.heap.size, 0, none⟩))] hH5 ?_
    dsimp only [sZ, sS]
    refine rD 8 rfl (fun K hK => ?_)
    go_simp
    have K5 := K4.set 4 rfl 2 (.slice a9 (ch.length + 1) c9)
    refine hK.out _ _ ?_ (fun hH6 => ?_)
    ·exact km K5 4 rfl
    clear hK K
    refine wpAnyH_done (by kernel_rfl) ?_ _
    go_wp2_with fail
    go_meet
    exact Lib.hid' ⟨a9, c9, ((K5.drop 2).drop 3).rearr [2, 1, 2] rfl⟩
 case rest =>
  clear H1
  obtain ⟨a9, c9, h9⟩ := hcut.out
  have HS := Zh (((((h9.set 2 rfl 0 (.int .i64 room)).set 0 rfl 1 (.slice a sure.length c)).set 0 rfl 2 (.slice a9 (ch.length + 1) c9)).set 0 rfl 3 (.int .i64 fuse)).set 0 rfl 4 (.bool down))
  have d0 := h9.cell 1 rfl 0 rfl; have d1 := h9.cell 1 rfl 1 rfl; have d2 := h9.cell 1 rfl 2 rfl; have d3 := h9.cell 1 rfl 3 rfl; have d4 := h9.cell 1 rfl 4 rfl
  have f0 := h9.free 2 rfl 0; have f1 := h9.free 2 rfl 1; have f2 := h9.free 2 rfl 2; have f3 := h9.free 2 rfl 3; have f4 := h9.free 2 rfl 4
  have e0 := h9.cell 2 rfl 0 rfl; have e1 := h9.cell 2 rfl 1 rfl; have e2 := h9.cell 2 rfl 2 rfl; have e3 := h9.cell 2 rfl 3 rfl; have e4 := h9.cell 2 rfl 4 rfl
  have l0 := h9.lt 1 rfl; have l2 := h9.lt 2 rfl
  clear h9 hcut
  go_wp2
  refine bodyPost_ret (v := .agg #[.int .i64 room, .slice a sure.length c, .slice a9 (ch.length + 1) c9, .int .i64 fuse, .bool down]) (by simp [results, Tryz.results176, go_sem, e0, e1, e2, e3, e4, f0, f1, f2, f3, f4, l2]) rfl ?_
  rw [HAD.out]
  refine ⟨a, c, a9, c9, by show _ = Ending.returned (.agg #[_, _, .slice a9 cz.length c9, _, _]); rw [HLZ.out], ⟨H.out.below HS.out.toBelow, ?_⟩, HS.out.toBelow⟩
  show RowK K _ (.slice a9 cz.length c9) cz.length (cvs cz)
  rw [HLZ.out, HCV.out]
  exact RowK.ofOwn (HS.out.own 1 rfl) HK.out
end DK
end Go.Proofs.YtpckcpmohcianaaGreatDoor

namespace Go.Proofs.YtpckcpmohcianaaGreatDoor
open Go.RowKit
theorem sep_set5 {w0 w : World} {F : Nat → Prop} {L : List Asn} (H : Sep w0 F L w) (i : Nat) {N t : Nat} {a b c d e : Value} (hi : L[i]? = some (.box N [a, b, c, d, e] t)) (a' b' c' d' e' : Value) :
  Sep w0 F (.box N [a', b', c', d', e'] t :: L.eraseIdx i) (((((w.setCell ⟨N, 0, none⟩ a').setCell ⟨N, 1, none⟩ b').setCell ⟨N, 2, none⟩ c').setCell ⟨N, 3, none⟩ d').setCell ⟨N, 4, none⟩ e') :=
 ((((H.set i hi 0 a').set 0 rfl 1 b').set 0 rfl 2 c').set 0 rfl 3 d').set 0 rfl 4 e'
namespace DK
theorem fr_set5 (w : World) (N : Nat) (a b c d e : Value) : Fr (fun k => k = N) w (((((w.setCell ⟨N, 0, none⟩ a).setCell ⟨N, 1, none⟩ b).setCell ⟨N, 2, none⟩ c).setCell ⟨N, 3, none⟩ d).setCell ⟨N, 4, none⟩ e) :=
 ((((fr_set w N 0 a).trans (fr_set _ N 1 b) (fun _ h => .inl h)).trans (fr_set _ N 2 c) (fun _ h => .inl h)).trans (fr_set _ N 3 d) (fun _ h => .inl h)).trans (fr_set _ N 4 e) (fun _ h => .inl h)
def KO (K : Nat → Prop) (N : Nat) : Nat → Prop := fun b => K b ∨ b = N ∨ b = N + 1
theorem KO.more {K : Nat → Prop} {w : World} {R : Rk} {a : Option Addr} {c : Nat} {x : Option Addr} {y : Nat} (h : RdkK K w R a c x y) : RdkK (KO K w.heap.size) w R a c x y :=
 h.more (fun b hb => by rcases hb with h | h | h <;> first | exact .inl h | exact .inr (by omega))
theorem KO.lt {K : Nat → Prop} {w wq : World} (hK : ∀ b, K b → b < w.heap.size) (h : w.heap.size + 1 < wq.heap.size) (b : Nat) (hb : KO K w.heap.size b) : b < wq.heap.size := by
 rcases hb with h1 | h1 | h1
 ·have := hK b h1; omega
 ·omega
 ·omega
theorem KO.less {K : Nat → Prop} {N : Nat} {w : World} {R : Rk} {a : Option Addr} {c : Nat} {x : Option Addr} {y : Nat} (h : RdkK (KO K N) w R a c x y) : RdkK K w R a c x y := h.more (fun b hb => .inl (.inl hb))
theorem KO.set1 {K : Nat → Prop} {N : Nat} {w : World} {R : Rk} {a : Option Addr} {c : Nat} {x : Option Addr} {y : Nat} (h : RdkK (KO K N) w R a c x y) (v0 v1 v2 v3 v4 : Value) : RdkK K (((((w.setCell ⟨N + 1, 0, none⟩ v0).setCell ⟨N + 1, 1, none⟩ v1).setCell ⟨N + 1, 2, none⟩ v2).setCell ⟨N + 1, 3, none⟩ v3).setCell ⟨N + 1, 4, none⟩ v4) R a c x y :=
 KO.less (h.fr (fr_set5 w (N + 1) v0 v1 v2 v3 v4) (fun b hb => .inr (.inr hb)))
theorem works_keep {K : Nat → Prop} {w : World} {R : Rk} {a : Option Addr} {c : Nat} {x : Option Addr} {y : Nat} (h : RdkK K w R a c x y) : RdkK K w (worksR R).2 a c x y := by
 unfold worksR; split <;> exact h
theorem works_same (R : Rk) : (worksR R).2.sure = R.sure ∧ (worksR R).2.ch = R.ch ∧ (worksR R).2.room = R.room := by
 unfold worksR; split <;> exact ⟨rfl, rfl, rfl⟩
theorem sign_fin : ∀ i : Fin 256, sign (UInt8.ofNat i.val) = decide (i.val = 45 ∨ i.val = 46 ∨ (48 ≤ i.val ∧ i.val ≤ 57) ∨ (97 ≤ i.val ∧ i.val ≤ 122) ∨ i.val = 126) := by decide +kernel
theorem sign_nat (b : UInt8) : sign b = decide (b.toNat = 45 ∨ b.toNat = 46 ∨ (48 ≤ b.toNat ∧ b.toNat ≤ 57) ∨ (97 ≤ b.toNat ∧ b.toNat ≤ 122) ∨ b.toNat = 126) := by
 have h := sign_fin ⟨b.toNat, b.toNat_lt⟩
 simpa using h
set_option maxHeartbeats 4000000 in
theorem rnamed_any (n : Nm) (w : World) (hn : n.size ≤ 9223372036854775807) : Calls Tryz.prog 174 #[.string n] w fun e w' => e = .returned (.bool (named n)) ∧ w = w' := by
 go_enter Tryz.func174, Tryz.ntmps174
 go_wp2_with fail
 go_loopw [3] (fun v3 wr => ∃ k : Nat, v3 = .int .i64 k ∧ k ≤ n.size ∧ Hid ((n.data.toList.take k).all sign = true) ∧ Hid (w = wr)) (fun v3 _ => n.size - (intOf v3).toNat)
 case atStart => exact ⟨0, rfl, Nat.zero_le _, Zh (by simp), Lib.hid' rfl⟩
 case round =>
  obtain ⟨k, rfl, hk, HN, HW⟩ := hrel
  have hww := HW.out
  subst hww
  by_cases hlt : k < n.size
  ·have hlt' : (k : Int) < (n.size : Int) := by omega
   go_upto_region 5 with fail
   have HTK := Zh (show (n.data.toList.take (k + 1)).all sign = sign n[k] by
    rw [tkS n.data.toList (by rw [Array.length_toList]; exact hlt), List.all_append, HN.out]
    simp; rfl)
   have HIN := Zh (show sign n[k] = false → named n = false from fun h => by
    unfold named
    have : n.data.toList.all sign = false := by
     rw [List.all_eq_false]
     exact ⟨n[k], by rw [show n[k] = n.data.toList[k]'(by rw [Array.length_toList]; exact hlt) from by simp; rfl]; exact List.getElem_mem _, by simp [h]⟩
    simp [this])
   generalize n[k] = b at *
   have HSG := sign_nat b
   have hb := b.toNat_lt
   generalize b.toNat = z at *
   cases hsb : sign b with
   | true =>
    rw [hsb] at HTK HSG
    have hz : z = 45 ∨ z = 46 ∨ (48 ≤ z ∧ z ≤ 57) ∨ (97 ≤ z ∧ z ≤ 122) ∨ z = 126 := of_decide_eq_true HSG.symm
    clear HSG hsb HIN
    rcases hz with rfl | rfl | ⟨h1, h2⟩ | ⟨h1, h2⟩ | rfl
    all_goals
     go_wp2_with fail
     go_roundw
     case rel => exact ⟨k + 1, by go_num, by omega, HTK, by first | exact Lib.hid' rfl | exact Lib.hid' trivial⟩
     case measure => simp [intOf]; omega
   | false =>
    rw [hsb] at HSG
    have hz : ¬ (z = 45 ∨ z = 46 ∨ (48 ≤ z ∧ z ≤ 57) ∨ (97 ≤ z ∧ z ≤ 122) ∨ z = 126) := of_decide_eq_false HSG.symm
    have HR := Zh (HIN.out hsb)
    clear HSG hsb HIN HTK
    have hz2 : z < 45 ∨ (46 < z ∧ z < 48) ∨ (57 < z ∧ z < 97) ∨ (122 < z ∧ z < 126) ∨ 126 < z := by omega
    have g1 : ((z : Int) == 45) = false := beq_eq_false_iff_ne.2 (by omega)
    have g2 : ((z : Int) == 46) = false := beq_eq_false_iff_ne.2 (by omega)
    have g3 : ((z : Int) == 126) = false := beq_eq_false_iff_ne.2 (by omega)
    clear hz
    rcases hz2 with h1 | ⟨h1, h2⟩ | ⟨h1, h2⟩ | ⟨h1, h2⟩ | h1
    all_goals
     try have g4 : decide ((z : Int) ≤ 57) = false := decide_eq_false (by omega)
     try have g5 : decide ((z : Int) ≤ 122) = false := decide_eq_false (by omega)
     go_wp2_with fail
     go_ret
     rw [HR.out]
     exact ⟨rfl, rfl⟩
  ·have hkn : k = n.size := by omega
   have HAL := Zh (show n.data.toList.all sign = true by have := HN.out; rwa [List.take_of_length_le (by rw [Array.length_toList]; exact (by omega : n.size ≤ k))] at this)
   by_cases h1 : 1 ≤ n.size
   ·by_cases h2 : n.size ≤ 24
    ·have HR := Zh (show named n = true by unfold named; rw [HAL.out]; simp [h1, h2])
     have h1' : (1 : Int) ≤ (n.size : Int) := by omega
     have h2' : (n.size : Int) ≤ 24 := by omega
     go_wp2_with fail
     go_ret
     rw [HR.out]
     exact ⟨rfl, rfl⟩
    ·have HR := Zh (show named n = false by unfold named; simp [h2])
     have h1' : (1 : Int) ≤ (n.size : Int) := by omega
     have h2' : ¬ (n.size : Int) ≤ 24 := by omega
     go_wp2_with fail
     go_ret
     rw [HR.out]
     exact ⟨rfl, rfl⟩
   ·have HR := Zh (show named n = false by unfold named; simp [h1])
    have h1' : ¬ (1 : Int) ≤ (n.size : Int) := by omega
    go_wp2_with fail
    go_ret
    rw [HR.out]
    exact ⟨rfl, rfl⟩

set_option maxHeartbeats 8000000 in
theorem rremove_any (K : Nat → Prop) (R : Rk) (a : Option Addr) (c : Nat) (x : Option Addr) (y : Nat) (n : Nm) (m : Nat) (w : World) (hK : ∀ b, K b → b < w.heap.size) (h : RdkK K w R a c x y) (hb : RkB m R) (hm : m ≤ 4194300) (hn : n.size ≤ 9223372036854775807) :
  Calls Tryz.prog 109 #[rdkV R a c x y, .string n] w (RdR2 K (removeR R n) w) := by
 have HK := Lib.hid' hK
 have HWS := works_same R
 have HWK := Zh (works_keep h)
 have HBS := hb.sure
 have HBC := hb.ch
 have HF := Zh (show removeR R n = if (worksR R).1 ≠ 0 then worksR R else if named n = false then (2, (worksR R).2) else if (getF (shownR (worksR R).2) n).isNone = true then (4, (worksR R).2) else (0, addR (worksR R).2 ⟨2, n, ⟨#[]⟩, []⟩) from rfl)
 have HW := Zh (fun wq => rworks_any R a c x y wq hb.fuse.2 hb.fuse.1)
 have hlen : (worksR R).2.sure.length + (worksR R).2.ch.length ≤ m := by rw [HWS.1, HWS.2.1]; exact hb.few
 rw [← HWS.1] at HBS
 rw [← HWS.2.1] at HBC
 have HBS := Lib.hid' HBS
 have HBC := Lib.hid' HBC
 have h1 := ((Sep.start w).allocAt w.heap.size [.int .i64 R.room, .slice a R.sure.length c, .slice x R.ch.length y, .int .i64 R.fuse, .bool R.down] 123 rfl).allocAt (w.heap.size + 1) [.int .i64 0, .slice none 0 0, .slice none 0 0, .int .i64 0, .bool false] 123 (by simp)
 have H1 := Lib.hid' h1
 have d0 := h1.cell 1 rfl 0 rfl; have d1 := h1.cell 1 rfl 1 rfl; have d2 := h1.cell 1 rfl 2 rfl; have d3 := h1.cell 1 rfl 3 rfl; have d4 := h1.cell 1 rfl 4 rfl
 clear h hK hb HWS h1
 unfold WorkR at HW
 generalize worksR R = r at *
 obtain ⟨r1, R1⟩ := r
 obtain ⟨room, sure, ch, fuse, down⟩ := R1
 simp only at HF HWK HW hlen HBS HBC
 go_enter Tryz.func109, Tryz.ntmps109
 go_upto_region 1 with fail
 generalize (w.alloc (.cells #[.int .i64 R.room, .slice a R.sure.length c, .slice x R.ch.length y, .int .i64 R.fuse, .bool R.down] 123)).alloc (.cells #[.int .i64 0, .slice none 0 0, .slice none 0 0, .int .i64 0, .bool false] 123) = w1 at *
 go_upto_region 2 with (go_at_call 173; refine (HW.out _).mono ?_; rintro en w2 ⟨rfl, hb2⟩; have h2 := H1.out.below hb2; have g0 := h2.free 1 rfl 0; have g1 := h2.free 1 rfl 1; have g2 := h2.free 1 rfl 2; have g3 := h2.free 1 rfl 3; have g4 := h2.free 1 rfl 4; have d0 := h2.cell 1 rfl 0 rfl; have d1 := h2.cell 1 rfl 1 rfl; have d2 := h2.cell 1 rfl 2 rfl; have d3 := h2.cell 1 rfl 3 rfl; have d4 := h2.cell 1 rfl 4 rfl; have l0 := h2.lt 1 rfl)
 have H3 := Zh (sep_set5 h2 1 rfl (.int .i64 room) (.slice a sure.length c) (.slice x ch.length y) (.int .i64 fuse) (.bool down))
 clear HW H1 hb2 h2 g0 g1 g2 g3 g4 d0 d1 d2 d3 d4 l0
 generalize (((((w2.setCell ⟨w.heap.size, 0, none⟩ (.int .i64 room)).setCell ⟨w.heap.size, 1, none⟩ (.slice a sure.length c)).setCell ⟨w.heap.size, 2, none⟩ (.slice x ch.length y)).setCell ⟨w.heap.size, 3, none⟩ (.int .i64 fuse)).setCell ⟨w.heap.size, 4, none⟩ (.bool down)) = w3 at *
 have d0 := H3.out.cell 0 rfl 0 rfl; have d1 := H3.out.cell 0 rfl 1 rfl; have d2 := H3.out.cell 0 rfl 2 rfl; have d3 := H3.out.cell 0 rfl 3 rfl; have d4 := H3.out.cell 0 rfl 4 rfl; have e0 := H3.out.cell 1 rfl 0 rfl; have e1 := H3.out.cell 1 rfl 1 rfl; have e2 := H3.out.cell 1 rfl 2 rfl; have e3 := H3.out.cell 1 rfl 3 rfl; have e4 := H3.out.cell 1 rfl 4 rfl; have f0 := H3.out.free 1 rfl 0; have f1 := H3.out.free 1 rfl 1; have f2 := H3.out.free 1 rfl 2; have f3 := H3.out.free 1 rfl 3; have f4 := H3.out.free 1 rfl 4; have l0 := H3.out.lt 0 rfl; have l1 := H3.out.lt 1 rfl
 by_cases hr : r1 = 0
 rotate_left
 ·have hr' : ((r1 : Int) == 0) = false := beq_eq_false_iff_ne.2 (by omega)
  have HR := Zh (HF.out.trans (if_pos hr))
  clear HF
  go_wp2_with fail
  have HE := Zh (sep_set5 (H3.out) 1 rfl (.int .i64 room) (.slice a sure.length c) (.slice x ch.length y) (.int .i64 fuse) (.bool down))
  refine bodyPost_ret (v := .tuple #[.agg #[.int .i64 room, .slice a sure.length c, .slice x ch.length y, .int .i64 fuse, .bool down], .int .i64 (r1 : Nat)]) (by simp [results, Tryz.results109, go_sem, e0, e1, e2, e3, e4, f0, f1, f2, f3, f4, l1]) rfl ?_
  rw [HR.out]
  exact ⟨a, c, x, y, rfl, HWK.out.below HE.out.toBelow, HE.out.toBelow⟩
 subst hr
 have HF1 := Zh (HF.out.trans (if_neg (by simp)))
 clear HF
 cases hq : named n with
 | false =>
  have HR := Zh (HF1.out.trans (if_pos hq))
  go_wp2_with (go_at_call 174; refine (rnamed_any n _ hn).mono ?_; rintro en wz ⟨rfl, rfl⟩; rw [hq])
  have HE := Zh (sep_set5 (H3.out) 1 rfl (.int .i64 room) (.slice a sure.length c) (.slice x ch.length y) (.int .i64 fuse) (.bool down))
  refine bodyPost_ret (v := .tuple #[.agg #[.int .i64 room, .slice a sure.length c, .slice x ch.length y, .int .i64 fuse, .bool down], .int .i64 2]) (by simp [results, Tryz.results109, go_sem, e0, e1, e2, e3, e4, f0, f1, f2, f3, f4, l1]) rfl ?_
  rw [HR.out]
  exact ⟨a, c, x, y, rfl, HWK.out.below HE.out.toBelow, HE.out.toBelow⟩
 | true =>
  have HF2 := Zh (HF1.out.trans (if_neg (by rw [hq]; decide)))
  clear HF1
  have HG := find_get (shownR ⟨room, sure, ch, fuse, down⟩) n
  rcases HG with ⟨h6, hfi⟩ | ⟨i, hi, hfi, h6⟩
  ·have HR := Zh (HF2.out.trans (if_pos (by rw [h6]; rfl)))
   clear HF2 h6
   go_upto_region 7 with (first | (go_at_call 174; refine (rnamed_any n _ hn).mono ?_; rintro en wz ⟨rfl, rfl⟩; rw [hq]) | (go_at_call 172; refine (rshown_any K ⟨room, sure, ch, fuse, down⟩ a c x y _ (fun b hb => Nat.lt_of_lt_of_le (HK.out b hb) H3.out.toBelow.size) (HWK.out.below H3.out.toBelow) (by show sure.length + ch.length ≤ _; omega)).mono ?_; rintro en w4 ⟨a4, c4, rfl, hs4, hb4⟩; have h4 := H3.out.below hb4; have d0 := h4.cell 0 rfl 0 rfl; have d1 := h4.cell 0 rfl 1 rfl; have d2 := h4.cell 0 rfl 2 rfl; have d3 := h4.cell 0 rfl 3 rfl; have d4 := h4.cell 0 rfl 4 rfl; have e0 := h4.cell 1 rfl 0 rfl; have e1 := h4.cell 1 rfl 1 rfl; have e2 := h4.cell 1 rfl 2 rfl; have e3 := h4.cell 1 rfl 3 rfl; have e4 := h4.cell 1 rfl 4 rfl; have f0 := h4.free 1 rfl 0; have f1 := h4.free 1 rfl 1; have f2 := h4.free 1 rfl 2; have f3 := h4.free 1 rfl 3; have f4 := h4.free 1 rfl 4; have l0 := h4.lt 0 rfl; have l1 := h4.lt 1 rfl; have HFI := rfind_any _ a4 c4 n w4 hs4.1) | (go_at_call 175; refine HFI.mono ?_; rintro en wz ⟨rfl, rfl⟩; rw [hfi]))
   clear HFI hs4
   go_wp2_with fail
   have HE := Zh (sep_set5 (h4) 1 rfl (.int .i64 room) (.slice a sure.length c) (.slice x ch.length y) (.int .i64 fuse) (.bool down))
   refine bodyPost_ret (v := .tuple #[.agg #[.int .i64 room, .slice a sure.length c, .slice x ch.length y, .int .i64 fuse, .bool down], .int .i64 4]) (by simp [results, Tryz.results109, go_sem, e0, e1, e2, e3, e4, f0, f1, f2, f3, f4, l1]) rfl ?_
   rw [HR.out]
   exact ⟨a, c, x, y, rfl, HWK.out.below HE.out.toBelow, HE.out.toBelow⟩
  ·have HR := Zh (HF2.out.trans (if_neg (by rw [h6]; simp)))
   clear HF2 h6
   go_upto_region 8 with (first | (go_at_call 174; refine (rnamed_any n _ hn).mono ?_; rintro en wz ⟨rfl, rfl⟩; rw [hq]) | (go_at_call 172; refine (rshown_any K ⟨room, sure, ch, fuse, down⟩ a c x y _ (fun b hb => Nat.lt_of_lt_of_le (HK.out b hb) H3.out.toBelow.size) (HWK.out.below H3.out.toBelow) (by show sure.length + ch.length ≤ _; omega)).mono ?_; rintro en w4 ⟨a4, c4, rfl, hs4, hb4⟩; have h4 := H3.out.below hb4; have d0 := h4.cell 0 rfl 0 rfl; have d1 := h4.cell 0 rfl 1 rfl; have d2 := h4.cell 0 rfl 2 rfl; have d3 := h4.cell 0 rfl 3 rfl; have d4 := h4.cell 0 rfl 4 rfl; have e0 := h4.cell 1 rfl 0 rfl; have e1 := h4.cell 1 rfl 1 rfl; have e2 := h4.cell 1 rfl 2 rfl; have e3 := h4.cell 1 rfl 3 rfl; have e4 := h4.cell 1 rfl 4 rfl; have f0 := h4.free 1 rfl 0; have f1 := h4.free 1 rfl 1; have f2 := h4.free 1 rfl 2; have f3 := h4.free 1 rfl 3; have f4 := h4.free 1 rfl 4; have l0 := h4.lt 0 rfl; have l1 := h4.lt 1 rfl; have HFI := rfind_any _ a4 c4 n w4 hs4.1) | (go_at_call 175; refine HFI.mono ?_; rintro en wz ⟨rfl, rfl⟩; rw [hfi]))
   have hi0 : (0 : Int) ≤ i := by omega
   clear HFI hs4
   go_wp2_with (go_at_call 176; refine (radd_any (KO K w.heap.size) ⟨room, sure, ch, fuse, down⟩ a c x y ⟨2, n, ⟨#[]⟩, []⟩ _ (KO.lt HK.out l1) ((KO.more HWK.out).below h4.toBelow) (by show ch.length ≤ _; omega)).mono ?_; rintro en w5 ⟨a5, c5, x5, y5, rfl, hk5, hb5⟩; simp only [addR]; have h5 := h4.below hb5; have d0 := h5.cell 0 rfl 0 rfl; have d1 := h5.cell 0 rfl 1 rfl; have d2 := h5.cell 0 rfl 2 rfl; have d3 := h5.cell 0 rfl 3 rfl; have d4 := h5.cell 0 rfl 4 rfl; have e0 := h5.cell 1 rfl 0 rfl; have e1 := h5.cell 1 rfl 1 rfl; have e2 := h5.cell 1 rfl 2 rfl; have e3 := h5.cell 1 rfl 3 rfl; have e4 := h5.cell 1 rfl 4 rfl; have f0 := h5.free 1 rfl 0; have f1 := h5.free 1 rfl 1; have f2 := h5.free 1 rfl 2; have f3 := h5.free 1 rfl 3; have f4 := h5.free 1 rfl 4; have l0 := h5.lt 0 rfl; have l1 := h5.lt 1 rfl)
   have HE := Zh (sep_set5 (h5) 1 rfl (.int .i64 room) (.slice a5 sure.length c5) (.slice x5 (ch.length + 1) y5) (.int .i64 fuse) (.bool down))
   refine bodyPost_ret (v := .tuple #[.agg #[.int .i64 room, .slice a5 sure.length c5, .slice x5 (ch.length + 1) y5, .int .i64 fuse, .bool down], .int .i64 0]) (by simp [results, Tryz.results109, go_sem, e0, e1, e2, e3, e4, f0, f1, f2, f3, f4, l1]) rfl ?_
   rw [HR.out]
   exact ⟨a5, c5, x5, y5, by simp [addR], KO.set1 hk5 _ _ _ _ _, HE.out.toBelow⟩
end DK
end Go.Proofs.YtpckcpmohcianaaGreatDoor

namespace Go.Proofs.YtpckcpmohcianaaGreatDoor
open Go.RowKit
namespace DK
set_option maxHeartbeats 8000000 in
theorem rrename_any (K : Nat → Prop) (R : Rk) (a : Option Addr) (c : Nat) (x : Option Addr) (y : Nat) (n tn : Nm) (m : Nat) (w : World) (hK : ∀ b, K b → b < w.heap.size) (h : RdkK K w R a c x y) (hb : RkB m R) (hm : m ≤ 4194300) (hn : n.size ≤ 9223372036854775807) (htn : tn.size ≤ 9223372036854775807) :
  Calls Tryz.prog 126 #[rdkV R a c x y, .string n, .string tn] w (RdR2 K (renameR R n tn) w) := by
 have HK := Lib.hid' hK
 have HWS := works_same R
 have HWK := Zh (works_keep h)
 have HBS := hb.sure
 have HBC := hb.ch
 have HF := Zh (show renameR R n tn = if (worksR R).1 ≠ 0 then worksR R else if named n = false ∨ named tn = false then (2, (worksR R).2) else if (getF (shownR (worksR R).2) n).isNone = true then (4, (worksR R).2) else (0, addR (worksR R).2 ⟨1, n, tn, []⟩) from rfl)
 have HW := Zh (fun wq => rworks_any R a c x y wq hb.fuse.2 hb.fuse.1)
 have hlen : (worksR R).2.sure.length + (worksR R).2.ch.length ≤ m := by rw [HWS.1, HWS.2.1]; exact hb.few
 rw [← HWS.1] at HBS
 rw [← HWS.2.1] at HBC
 have HBS := Lib.hid' HBS
 have HBC := Lib.hid' HBC
 have h1 := ((Sep.start w).allocAt w.heap.size [.int .i64 R.room, .slice a R.sure.length c, .slice x R.ch.length y, .int .i64 R.fuse, .bool R.down] 123 rfl).allocAt (w.heap.size + 1) [.int .i64 0, .slice none 0 0, .slice none 0 0, .int .i64 0, .bool false] 123 (by simp)
 have H1 := Lib.hid' h1
 have d0 := h1.cell 1 rfl 0 rfl; have d1 := h1.cell 1 rfl 1 rfl; have d2 := h1.cell 1 rfl 2 rfl; have d3 := h1.cell 1 rfl 3 rfl; have d4 := h1.cell 1 rfl 4 rfl
 clear h hK hb HWS h1
 unfold WorkR at HW
 generalize worksR R = r at *
 obtain ⟨r1, R1⟩ := r
 obtain ⟨room, sure, ch, fuse, down⟩ := R1
 simp only at HF HWK HW hlen HBS HBC
 go_enter Tryz.func126, Tryz.ntmps126
 go_upto_region 1 with fail
 generalize (w.alloc (.cells #[.int .i64 R.room, .slice a R.sure.length c, .slice x R.ch.length y, .int .i64 R.fuse, .bool R.down] 123)).alloc (.cells #[.int .i64 0, .slice none 0 0, .slice none 0 0, .int .i64 0, .bool false] 123) = w1 at *
 go_upto_region 2 with (go_at_call 173; refine (HW.out _).mono ?_; rintro en w2 ⟨rfl, hb2⟩; have h2 := H1.out.below hb2; have g0 := h2.free 1 rfl 0; have g1 := h2.free 1 rfl 1; have g2 := h2.free 1 rfl 2; have g3 := h2.free 1 rfl 3; have g4 := h2.free 1 rfl 4; have d0 := h2.cell 1 rfl 0 rfl; have d1 := h2.cell 1 rfl 1 rfl; have d2 := h2.cell 1 rfl 2 rfl; have d3 := h2.cell 1 rfl 3 rfl; have d4 := h2.cell 1 rfl 4 rfl; have l0 := h2.lt 1 rfl)
 have H3 := Zh (sep_set5 h2 1 rfl (.int .i64 room) (.slice a sure.length c) (.slice x ch.length y) (.int .i64 fuse) (.bool down))
 clear HW H1 hb2 h2 g0 g1 g2 g3 g4 d0 d1 d2 d3 d4 l0
 generalize (((((w2.setCell ⟨w.heap.size, 0, none⟩ (.int .i64 room)).setCell ⟨w.heap.size, 1, none⟩ (.slice a sure.length c)).setCell ⟨w.heap.size, 2, none⟩ (.slice x ch.length y)).setCell ⟨w.heap.size, 3, none⟩ (.int .i64 fuse)).setCell ⟨w.heap.size, 4, none⟩ (.bool down)) = w3 at *
 have d0 := H3.out.cell 0 rfl 0 rfl; have d1 := H3.out.cell 0 rfl 1 rfl; have d2 := H3.out.cell 0 rfl 2 rfl; have d3 := H3.out.cell 0 rfl 3 rfl; have d4 := H3.out.cell 0 rfl 4 rfl; have e0 := H3.out.cell 1 rfl 0 rfl; have e1 := H3.out.cell 1 rfl 1 rfl; have e2 := H3.out.cell 1 rfl 2 rfl; have e3 := H3.out.cell 1 rfl 3 rfl; have e4 := H3.out.cell 1 rfl 4 rfl; have f0 := H3.out.free 1 rfl 0; have f1 := H3.out.free 1 rfl 1; have f2 := H3.out.free 1 rfl 2; have f3 := H3.out.free 1 rfl 3; have f4 := H3.out.free 1 rfl 4; have l0 := H3.out.lt 0 rfl; have l1 := H3.out.lt 1 rfl
 by_cases hr : r1 = 0
 rotate_left
 ·have hr' : ((r1 : Int) == 0) = false := beq_eq_false_iff_ne.2 (by omega)
  have HR := Zh (HF.out.trans (if_pos hr))
  clear HF
  go_wp2_with fail
  have HE := Zh (sep_set5 (H3.out) 1 rfl (.int .i64 room) (.slice a sure.length c) (.slice x ch.length y) (.int .i64 fuse) (.bool down))
  refine bodyPost_ret (v := .tuple #[.agg #[.int .i64 room, .slice a sure.length c, .slice x ch.length y, .int .i64 fuse, .bool down], .int .i64 (r1 : Nat)]) (by simp [results, Tryz.results126, go_sem, e0, e1, e2, e3, e4, f0, f1, f2, f3, f4, l1]) rfl ?_
  rw [HR.out]
  exact ⟨a, c, x, y, rfl, HWK.out.below HE.out.toBelow, HE.out.toBelow⟩
 subst hr
 have HF1 := Zh (HF.out.trans (if_neg (by simp)))
 clear HF
 cases hq : named n with
 | false =>
  have HR := Zh (HF1.out.trans (if_pos (.inl hq)))
  go_wp2_with (go_at_call 174; first | ((with_reducible refine (rnamed_any n _ hn).mono ?_); rintro en wz ⟨rfl, rfl⟩; rw [hq]) | ((with_reducible refine (rnamed_any tn _ htn).mono ?_); rintro en wz ⟨rfl, rfl⟩; rw [ht]))
  have HE := Zh (sep_set5 (H3.out) 1 rfl (.int .i64 room) (.slice a sure.length c) (.slice x ch.length y) (.int .i64 fuse) (.bool down))
  refine bodyPost_ret (v := .tuple #[.agg #[.int .i64 room, .slice a sure.length c, .slice x ch.length y, .int .i64 fuse, .bool down], .int .i64 2]) (by simp [results, Tryz.results126, go_sem, e0, e1, e2, e3, e4, f0, f1, f2, f3, f4, l1]) rfl ?_
  rw [HR.out]
  exact ⟨a, c, x, y, rfl, HWK.out.below HE.out.toBelow, HE.out.toBelow⟩
 | true =>
  cases ht : named tn with
  | false =>
   have HR := Zh (HF1.out.trans (if_pos (.inr ht)))
   go_wp2_with (go_at_call 174; first | ((with_reducible refine (rnamed_any n _ hn).mono ?_); rintro en wz ⟨rfl, rfl⟩; rw [hq]) | ((with_reducible refine (rnamed_any tn _ htn).mono ?_); rintro en wz ⟨rfl, rfl⟩; rw [ht]))
   have HE := Zh (sep_set5 (H3.out) 1 rfl (.int .i64 room) (.slice a sure.length c) (.slice x ch.length y) (.int .i64 fuse) (.bool down))
   refine bodyPost_ret (v := .tuple #[.agg #[.int .i64 room, .slice a sure.length c, .slice x ch.length y, .int .i64 fuse, .bool down], .int .i64 2]) (by simp [results, Tryz.results126, go_sem, e0, e1, e2, e3, e4, f0, f1, f2, f3, f4, l1]) rfl ?_
   rw [HR.out]
   exact ⟨a, c, x, y, rfl, HWK.out.below HE.out.toBelow, HE.out.toBelow⟩
  | true =>
   have HF2 := Zh (HF1.out.trans (if_neg (by rw [hq, ht]; simp)))
   clear HF1
   have HG := find_get (shownR ⟨room, sure, ch, fuse, down⟩) n
   rcases HG with ⟨h6, hfi⟩ | ⟨i, hi, hfi, h6⟩
   ·have HR := Zh (HF2.out.trans (if_pos (by rw [h6]; rfl)))
    clear HF2 h6
    go_upto_region 7 with (first | (go_at_call 174; first | ((with_reducible refine (rnamed_any n _ hn).mono ?_); rintro en wz ⟨rfl, rfl⟩; rw [hq]) | ((with_reducible refine (rnamed_any tn _ htn).mono ?_); rintro en wz ⟨rfl, rfl⟩; rw [ht])) | (go_at_call 172; refine (rshown_any K ⟨room, sure, ch, fuse, down⟩ a c x y _ (fun b hb => Nat.lt_of_lt_of_le (HK.out b hb) H3.out.toBelow.size) (HWK.out.below H3.out.toBelow) (by show sure.length + ch.length ≤ _; omega)).mono ?_; rintro en w4 ⟨a4, c4, rfl, hs4, hb4⟩; have h4 := H3.out.below hb4; have d0 := h4.cell 0 rfl 0 rfl; have d1 := h4.cell 0 rfl 1 rfl; have d2 := h4.cell 0 rfl 2 rfl; have d3 := h4.cell 0 rfl 3 rfl; have d4 := h4.cell 0 rfl 4 rfl; have e0 := h4.cell 1 rfl 0 rfl; have e1 := h4.cell 1 rfl 1 rfl; have e2 := h4.cell 1 rfl 2 rfl; have e3 := h4.cell 1 rfl 3 rfl; have e4 := h4.cell 1 rfl 4 rfl; have f0 := h4.free 1 rfl 0; have f1 := h4.free 1 rfl 1; have f2 := h4.free 1 rfl 2; have f3 := h4.free 1 rfl 3; have f4 := h4.free 1 rfl 4; have l0 := h4.lt 0 rfl; have l1 := h4.lt 1 rfl; have HFI := rfind_any _ a4 c4 n w4 hs4.1) | (go_at_call 175; refine HFI.mono ?_; rintro en wz ⟨rfl, rfl⟩; rw [hfi]))
    clear HFI hs4
    go_wp2_with fail
    have HE := Zh (sep_set5 (h4) 1 rfl (.int .i64 room) (.slice a sure.length c) (.slice x ch.length y) (.int .i64 fuse) (.bool down))
    refine bodyPost_ret (v := .tuple #[.agg #[.int .i64 room, .slice a sure.length c, .slice x ch.length y, .int .i64 fuse, .bool down], .int .i64 4]) (by simp [results, Tryz.results126, go_sem, e0, e1, e2, e3, e4, f0, f1, f2, f3, f4, l1]) rfl ?_
    rw [HR.out]
    exact ⟨a, c, x, y, rfl, HWK.out.below HE.out.toBelow, HE.out.toBelow⟩
   ·have HR := Zh (HF2.out.trans (if_neg (by rw [h6]; simp)))
    clear HF2 h6
    have hi0 : (0 : Int) ≤ i := by omega
    go_upto_region 8 with (first | (go_at_call 174; first | ((with_reducible refine (rnamed_any n _ hn).mono ?_); rintro en wz ⟨rfl, rfl⟩; rw [hq]) | ((with_reducible refine (rnamed_any tn _ htn).mono ?_); rintro en wz ⟨rfl, rfl⟩; rw [ht])) | (go_at_call 172; refine (rshown_any K ⟨room, sure, ch, fuse, down⟩ a c x y _ (fun b hb => Nat.lt_of_lt_of_le (HK.out b hb) H3.out.toBelow.size) (HWK.out.below H3.out.toBelow) (by show sure.length + ch.length ≤ _; omega)).mono ?_; rintro en w4 ⟨a4, c4, rfl, hs4, hb4⟩; have h4 := H3.out.below hb4; have d0 := h4.cell 0 rfl 0 rfl; have d1 := h4.cell 0 rfl 1 rfl; have d2 := h4.cell 0 rfl 2 rfl; have d3 := h4.cell 0 rfl 3 rfl; have d4 := h4.cell 0 rfl 4 rfl; have e0 := h4.cell 1 rfl 0 rfl; have e1 := h4.cell 1 rfl 1 rfl; have e2 := h4.cell 1 rfl 2 rfl; have e3 := h4.cell 1 rfl 3 rfl; have e4 := h4.cell 1 rfl 4 rfl; have f0 := h4.free 1 rfl 0; have f1 := h4.free 1 rfl 1; have f2 := h4.free 1 rfl 2; have f3 := h4.free 1 rfl 3; have f4 := h4.free 1 rfl 4; have l0 := h4.lt 0 rfl; have l1 := h4.lt 1 rfl; have HFI := rfind_any _ a4 c4 n w4 hs4.1) | (go_at_call 175; refine HFI.mono ?_; rintro en wz ⟨rfl, rfl⟩; rw [hfi]))
    clear HFI hs4
    go_wp2_with (go_at_call 176; refine (radd_any (KO K w.heap.size) ⟨room, sure, ch, fuse, down⟩ a c x y ⟨1, n, tn, []⟩ _ (KO.lt HK.out l1) ((KO.more HWK.out).below h4.toBelow) (by show ch.length ≤ _; omega)).mono ?_; rintro en w5 ⟨a5, c5, x5, y5, rfl, hk5, hb5⟩; simp only [addR]; have h5 := h4.below hb5; have d0 := h5.cell 0 rfl 0 rfl; have d1 := h5.cell 0 rfl 1 rfl; have d2 := h5.cell 0 rfl 2 rfl; have d3 := h5.cell 0 rfl 3 rfl; have d4 := h5.cell 0 rfl 4 rfl; have e0 := h5.cell 1 rfl 0 rfl; have e1 := h5.cell 1 rfl 1 rfl; have e2 := h5.cell 1 rfl 2 rfl; have e3 := h5.cell 1 rfl 3 rfl; have e4 := h5.cell 1 rfl 4 rfl; have f0 := h5.free 1 rfl 0; have f1 := h5.free 1 rfl 1; have f2 := h5.free 1 rfl 2; have f3 := h5.free 1 rfl 3; have f4 := h5.free 1 rfl 4; have l0 := h5.lt 0 rfl; have l1 := h5.lt 1 rfl)
    have HE := Zh (sep_set5 (h5) 1 rfl (.int .i64 room) (.slice a5 sure.length c5) (.slice x5 (ch.length + 1) y5) (.int .i64 fuse) (.bool down))
    refine bodyPost_ret (v := .tuple #[.agg #[.int .i64 room, .slice a5 sure.length c5, .slice x5 (ch.length + 1) y5, .int .i64 fuse, .bool down], .int .i64 0]) (by simp [results, Tryz.results126, go_sem, e0, e1, e2, e3, e4, f0, f1, f2, f3, f4, l1]) rfl ?_
    rw [HR.out]
    exact ⟨a5, c5, x5, y5, by simp [addR], KO.set1 hk5 _ _ _ _ _, HE.out.toBelow⟩
set_option maxHeartbeats 8000000 in
theorem rsync_any (K : Nat → Prop) (R : Rk) (a : Option Addr) (c : Nat) (x : Option Addr) (y : Nat) (m : Nat) (w : World) (hK : ∀ b, K b → b < w.heap.size) (h : RdkK K w R a c x y) (hb : RkB m R) (hm : m ≤ 4194300) :
  Calls Tryz.prog 110 #[rdkV R a c x y] w (RdR2 K (syncR R) w) := by
 have HK := Lib.hid' hK
 have HWS := works_same R
 have HWK := Zh (works_keep h)
 have HBS := hb.sure
 have HBC := hb.ch
 have HF := Zh (show syncR R = if (worksR R).1 ≠ 0 then worksR R else (0, { (worksR R).2 with sure := shownR (worksR R).2, ch := [] }) from rfl)
 have HW := Zh (fun wq => rworks_any R a c x y wq hb.fuse.2 hb.fuse.1)
 have hlen : (worksR R).2.sure.length + (worksR R).2.ch.length ≤ m := by rw [HWS.1, HWS.2.1]; exact hb.few
 rw [← HWS.1] at HBS
 rw [← HWS.2.1] at HBC
 have HBS := Lib.hid' HBS
 have HBC := Lib.hid' HBC
 have h1 := ((Sep.start w).allocAt w.heap.size [.int .i64 R.room, .slice a R.sure.length c, .slice x R.ch.length y, .int .i64 R.fuse, .bool R.down] 123 rfl).allocAt (w.heap.size + 1) [.int .i64 0, .slice none 0 0, .slice none 0 0, .int .i64 0, .bool false] 123 (by simp)
 have H1 := Lib.hid' h1
 have d0 := h1.cell 1 rfl 0 rfl; have d1 := h1.cell 1 rfl 1 rfl; have d2 := h1.cell 1 rfl 2 rfl; have d3 := h1.cell 1 rfl 3 rfl; have d4 := h1.cell 1 rfl 4 rfl
 clear h hK hb HWS h1
 unfold WorkR at HW
 generalize worksR R = r at *
 obtain ⟨r1, R1⟩ := r
 obtain ⟨room, sure, ch, fuse, down⟩ := R1
 simp only at HF HWK HW hlen HBS HBC
 go_enter Tryz.func110, Tryz.ntmps110
 go_upto_region 1 with fail
 generalize (w.alloc (.cells #[.int .i64 R.room, .slice a R.sure.length c, .slice x R.ch.length y, .int .i64 R.fuse, .bool R.down] 123)).alloc (.cells #[.int .i64 0, .slice none 0 0, .slice none 0 0, .int .i64 0, .bool false] 123) = w1 at *
 go_upto_region 2 with (go_at_call 173; refine (HW.out _).mono ?_; rintro en w2 ⟨rfl, hb2⟩; have h2 := H1.out.below hb2; have g0 := h2.free 1 rfl 0; have g1 := h2.free 1 rfl 1; have g2 := h2.free 1 rfl 2; have g3 := h2.free 1 rfl 3; have g4 := h2.free 1 rfl 4; have d0 := h2.cell 1 rfl 0 rfl; have d1 := h2.cell 1 rfl 1 rfl; have d2 := h2.cell 1 rfl 2 rfl; have d3 := h2.cell 1 rfl 3 rfl; have d4 := h2.cell 1 rfl 4 rfl; have l0 := h2.lt 1 rfl)
 have H3 := Zh (sep_set5 h2 1 rfl (.int .i64 room) (.slice a sure.length c) (.slice x ch.length y) (.int .i64 fuse) (.bool down))
 clear HW H1 hb2 h2 g0 g1 g2 g3 g4 d0 d1 d2 d3 d4 l0
 generalize (((((w2.setCell ⟨w.heap.size, 0, none⟩ (.int .i64 room)).setCell ⟨w.heap.size, 1, none⟩ (.slice a sure.length c)).setCell ⟨w.heap.size, 2, none⟩ (.slice x ch.length y)).setCell ⟨w.heap.size, 3, none⟩ (.int .i64 fuse)).setCell ⟨w.heap.size, 4, none⟩ (.bool down)) = w3 at *
 have d0 := H3.out.cell 0 rfl 0 rfl; have d1 := H3.out.cell 0 rfl 1 rfl; have d2 := H3.out.cell 0 rfl 2 rfl; have d3 := H3.out.cell 0 rfl 3 rfl; have d4 := H3.out.cell 0 rfl 4 rfl; have e0 := H3.out.cell 1 rfl 0 rfl; have e1 := H3.out.cell 1 rfl 1 rfl; have e2 := H3.out.cell 1 rfl 2 rfl; have e3 := H3.out.cell 1 rfl 3 rfl; have e4 := H3.out.cell 1 rfl 4 rfl; have f0 := H3.out.free 1 rfl 0; have f1 := H3.out.free 1 rfl 1; have f2 := H3.out.free 1 rfl 2; have f3 := H3.out.free 1 rfl 3; have f4 := H3.out.free 1 rfl 4; have l0 := H3.out.lt 0 rfl; have l1 := H3.out.lt 1 rfl
 by_cases hr : r1 = 0
 rotate_left
 ·have hr' : ((r1 : Int) == 0) = false := beq_eq_false_iff_ne.2 (by omega)
  have HR := Zh (HF.out.trans (if_pos hr))
  clear HF
  go_wp2_with fail
  have HE := Zh (sep_set5 (H3.out) 1 rfl (.int .i64 room) (.slice a sure.length c) (.slice x ch.length y) (.int .i64 fuse) (.bool down))
  refine bodyPost_ret (v := .tuple #[.agg #[.int .i64 room, .slice a sure.length c, .slice x ch.length y, .int .i64 fuse, .bool down], .int .i64 (r1 : Nat)]) (by simp [results, Tryz.results110, go_sem, e0, e1, e2, e3, e4, f0, f1, f2, f3, f4, l1]) rfl ?_
  rw [HR.out]
  exact ⟨a, c, x, y, rfl, HWK.out.below HE.out.toBelow, HE.out.toBelow⟩
 subst hr
 have HF1 := Zh (HF.out.trans (if_neg (by simp)))
 clear HF
 have HR := Lib.hid' HF1.out
 clear HF1
 go_upto_region 6 with (go_at_call 172; refine (rshown_any (KO K w.heap.size) ⟨room, sure, ch, fuse, down⟩ a c x y _ (KO.lt HK.out l1) ((KO.more HWK.out).below H3.out.toBelow) (by show sure.length + ch.length ≤ _; omega)).mono ?_; rintro en w4 ⟨a4, c4, rfl, hs4, hb4⟩; have h4 := H3.out.below hb4; have g1 := h4.free 0 rfl 1; have g2 := h4.free 0 rfl 2; have d0 := h4.cell 0 rfl 0 rfl; have d1 := h4.cell 0 rfl 1 rfl; have d2 := h4.cell 0 rfl 2 rfl; have d3 := h4.cell 0 rfl 3 rfl; have d4 := h4.cell 0 rfl 4 rfl; have e0 := h4.cell 1 rfl 0 rfl; have e1 := h4.cell 1 rfl 1 rfl; have e2 := h4.cell 1 rfl 2 rfl; have e3 := h4.cell 1 rfl 3 rfl; have e4 := h4.cell 1 rfl 4 rfl; have f0 := h4.free 1 rfl 0; have f1 := h4.free 1 rfl 1; have f2 := h4.free 1 rfl 2; have f3 := h4.free 1 rfl 3; have f4 := h4.free 1 rfl 4; have l0 := h4.lt 0 rfl; have l1 := h4.lt 1 rfl)
 have h6 := (h4.set 0 rfl 1 (.slice a4 (shownR ⟨room, sure, ch, fuse, down⟩).length c4)).set 0 rfl 2 (.slice none 0 0)
 have hk6 : RdkK (KO K w.heap.size) ((w4.setCell ⟨w.heap.size, 1, none⟩ (.slice a4 (shownR ⟨room, sure, ch, fuse, down⟩).length c4)).setCell ⟨w.heap.size, 2, none⟩ (.slice none 0 0)) ⟨room, (shownR ⟨room, sure, ch, fuse, down⟩), [], fuse, down⟩ a4 c4 none 0 := ⟨hs4.fr ((fr_set _ _ _ _).trans (fr_set _ _ _ _) (fun _ h => .inl h)) (fun b hb => .inr (.inl hb)), RowK.nil _ _⟩
 clear d0 d1 d2 d3 d4 e0 e1 e2 e3 e4 f0 f1 f2 f3 f4 l0 l1 hs4 h4 hb4 g1 g2
 generalize (w4.setCell ⟨w.heap.size, 1, none⟩ (.slice a4 (shownR ⟨room, sure, ch, fuse, down⟩).length c4)).setCell ⟨w.heap.size, 2, none⟩ (.slice none 0 0) = w6 at *
 have d0 := h6.cell 0 rfl 0 rfl; have d1 := h6.cell 0 rfl 1 rfl; have d2 := h6.cell 0 rfl 2 rfl; have d3 := h6.cell 0 rfl 3 rfl; have d4 := h6.cell 0 rfl 4 rfl; have e0 := h6.cell 1 rfl 0 rfl; have e1 := h6.cell 1 rfl 1 rfl; have e2 := h6.cell 1 rfl 2 rfl; have e3 := h6.cell 1 rfl 3 rfl; have e4 := h6.cell 1 rfl 4 rfl; have f0 := h6.free 1 rfl 0; have f1 := h6.free 1 rfl 1; have f2 := h6.free 1 rfl 2; have f3 := h6.free 1 rfl 3; have f4 := h6.free 1 rfl 4; have l0 := h6.lt 0 rfl; have l1 := h6.lt 1 rfl
 go_wp2_with fail
 have HE := Zh (sep_set5 (h6) 1 rfl (.int .i64 room) (.slice a4 (shownR ⟨room, sure, ch, fuse, down⟩).length c4) (.slice none 0 0) (.int .i64 fuse) (.bool down))
 refine bodyPost_ret (v := .tuple #[.agg #[.int .i64 room, .slice a4 (shownR ⟨room, sure, ch, fuse, down⟩).length c4, .slice none 0 0, .int .i64 fuse, .bool down], .int .i64 0]) (by simp [results, Tryz.results110, go_sem, e0, e1, e2, e3, e4, f0, f1, f2, f3, f4, l1]) rfl ?_
 rw [HR.out]
 exact ⟨a4, c4, none, 0, rfl, KO.set1 hk6 _ _ _ _ _, HE.out.toBelow⟩
end DK
end Go.Proofs.YtpckcpmohcianaaGreatDoor

namespace Go.Proofs.YtpckcpmohcianaaGreatDoor
open Go.RowKit
namespace DK
theorem getF_mem {L : Fl} {n : Nm} {b : List UInt8} (h : getF L n = some b) : ∃ p ∈ L, p.2 = b := by
 unfold getF at h
 cases hf : L.find? (·.1 == n) with
 | none => rw [hf] at h; cases h
 | some p => rw [hf] at h; exact ⟨p, List.mem_of_find?_eq_some hf, by simpa using h⟩
theorem doR_data {l : Fl} {c : Chg} (h : ∀ p ∈ l, p.2.length ≤ 65536) (hc : c.d.length ≤ 65536) : ∀ p ∈ doR l c, p.2.length ≤ 65536 := by
 have hd : ∀ (l : Fl) n p, p ∈ delF l n → p ∈ l := fun l n p hp => (List.mem_filter.1 hp).1
 intro p hp
 unfold doR at hp
 split at hp
 ·rcases insR_mem.1 hp with rfl | hp
  ·exact hc
  ·exact h p (hd _ _ _ hp)
 ·split at hp
  ·exact h p hp
  ·rename_i b hb
   obtain ⟨q, hq, rfl⟩ := getF_mem hb
   split at hp
   ·rcases insR_mem.1 hp with rfl | hp
    ·exact h q hq
    ·exact h p (hd _ _ _ (hd _ _ _ hp))
   ·exact h p (hd _ _ _ hp)
theorem allR_data : ∀ (cs : List Chg) {l : Fl}, (∀ p ∈ l, p.2.length ≤ 65536) → (∀ c ∈ cs, c.d.length ≤ 65536) → ∀ p ∈ allR l cs, p.2.length ≤ 65536
 | [], l, h, _ => h
 | c :: cs, l, h, hc => allR_data cs (doR_data h (hc c List.mem_cons_self)) (fun x hx => hc x (List.mem_cons_of_mem _ hx))
set_option maxHeartbeats 8000000 in
theorem rwrite_any (K : Nat → Prop) (R : Rk) (a : Option Addr) (c : Nat) (x : Option Addr) (y : Nat) (n : Nm) (d : List UInt8) (m : Nat) (w : World) (hK : ∀ b, K b → b < w.heap.size) (h : RdkK K w R a c x y) (hb : RkB m R) (hm : m ≤ 4194300) (hn : n.size ≤ 9223372036854775807) (hdl : d.length ≤ 9223372036854775807) :
  Calls Tryz.prog 125 #[rdkV R a c x y, .string n, .string (strOf d)] w (RdR2 K (writeR R n d) w) := by
 have HK := Lib.hid' hK
 have HWS := works_same R
 have HWK := Zh (works_keep h)
 have HBS := hb.sure
 have HBC := hb.ch
 have HF := Zh (show writeR R n d = if (worksR R).1 ≠ 0 then worksR R else if named n = false then (2, (worksR R).2) else if 65536 < d.length then (3, (worksR R).2) else if 512 < (shownR (addR (worksR R).2 ⟨0, n, ⟨#[]⟩, d⟩)).length ∨ (worksR R).2.room < (usedF (shownR (addR (worksR R).2 ⟨0, n, ⟨#[]⟩, d⟩)) : Int) then (5, (worksR R).2) else (0, addR (worksR R).2 ⟨0, n, ⟨#[]⟩, d⟩) from rfl)
 have HW := Zh (fun wq => rworks_any R a c x y wq hb.fuse.2 hb.fuse.1)
 have hlen : (worksR R).2.sure.length + (worksR R).2.ch.length ≤ m := by rw [HWS.1, HWS.2.1]; exact hb.few
 rw [← HWS.1] at HBS
 rw [← HWS.2.1] at HBC
 have HBS := Lib.hid' HBS
 have HBC := Lib.hid' HBC
 have h1 := ((Sep.start w).allocAt w.heap.size [.int .i64 R.room, .slice a R.sure.length c, .slice x R.ch.length y, .int .i64 R.fuse, .bool R.down] 123 rfl).allocAt (w.heap.size + 1) [.int .i64 0, .slice none 0 0, .slice none 0 0, .int .i64 0, .bool false] 123 (by simp)
 have H1 := Lib.hid' h1
 have d0 := h1.cell 1 rfl 0 rfl; have d1 := h1.cell 1 rfl 1 rfl; have d2 := h1.cell 1 rfl 2 rfl; have d3 := h1.cell 1 rfl 3 rfl; have d4 := h1.cell 1 rfl 4 rfl
 clear h hK hb HWS h1
 unfold WorkR at HW
 generalize worksR R = r at *
 obtain ⟨r1, R1⟩ := r
 obtain ⟨room, sure, ch, fuse, down⟩ := R1
 simp only at HF HWK HW hlen HBS HBC
 go_enter Tryz.func125, Tryz.ntmps125
 go_upto_region 1 with fail
 generalize (w.alloc (.cells #[.int .i64 R.room, .slice a R.sure.length c, .slice x R.ch.length y, .int .i64 R.fuse, .bool R.down] 123)).alloc (.cells #[.int .i64 0, .slice none 0 0, .slice none 0 0, .int .i64 0, .bool false] 123) = w1 at *
 go_upto_region 2 with (go_at_call 173; refine (HW.out _).mono ?_; rintro en w2 ⟨rfl, hb2⟩; have h2 := H1.out.below hb2; have g0 := h2.free 1 rfl 0; have g1 := h2.free 1 rfl 1; have g2 := h2.free 1 rfl 2; have g3 := h2.free 1 rfl 3; have g4 := h2.free 1 rfl 4; have d0 := h2.cell 1 rfl 0 rfl; have d1 := h2.cell 1 rfl 1 rfl; have d2 := h2.cell 1 rfl 2 rfl; have d3 := h2.cell 1 rfl 3 rfl; have d4 := h2.cell 1 rfl 4 rfl; have l0 := h2.lt 1 rfl)
 have H3 := Zh (sep_set5 h2 1 rfl (.int .i64 room) (.slice a sure.length c) (.slice x ch.length y) (.int .i64 fuse) (.bool down))
 clear HW H1 hb2 h2 g0 g1 g2 g3 g4 d0 d1 d2 d3 d4 l0
 generalize (((((w2.setCell ⟨w.heap.size, 0, none⟩ (.int .i64 room)).setCell ⟨w.heap.size, 1, none⟩ (.slice a sure.length c)).setCell ⟨w.heap.size, 2, none⟩ (.slice x ch.length y)).setCell ⟨w.heap.size, 3, none⟩ (.int .i64 fuse)).setCell ⟨w.heap.size, 4, none⟩ (.bool down)) = w3 at *
 have d0 := H3.out.cell 0 rfl 0 rfl; have d1 := H3.out.cell 0 rfl 1 rfl; have d2 := H3.out.cell 0 rfl 2 rfl; have d3 := H3.out.cell 0 rfl 3 rfl; have d4 := H3.out.cell 0 rfl 4 rfl; have e0 := H3.out.cell 1 rfl 0 rfl; have e1 := H3.out.cell 1 rfl 1 rfl; have e2 := H3.out.cell 1 rfl 2 rfl; have e3 := H3.out.cell 1 rfl 3 rfl; have e4 := H3.out.cell 1 rfl 4 rfl; have f0 := H3.out.free 1 rfl 0; have f1 := H3.out.free 1 rfl 1; have f2 := H3.out.free 1 rfl 2; have f3 := H3.out.free 1 rfl 3; have f4 := H3.out.free 1 rfl 4; have l0 := H3.out.lt 0 rfl; have l1 := H3.out.lt 1 rfl
 by_cases hr : r1 = 0
 rotate_left
 ·have hr' : ((r1 : Int) == 0) = false := beq_eq_false_iff_ne.2 (by omega)
  have HR := Zh (HF.out.trans (if_pos hr))
  clear HF
  go_wp2_with fail
  have HE := Zh (sep_set5 (H3.out) 1 rfl (.int .i64 room) (.slice a sure.length c) (.slice x ch.length y) (.int .i64 fuse) (.bool down))
  refine bodyPost_ret (v := .tuple #[.agg #[.int .i64 room, .slice a sure.length c, .slice x ch.length y, .int .i64 fuse, .bool down], .int .i64 (r1 : Nat)]) (by simp [results, Tryz.results125, go_sem, e0, e1, e2, e3, e4, f0, f1, f2, f3, f4, l1]) rfl ?_
  rw [HR.out]
  exact ⟨a, c, x, y, rfl, HWK.out.below HE.out.toBelow, HE.out.toBelow⟩
 subst hr
 have HF1 := Zh (HF.out.trans (if_neg (by simp)))
 clear HF
 have hsz := strOf_size d
 cases hq : named n with
 | false =>
  have HR := Zh (HF1.out.trans (if_pos hq))
  go_wp2_with (go_at_call 174; refine (rnamed_any n _ hn).mono ?_; rintro en wz ⟨rfl, rfl⟩; rw [hq])
  have HE := Zh (sep_set5 (H3.out) 1 rfl (.int .i64 room) (.slice a sure.length c) (.slice x ch.length y) (.int .i64 fuse) (.bool down))
  refine bodyPost_ret (v := .tuple #[.agg #[.int .i64 room, .slice a sure.length c, .slice x ch.length y, .int .i64 fuse, .bool down], .int .i64 2]) (by simp [results, Tryz.results125, go_sem, e0, e1, e2, e3, e4, f0, f1, f2, f3, f4, l1]) rfl ?_
  rw [HR.out]
  exact ⟨a, c, x, y, rfl, HWK.out.below HE.out.toBelow, HE.out.toBelow⟩
 | true =>
  have HF2 := Zh (HF1.out.trans (if_neg (by rw [hq]; decide)))
  clear HF1
  by_cases hlong : 65536 < d.length
  ·have HR := Zh (HF2.out.trans (if_pos hlong))
   have hlong' : (65536 : Int) < (d.length : Int) := by omega
   clear HF2
   go_wp2_with (go_at_call 174; refine (rnamed_any n _ hn).mono ?_; rintro en wz ⟨rfl, rfl⟩; rw [hq])
   have HE := Zh (sep_set5 (H3.out) 1 rfl (.int .i64 room) (.slice a sure.length c) (.slice x ch.length y) (.int .i64 fuse) (.bool down))
   refine bodyPost_ret (v := .tuple #[.agg #[.int .i64 room, .slice a sure.length c, .slice x ch.length y, .int .i64 fuse, .bool down], .int .i64 3]) (by simp [results, Tryz.results125, go_sem, e0, e1, e2, e3, e4, f0, f1, f2, f3, f4, l1]) rfl ?_
   rw [HR.out]
   exact ⟨a, c, x, y, rfl, HWK.out.below HE.out.toBelow, HE.out.toBelow⟩
  ·have HF3 := Zh (HF2.out.trans (if_neg hlong))
   have hlong' : ¬ (65536 : Int) < (d.length : Int) := by omega
   clear HF2
   have HDA := Zh (show ∀ p ∈ (shownR ⟨room, sure, ch ++ [⟨0, n, ⟨#[]⟩, d⟩], fuse, down⟩), p.2.length ≤ 65536 from allR_data _ HBS.out (fun z hz => by
    rcases List.mem_append.1 hz with hz | hz
    ·exact HBC.out z hz
    ·rw [List.mem_singleton.1 hz]; show d.length ≤ 65536; omega))
   have hal : (shownR ⟨room, sure, ch ++ [⟨0, n, ⟨#[]⟩, d⟩], fuse, down⟩).length ≤ 4194302 := by
    have := allR_len (ch ++ [⟨0, n, ⟨#[]⟩, d⟩]) sure
    rw [List.length_append, List.length_singleton] at this
    show (allR sure (ch ++ [⟨0, n, ⟨#[]⟩, d⟩])).length ≤ _; omega
   go_upto_region 9 with (first | (go_at_call 174; refine (rnamed_any n _ hn).mono ?_; rintro en wz ⟨rfl, rfl⟩; rw [hq]) | (go_at_call 176; refine (radd_any (KO K w.heap.size) ⟨room, sure, ch, fuse, down⟩ a c x y ⟨0, n, ⟨#[]⟩, d⟩ _ (KO.lt HK.out l1) ((KO.more HWK.out).below H3.out.toBelow) (by show ch.length ≤ _; omega)).mono ?_; rintro en w5 ⟨a5, c5, x5, y5, rfl, hk5, hb5⟩; simp only [addR]; have h5 := H3.out.below hb5; have d0 := h5.cell 0 rfl 0 rfl; have d1 := h5.cell 0 rfl 1 rfl; have d2 := h5.cell 0 rfl 2 rfl; have d3 := h5.cell 0 rfl 3 rfl; have d4 := h5.cell 0 rfl 4 rfl; have e0 := h5.cell 1 rfl 0 rfl; have e1 := h5.cell 1 rfl 1 rfl; have e2 := h5.cell 1 rfl 2 rfl; have e3 := h5.cell 1 rfl 3 rfl; have e4 := h5.cell 1 rfl 4 rfl; have f0 := h5.free 1 rfl 0; have f1 := h5.free 1 rfl 1; have f2 := h5.free 1 rfl 2; have f3 := h5.free 1 rfl 3; have f4 := h5.free 1 rfl 4; have l0 := h5.lt 0 rfl; have l1 := h5.lt 1 rfl))
   have HF4 := Zh (show writeR R n d = if 512 < (shownR ⟨room, sure, ch ++ [⟨0, n, ⟨#[]⟩, d⟩], fuse, down⟩).length ∨ room < (usedF (shownR ⟨room, sure, ch ++ [⟨0, n, ⟨#[]⟩, d⟩], fuse, down⟩) : Int) then (5, ⟨room, sure, ch, fuse, down⟩) else (0, ⟨room, sure, ch ++ [⟨0, n, ⟨#[]⟩, d⟩], fuse, down⟩) from HF3.out)
   clear HF3
   have h6 := h5.allocAt w5.heap.size [.int .i64 room, .slice a5 sure.length c5, .slice x5 (ch.length + 1) y5, .int .i64 fuse, .bool down] 123 rfl
   have hk6 : RdkK (KO K w.heap.size) (w5.alloc (.cells #[.int .i64 room, .slice a5 sure.length c5, .slice x5 (ch.length + 1) y5, .int .i64 fuse, .bool down] 123)) ⟨room, sure, ch ++ [⟨0, n, ⟨#[]⟩, d⟩], fuse, down⟩ a5 c5 x5 y5 := RdkK.below hk5 ((Below.refl _ _).alloc (Nat.le_refl _) _)
   clear d0 d1 d2 d3 d4 e0 e1 e2 e3 e4 f0 f1 f2 f3 f4 l0 l1 hk5 hb5 h5
   generalize w5.alloc (.cells #[.int .i64 room, .slice a5 sure.length c5, .slice x5 (ch.length + 1) y5, .int .i64 fuse, .bool down] 123) = w6 at *
   generalize w5.heap.size = N9 at *
   have c0 := h6.cell 0 rfl 0 rfl; have c1 := h6.cell 0 rfl 1 rfl; have c2 := h6.cell 0 rfl 2 rfl; have c3 := h6.cell 0 rfl 3 rfl; have c4 := h6.cell 0 rfl 4 rfl; have lN := h6.lt 0 rfl
   have HSH := Zh (rshown_any (KO K w.heap.size) ⟨room, sure, ch ++ [⟨0, n, ⟨#[]⟩, d⟩], fuse, down⟩ a5 c5 x5 y5 w6 (KO.lt HK.out (h6.lt 2 rfl)) hk6 (by show sure.length + (ch ++ [(⟨0, n, ⟨#[]⟩, d⟩ : Chg)]).length ≤ _; rw [List.length_append, List.length_singleton]; omega))
   have hxl : (ch ++ [(⟨0, n, ⟨#[]⟩, d⟩ : Chg)]).length = ch.length + 1 := by rw [List.length_append, List.length_singleton]
   simp only [rdkV, hxl] at HSH
   generalize (shownR ⟨room, sure, ch ++ [⟨0, n, ⟨#[]⟩, d⟩], fuse, down⟩) = S at *
   go_upto_region 10 with (go_at_call 172; refine HSH.out.mono ?_; rintro en w7 ⟨a7, c7, rfl, hs7, hb7⟩)
   have h7 := Zh (h6.below hb7)
   have hk7 := hk6.below hb7
   clear HSH h6 hk6 hb7 c0 c1 c2 c3 c4 lN
   have d0 := h7.out.cell 1 rfl 0 rfl; have d1 := h7.out.cell 1 rfl 1 rfl; have d2 := h7.out.cell 1 rfl 2 rfl; have d3 := h7.out.cell 1 rfl 3 rfl; have d4 := h7.out.cell 1 rfl 4 rfl; have e0 := h7.out.cell 2 rfl 0 rfl; have e1 := h7.out.cell 2 rfl 1 rfl; have e2 := h7.out.cell 2 rfl 2 rfl; have e3 := h7.out.cell 2 rfl 3 rfl; have e4 := h7.out.cell 2 rfl 4 rfl; have f0 := h7.out.free 2 rfl 0; have f1 := h7.out.free 2 rfl 1; have f2 := h7.out.free 2 rfl 2; have f3 := h7.out.free 2 rfl 3; have f4 := h7.out.free 2 rfl 4; have l0 := h7.out.lt 1 rfl; have l1 := h7.out.lt 2 rfl; have c0 := h7.out.cell 0 rfl 0 rfl; have c1 := h7.out.cell 0 rfl 1 rfl; have c2 := h7.out.cell 0 rfl 2 rfl; have c3 := h7.out.cell 0 rfl 3 rfl; have c4 := h7.out.cell 0 rfl 4 rfl; have lN := h7.out.lt 0 rfl
   by_cases hbig : 512 < S.length
   ·have HR := Zh (HF4.out.trans (if_pos (.inl hbig)))
    have hbig' : (512 : Int) < (S.length : Int) := by omega
    clear HF4
    refine startD (S := (fun w' => Below w7.heap.size w7 w' ∧ w'.cell? ⟨w.heap.size, 0, none⟩ = some (.int .i64 room) ∧ w.heap.size < w'.heap.size)) (by kernel_rfl) ⟨(Below.refl _ _).drew, d0, l0⟩ (fun hH0 => ?_)
    simp only [List.length_cons, List.length_nil, Nat.reduceAdd, List.replicate_succ, List.replicate_zero]
    refine tD 0 35 (.slice a7 S.length c7) rfl rfl [(10, .slice a7 S.length c7)] hH0 ?_
    dsimp only [sZ, sS]
    refine tD 1 36 (.int .i64 (S.length : Nat)) rfl rfl [(35, .slice a7 S.length c7)] hH0 ?_
    dsimp only [sZ, sS]
    refine tD 2 37 (.bool true) rfl rfl [(36, .int .i64 (S.length : Nat))] hH0 ?_
    dsimp only [sZ, sS]
    refine tD 3 38 (.bool true) rfl rfl [(37, .bool true)] hH0 ?_
    dsimp only [sZ, sS]
    refine takeD (i := 4) (d := 39) (v := undef) rfl rfl (by kernel_rfl) (by kernel_rfl) (by kernel_rfl) (fun _ _ _ h => h) (Or.inr ⟨by kernel_rfl, rfl⟩) hH0 ?_
    dsimp only [sZ, sS]
    refine takeD (i := 5) (d := 40) (v := undef) rfl rfl (by kernel_rfl) (by kernel_rfl) (by kernel_rfl) (fun _ _ _ h => h) (Or.inr ⟨by kernel_rfl, rfl⟩) hH0 ?_
    dsimp only [sZ, sS]
    refine takeD (i := 6) (d := 41) (v := undef) rfl rfl (by kernel_rfl) (by kernel_rfl) (by kernel_rfl) (fun _ _ _ h => h) (Or.inr ⟨by kernel_rfl, rfl⟩) hH0 ?_
    dsimp only [sZ, sS]
    refine takeD (i := 7) (d := 42) (v := undef) rfl rfl (by kernel_rfl) (by kernel_rfl) (by kernel_rfl) (fun _ _ _ h => h) (Or.inr ⟨by kernel_rfl, rfl⟩) hH0 ?_
    dsimp only [sZ, sS]
    refine takeD (i := 8) (d := 43) (v := undef) rfl rfl (by kernel_rfl) (by kernel_rfl) (by kernel_rfl) (fun _ _ _ h => h) (Or.inr ⟨by kernel_rfl, rfl⟩) hH0 ?_
    dsimp only [sZ, sS]
    refine tD 9 44 (.bool true) rfl rfl [(38, .bool true), (43, undef)] hH0 ?_
    dsimp only [sZ, sS]
    refine wpAnyH_done (by kernel_rfl) ?_ _
    have h8 := h7.out.drew
    have hk8 := RdkK.below hk7 (Below.refl _ _).drew
    clear h7 hk7 hs7 hH0 c0 c1 c2 c3 c4 lN d0 d1 d2 d3 d4 e0 e1 e2 e3 e4 f0 f1 f2 f3 f4 l0 l1
    try clear hH1
    generalize w7.drew = w8 at *
    have d0 := h8.cell 1 rfl 0 rfl; have d1 := h8.cell 1 rfl 1 rfl; have d2 := h8.cell 1 rfl 2 rfl; have d3 := h8.cell 1 rfl 3 rfl; have d4 := h8.cell 1 rfl 4 rfl; have e0 := h8.cell 2 rfl 0 rfl; have e1 := h8.cell 2 rfl 1 rfl; have e2 := h8.cell 2 rfl 2 rfl; have e3 := h8.cell 2 rfl 3 rfl; have e4 := h8.cell 2 rfl 4 rfl; have f0 := h8.free 2 rfl 0; have f1 := h8.free 2 rfl 1; have f2 := h8.free 2 rfl 2; have f3 := h8.free 2 rfl 3; have f4 := h8.free 2 rfl 4; have l0 := h8.lt 1 rfl; have l1 := h8.lt 2 rfl
    go_wp2_with fail
    have HE := Zh (sep_set5 (h8) 2 rfl (.int .i64 room) (.slice a sure.length c) (.slice x ch.length y) (.int .i64 fuse) (.bool down))
    refine bodyPost_ret (v := .tuple #[.agg #[.int .i64 room, .slice a sure.length c, .slice x ch.length y, .int .i64 fuse, .bool down], .int .i64 5]) (by simp [results, Tryz.results125, go_sem, e0, e1, e2, e3, e4, f0, f1, f2, f3, f4, l1]) rfl ?_
    rw [HR.out]
    exact ⟨a, c, x, y, rfl, HWK.out.below HE.out.toBelow, HE.out.toBelow⟩
   have hbig' : ¬ (512 : Int) < (S.length : Int) := by omega
   by_cases hroom : room < (usedF S : Int)
   ·have HR := Zh (HF4.out.trans (if_pos (.inr hroom)))
    clear HF4
    refine startD (S := (fun w' => Below w7.heap.size w7 w' ∧ w'.cell? ⟨w.heap.size, 0, none⟩ = some (.int .i64 room) ∧ w.heap.size < w'.heap.size)) (by kernel_rfl) ⟨(Below.refl _ _).drew, d0, l0⟩ (fun hH0 => ?_)
    simp only [List.length_cons, List.length_nil, Nat.reduceAdd, List.replicate_succ, List.replicate_zero]
    refine tD 0 35 (.slice a7 S.length c7) rfl rfl [(10, .slice a7 S.length c7)] hH0 ?_
    dsimp only [sZ, sS]
    refine tD 1 36 (.int .i64 (S.length : Nat)) rfl rfl [(35, .slice a7 S.length c7)] hH0 ?_
    dsimp only [sZ, sS]
    refine tD 2 37 (.bool false) rfl rfl [(36, .int .i64 (S.length : Nat))] hH0 ?_
    dsimp only [sZ, sS]
    refine tD 3 38 (.bool false) rfl rfl [(37, .bool false)] hH0 ?_
    dsimp only [sZ, sS]
    refine tD 4 39 (.slice a7 S.length c7) rfl rfl [(10, .slice a7 S.length c7)] hH0 ?_
    dsimp only [sZ, sS]
    refine tD 6 41 (.pointer (some ⟨w.heap.size, 0, none⟩)) rfl rfl [(3, .pointer (some ⟨w.heap.size, 0, none⟩))] hH0 ?_
    dsimp only [sZ, sS]
    refine tD 7 42 (.int .i64 room) rfl rfl [(41, .pointer (some ⟨w.heap.size, 0, none⟩))] hH0 ?_
    dsimp only [sZ, sS]
    refine rD 5 rfl (fun K hK => ?_)
    go_simp
    refine (rused_any S a7 c7 _ (FsW.below hs7.1 hH0.1) HDA.out (by omega)).mono ?_
    rintro en wz ⟨rfl, rfl⟩
    refine hK.out _ _ ?_ (fun hH1 => ?_)
    ·exact hH0
    clear hK K
    try simp only [Act.put, gA, gZ, gS, sA, sZ, sS]
    refine tD 8 43 (.bool true) rfl rfl [(40, .int .i64 (usedF S : Nat)), (42, .int .i64 room)] hH1 ?_
    dsimp only [sZ, sS]
    refine tD 9 44 (.bool true) rfl rfl [(38, .bool false), (43, .bool true)] hH1 ?_
    dsimp only [sZ, sS]
    refine wpAnyH_done (by kernel_rfl) ?_ _
    have h8 := h7.out.drew
    have hk8 := RdkK.below hk7 (Below.refl _ _).drew
    clear h7 hk7 hs7 hH0 c0 c1 c2 c3 c4 lN d0 d1 d2 d3 d4 e0 e1 e2 e3 e4 f0 f1 f2 f3 f4 l0 l1
    try clear hH1
    generalize w7.drew = w8 at *
    have d0 := h8.cell 1 rfl 0 rfl; have d1 := h8.cell 1 rfl 1 rfl; have d2 := h8.cell 1 rfl 2 rfl; have d3 := h8.cell 1 rfl 3 rfl; have d4 := h8.cell 1 rfl 4 rfl; have e0 := h8.cell 2 rfl 0 rfl; have e1 := h8.cell 2 rfl 1 rfl; have e2 := h8.cell 2 rfl 2 rfl; have e3 := h8.cell 2 rfl 3 rfl; have e4 := h8.cell 2 rfl 4 rfl; have f0 := h8.free 2 rfl 0; have f1 := h8.free 2 rfl 1; have f2 := h8.free 2 rfl 2; have f3 := h8.free 2 rfl 3; have f4 := h8.free 2 rfl 4; have l0 := h8.lt 1 rfl; have l1 := h8.lt 2 rfl
    go_wp2_with fail
    have HE := Zh (sep_set5 (h8) 2 rfl (.int .i64 room) (.slice a sure.length c) (.slice x ch.length y) (.int .i64 fuse) (.bool down))
    refine bodyPost_ret (v := .tuple #[.agg #[.int .i64 room, .slice a sure.length c, .slice x ch.length y, .int .i64 fuse, .bool down], .int .i64 5]) (by simp [results, Tryz.results125, go_sem, e0, e1, e2, e3, e4, f0, f1, f2, f3, f4, l1]) rfl ?_
    rw [HR.out]
    exact ⟨a, c, x, y, rfl, HWK.out.below HE.out.toBelow, HE.out.toBelow⟩
   ·have HR := Zh (HF4.out.trans (if_neg (by rintro (h | h); exact hbig h; exact hroom h)))
    clear HF4
    refine startD (S := (fun w' => Below w7.heap.size w7 w' ∧ w'.cell? ⟨w.heap.size, 0, none⟩ = some (.int .i64 room) ∧ w.heap.size < w'.heap.size)) (by kernel_rfl) ⟨(Below.refl _ _).drew, d0, l0⟩ (fun hH0 => ?_)
    simp only [List.length_cons, List.length_nil, Nat.reduceAdd, List.replicate_succ, List.replicate_zero]
    refine tD 0 35 (.slice a7 S.length c7) rfl rfl [(10, .slice a7 S.length c7)] hH0 ?_
    dsimp only [sZ, sS]
    refine tD 1 36 (.int .i64 (S.length : Nat)) rfl rfl [(35, .slice a7 S.length c7)] hH0 ?_
    dsimp only [sZ, sS]
    refine tD 2 37 (.bool false) rfl rfl [(36, .int .i64 (S.length : Nat))] hH0 ?_
    dsimp only [sZ, sS]
    refine tD 3 38 (.bool false) rfl rfl [(37, .bool false)] hH0 ?_
    dsimp only [sZ, sS]
    refine tD 4 39 (.slice a7 S.length c7) rfl rfl [(10, .slice a7 S.length c7)] hH0 ?_
    dsimp only [sZ, sS]
    refine tD 6 41 (.pointer (some ⟨w.heap.size, 0, none⟩)) rfl rfl [(3, .pointer (some ⟨w.heap.size, 0, none⟩))] hH0 ?_
    dsimp only [sZ, sS]
    refine tD 7 42 (.int .i64 room) rfl rfl [(41, .pointer (some ⟨w.heap.size, 0, none⟩))] hH0 ?_
    dsimp only [sZ, sS]
    refine rD 5 rfl (fun K hK => ?_)
    go_simp
    refine (rused_any S a7 c7 _ (FsW.below hs7.1 hH0.1) HDA.out (by omega)).mono ?_
    rintro en wz ⟨rfl, rfl⟩
    refine hK.out _ _ ?_ (fun hH1 => ?_)
    ·exact hH0
    clear hK K
    try simp only [Act.put, gA, gZ, gS, sA, sZ, sS]
    refine tD 8 43 (.bool false) rfl rfl [(40, .int .i64 (usedF S : Nat)), (42, .int .i64 room)] hH1 ?_
    dsimp only [sZ, sS]
    refine tD 9 44 (.bool false) rfl rfl [(38, .bool false), (43, .bool false)] hH1 ?_
    dsimp only [sZ, sS]
    refine wpAnyH_done (by kernel_rfl) ?_ _
    have h8 := h7.out.drew
    have hk8 := RdkK.below hk7 (Below.refl _ _).drew
    clear h7 hk7 hs7 hH0 c0 c1 c2 c3 c4 lN d0 d1 d2 d3 d4 e0 e1 e2 e3 e4 f0 f1 f2 f3 f4 l0 l1
    try clear hH1
    generalize w7.drew = w8 at *
    have d0 := h8.cell 1 rfl 0 rfl; have d1 := h8.cell 1 rfl 1 rfl; have d2 := h8.cell 1 rfl 2 rfl; have d3 := h8.cell 1 rfl 3 rfl; have d4 := h8.cell 1 rfl 4 rfl; have e0 := h8.cell 2 rfl 0 rfl; have e1 := h8.cell 2 rfl 1 rfl; have e2 := h8.cell 2 rfl 2 rfl; have e3 := h8.cell 2 rfl 3 rfl; have e4 := h8.cell 2 rfl 4 rfl; have f0 := h8.free 2 rfl 0; have f1 := h8.free 2 rfl 1; have f2 := h8.free 2 rfl 2; have f3 := h8.free 2 rfl 3; have f4 := h8.free 2 rfl 4; have l0 := h8.lt 1 rfl; have l1 := h8.lt 2 rfl; have c0 := h8.cell 0 rfl 0 rfl; have c1 := h8.cell 0 rfl 1 rfl; have c2 := h8.cell 0 rfl 2 rfl; have c3 := h8.cell 0 rfl 3 rfl; have c4 := h8.cell 0 rfl 4 rfl; have lN := h8.lt 0 rfl
    go_wp2_with fail
    have HE := Zh (sep_set5 (h8) 2 rfl (.int .i64 room) (.slice a5 sure.length c5) (.slice x5 (ch.length + 1) y5) (.int .i64 fuse) (.bool down))
    refine bodyPost_ret (v := .tuple #[.agg #[.int .i64 room, .slice a5 sure.length c5, .slice x5 (ch.length + 1) y5, .int .i64 fuse, .bool down], .int .i64 0]) (by simp [results, Tryz.results125, go_sem, e0, e1, e2, e3, e4, f0, f1, f2, f3, f4, l1]) rfl ?_
    rw [HR.out]
    exact ⟨a5, c5, x5, y5, by simp, KO.set1 hk8 _ _ _ _ _, HE.out.toBelow⟩
end DK
end Go.Proofs.YtpckcpmohcianaaGreatDoor

namespace Go.Proofs.YtpckcpmohcianaaGreatDoor
open Go.RowKit
namespace DK
set_option maxHeartbeats 4000000 in
theorem rread_any (K : Nat → Prop) (R : Rk) (a : Option Addr) (c : Nat) (x : Option Addr) (y : Nat) (n : Nm) (w : World) (hK : ∀ b, K b → b < w.heap.size) (h : RdkK K w R a c x y) (hl : R.sure.length + R.ch.length ≤ 4194300) :
  Calls Tryz.prog 112 #[rdkV R a c x y, .string n] w fun en w' => en = .returned (.tuple #[.string (strOf (readR R n).2), .int .i64 ((readR R n).1 : Nat)]) ∧ Below w.heap.size w w' := by
 obtain ⟨room, sure, ch, fuse, down⟩ := R
 simp only at hl ⊢
 have h1 := (Sep.start w).allocAt w.heap.size [.int .i64 room, .slice a sure.length c, .slice x ch.length y, .int .i64 fuse, .bool down] 123 rfl
 cases down with
 | true =>
  have HR := Zh (show readR ⟨room, sure, ch, fuse, true⟩ n = (14, []) from rfl)
  clear h hK
  go_enter Tryz.func112, Tryz.ntmps112
  go_wp2_with fail
  go_ret2
  rw [HR.out]
  exact ⟨rfl, h1.toBelow⟩
 | false =>
  have HR := Zh (show readR ⟨room, sure, ch, fuse, false⟩ n = (match getF (shownR ⟨room, sure, ch, fuse, false⟩) n with | some d => (0, d) | none => (4, [])) from rfl)
  have HSH := Zh (rshown_any K ⟨room, sure, ch, fuse, false⟩ a c x y _ (fun b hb => Nat.lt_of_lt_of_le (hK b hb) h1.toBelow.size) (h.below h1.toBelow) (by show sure.length + ch.length ≤ _; omega))
  have d0 := h1.cell 0 rfl 0 rfl; have d1 := h1.cell 0 rfl 1 rfl; have d2 := h1.cell 0 rfl 2 rfl; have d3 := h1.cell 0 rfl 3 rfl; have d4 := h1.cell 0 rfl 4 rfl; have l0 := h1.lt 0 rfl
  have HB1 := Lib.hid' h1.toBelow
  clear h hK h1
  have HG := Zh (find_get (shownR ⟨room, sure, ch, fuse, false⟩) n)
  generalize shownR ⟨room, sure, ch, fuse, false⟩ = S at *
  go_enter Tryz.func112, Tryz.ntmps112
  rcases HG.out with ⟨h6, hfi⟩ | ⟨i, hi, hfi, h6⟩
  ·rw [h6] at HR
   go_wp2_with (first | (go_at_call 172; refine HSH.out.mono ?_; rintro en w4 ⟨a4, c4, rfl, hs4, hb4⟩) | (go_at_call 175; refine (rfind_any S a4 c4 n _ hs4.1).mono ?_; rintro en wz ⟨rfl, rfl⟩; rw [hfi]))
   go_ret2
   rw [HR.out]
   exact ⟨rfl, HB1.out.trans (hb4.mono HB1.out.size)⟩
  ·rw [h6] at HR
   have hi0 : (0 : Int) ≤ i := by omega
   have hi1 : (i : Int) < (S.length : Int) := by omega
   go_wp2_with (first | (go_at_call 172; refine HSH.out.mono ?_; rintro en w4 ⟨a4, c4, rfl, hs4, hb4⟩; obtain ⟨bb, off, rfl, hbb, q0, q1⟩ := FsW.get hs4.1 hi) | (go_at_call 175; refine (rfind_any S _ c4 n _ hs4.1).mono ?_; rintro en wz ⟨rfl, rfl⟩; rw [hfi]))
   go_ret2
   rw [HR.out]
   exact ⟨rfl, HB1.out.trans (hb4.mono HB1.out.size)⟩
def newR (room : Int) : Nat × Rk := if room < 0 ∨ 1073741824 < room then (1, ⟨0, [], [], 0, false⟩) else (0, ⟨room, [], [], -1, false⟩)
set_option maxHeartbeats 4000000 in
theorem rnew_any (room : Int) (w : World) :
  Calls Tryz.prog 50 #[.int .i64 room] w fun en w' => en = .returned (.tuple #[rdkV (newR room).2 none 0 none 0, .int .i64 ((newR room).1 : Nat)]) ∧ Below w.heap.size w w' := by
 unfold newR
 by_cases h0 : room < 0
 ·rw [if_pos (.inl h0)]
  go_enter Tryz.func50, Tryz.ntmps50
  go_wp2
  refine bodyPost_ret (v := .tuple #[.agg #[.int .i64 0, .slice none 0 0, .slice none 0 0, .int .i64 0, .bool false], .int .i64 1]) (by simp [results, Tryz.results50, go_sem]) rfl ?_
  exact ⟨rfl, by go_grown⟩
 ·by_cases h1 : 1073741824 < room
  ·rw [if_pos (.inr h1)]
   go_enter Tryz.func50, Tryz.ntmps50
   go_wp2
   refine bodyPost_ret (v := .tuple #[.agg #[.int .i64 0, .slice none 0 0, .slice none 0 0, .int .i64 0, .bool false], .int .i64 1]) (by simp [results, Tryz.results50, go_sem]) rfl ?_
   exact ⟨rfl, by go_grown⟩
  ·rw [if_neg (by omega)]
   go_enter Tryz.func50, Tryz.ntmps50
   go_wp2
   refine bodyPost_ret (v := .tuple #[.agg #[.int .i64 room, .slice none 0 0, .slice none 0 0, .int .i64 (-1), .bool false], .int .i64 0]) (by simp [results, Tryz.results50, go_sem]) rfl ?_
   exact ⟨rfl, by go_grown⟩
end DK
end Go.Proofs.YtpckcpmohcianaaGreatDoor

namespace Go.Proofs.YtpckcpmohcianaaGreatDoor
open Go.RowKit
namespace DK
def rnL (R : Rk) : Nat × List Nm := if R.down = true then (14, []) else (0, namesR R)
def RNamesR (p : Nat × List Nm) (w : World) (en : Ending) (w' : World) : Prop := ∃ a c, en = .returned (.tuple #[.slice a p.2.length c, .int .i64 (p.1 : Nat)]) ∧ w'.ownsRow w.heap.size 9 1 (.slice a p.2.length c) p.2.length (strVs p.2) ∧ Below w.heap.size w w'
theorem strVs_snoc (l : List Nm) (n : Nm) : strVs (l ++ [n]) = strVs l ++ [.string n] := by unfold strVs; rw [List.map_append]; rfl
abbrev rO (oa : Option Addr) (k oc : Nat) : Nat → Prop := fun b => (Value.slice oa k oc).ownBlock = some b
theorem RowK.grow {oa oa' : Option Addr} {k oc k' oc' e size : Nat} {xs : List Value} {w w' : World} {v : Value} {n : Nat} {cs : List Value} {G : Nat → Prop} (h : RowK (rO oa k oc) w v n cs) (H : Sep w G [.row e size (.slice oa' k' oc') k' xs] w') (hG : ∀ b, G b → rO oa k oc b) : RowK (rO oa' k' oc') w' v n cs := by
 have h1 : RowK (fun b => rO oa k oc b ∨ rO oa' k' oc' b) w v n cs := h.more (fun b hb => by
  rcases hb with hb | hb
  ·exact .inl hb
  ·rcases H.new _ (List.mem_singleton.2 rfl) b hb with h1 | h1
   ·exact .inr h1
   ·exact .inl (hG b h1))
 exact (h1.fr H.fr (fun b hb => .inl (hG b hb))).more (fun b hb => .inl (.inr hb))
set_option maxHeartbeats 4000000 in
theorem rnames_any (K : Nat → Prop) (R : Rk) (a : Option Addr) (c : Nat) (x : Option Addr) (y : Nat) (w : World) (hK : ∀ b, K b → b < w.heap.size) (h : RdkK K w R a c x y) (hl : R.sure.length + R.ch.length ≤ 4194300) :
  Calls Tryz.prog 108 #[rdkV R a c x y] w (RNamesR (rnL R) w) := by
 obtain ⟨room, sure, ch, fuse, down⟩ := R
 simp only at hl ⊢
 have h1 := (Sep.start w).allocAt w.heap.size [.int .i64 room, .slice a sure.length c, .slice x ch.length y, .int .i64 fuse, .bool down] 123 rfl
 cases down with
 | true =>
  have HR := Zh (show rnL ⟨room, sure, ch, fuse, true⟩ = (14, []) from rfl)
  clear h hK
  go_enter Tryz.func108, Tryz.ntmps108
  go_wp2_with fail
  go_ret2
  rw [HR.out]
  exact ⟨none, 0, rfl, own_nil _ _ _ _, h1.toBelow⟩
 | false =>
  have HR := Zh (show rnL ⟨room, sure, ch, fuse, false⟩ = (0, (shownR ⟨room, sure, ch, fuse, false⟩).map (·.1)) from rfl)
  have h2 := h1.newRowAt (w.heap.size + 1) 9 1 (by simp)
  have HSH := Zh (rshown_any (KO K w.heap.size) ⟨room, sure, ch, fuse, false⟩ a c x y _ (KO.lt hK (by simp)) ((KO.more h).below h2.toBelow) (by show sure.length + ch.length ≤ _; omega))
  have hsl : (shownR ⟨room, sure, ch, fuse, false⟩).length ≤ 4194300 := by
   have := allR_len ch sure
   show (allR sure ch).length ≤ _; omega
  have d0 := h2.cell 1 rfl 0 rfl; have d1 := h2.cell 1 rfl 1 rfl; have d2 := h2.cell 1 rfl 2 rfl; have d3 := h2.cell 1 rfl 3 rfl; have d4 := h2.cell 1 rfl 4 rfl; have l0 := h2.lt 1 rfl
  have H2 := Lib.hid' h2
  clear h hK h1 h2
  generalize shownR ⟨room, sure, ch, fuse, false⟩ = S at *
  go_enter Tryz.func108, Tryz.ntmps108
  go_wp2_with (go_at_call 172; refine HSH.out.mono ?_; rintro en w4 ⟨a4, c4, rfl, hs4, hb4⟩)
  have H4 := Zh ((H2.out.below hb4).drop 1)
  have HSV := Zh (show RowK (rO (some ⟨w.heap.size + 1, 0, none⟩) 0 0) w4 (.slice a4 S.length c4) S.length (fvs S) from hs4.more (fun b hb => by
   have e : w.heap.size + 1 = b := by simpa [rO, Value.ownBlock] using hb
   exact .inl (.inr (.inr e.symm))))
  clear hb4 hs4 H2 HSH d0 d1 d2 d3 d4 l0
  go_loopw [4, 13] (fun v4 v13 wr => ∃ (k : Nat) (oa : Option Addr) (oc : Nat), v4 = .slice oa k oc ∧ v13 = .int .i64 k ∧ k ≤ S.length ∧ Hid (Sep w NoF [.row 9 1 (.slice oa k oc) k (strVs ((S.take k).map (·.1)))] wr) ∧ Hid (RowK (rO oa k oc) wr (.slice a4 S.length c4) S.length (fvs S))) (fun _ v13 _ => S.length - (intOf v13).toNat)
  case atStart => exact ⟨0, _, _, rfl, rfl, Nat.zero_le _, H4, HSV⟩
  case round =>
   clear H4 HSV
   obtain ⟨k, oa, oc, rfl, rfl, hk, HS, HV⟩ := hrel
   by_cases hlt : k < S.length
   ·obtain ⟨b, off, rfl, hb, c0, c1⟩ := FsW.get HV.out.1 hlt
    have HTK := Zh (show strVs ((S.take (k + 1)).map (·.1)) = strVs ((S.take k).map (·.1)) ++ [.string S[k].1] by rw [tkS S hlt, List.map_append]; exact strVs_snoc _ _)
    have h1 := (HS.out.allocAt wr.heap.size [.string S[k].1, .string (strOf S[k].2)] 273 rfl)
    have HV1 := Zh (HV.out.below ((Below.refl _ _).alloc (Nat.le_refl _) (.cells #[.string S[k].1, .string (strOf S[k].2)] 273)))
    clear HS HV
    generalize S[k] = z at *
    have e0 := h1.cell 0 rfl 0 rfl; have e1 := h1.cell 0 rfl 1 rfl; have tl := h1.lt 0 rfl
    go_upto_region 7 with fail
    generalize wr.alloc (.cells #[.string z.1, .string (strOf z.2)] 273) = w5 at *
    generalize wr.heap.size = N5 at *
    have ha := Sep.start1 (.row 9 1 (.slice oa k oc) k (strVs ((S.take k).map (·.1)))) (h1.at 1 rfl)
    go_wp2_with (at_builtin; refine Sep.append etStr rfl (.tmp 17) (.tmp 20) rfl [.string z.1] rfl ha 0 rfl rfl rfl (by simp [Value.oneCell']) (by omega) ?_; intro a7 c7 w7 H7)
    rw [← HTK.out] at H7
    have H8 := Zh (show Sep w NoF [.row 9 1 (.slice a7 (k + 1) c7) (k + 1) (strVs ((S.take (k + 1)).map (·.1)))] w7 from ((h1.focus 1 rfl).call1 rfl H7).drop 1)
    have HV8 := Zh (RowK.grow HV1.out H7 (fun b hb => hb))
    clear H7 ha h1 HV1
    go_roundw
    case rel => exact ⟨k + 1, a7, c7, by simp, by go_num, by omega, H8, HV8⟩
    case measure => simp [intOf]; omega
   ·have hkn : k = S.length := by omega
    subst hkn
    have HL := Zh (show rnL ⟨room, sure, ch, fuse, false⟩ = (0, S.map (·.1)) from HR.out)
    go_wp2_with fail
    go_ret2
    rw [HL.out]
    have hml : (S.map (·.1)).length = S.length := List.length_map ..
    have ho := HS.out.own 0 rfl
    rw [List.take_length] at ho
    exact ⟨oa, oc, by simp, by simpa using ho, HS.out.toBelow⟩
end DK
end Go.Proofs.YtpckcpmohcianaaGreatDoor

namespace Go.Proofs.YtpckcpmohcianaaGreatDoor
open Go.RowKit
namespace DK
theorem RkB.mono {m m' : Nat} {R : Rk} (h : RkB m R) (hm : m ≤ m') : RkB m' R := ⟨Nat.le_trans h.few hm, h.sure, h.ch, h.fuse⟩
theorem RkB.works {m : Nat} {R : Rk} (h : RkB m R) : RkB m (worksR R).2 := by
 have h3 := h.fuse
 unfold worksR
 split
 ·exact ⟨h.few, h.sure, h.ch, h.fuse⟩
 ·refine ⟨h.few, h.sure, h.ch, ?_⟩
  show -1 ≤ lower R.fuse ∧ lower R.fuse ≤ _
  unfold lower; split <;> omega
theorem RkB.add {m : Nat} {R : Rk} (h : RkB m R) {c : Chg} (hc : c.d.length ≤ 65536) : RkB (m + 1) (addR R c) := by
 refine ⟨?_, h.sure, fun x hx => ?_, h.fuse⟩
 ·have := h.few
  show R.sure.length + (R.ch ++ [c]).length ≤ _
  rw [List.length_append, List.length_singleton]; omega
 ·rcases List.mem_append.1 hx with hx | hx
  ·exact h.ch x hx
  ·rw [List.mem_singleton.1 hx]; exact hc
theorem RkB.sync {m : Nat} {R : Rk} (h : RkB m R) : RkB m (syncR R).2 := by
 have h1 := h.works
 unfold syncR
 simp only []
 split
 ·exact h1
 ·refine ⟨?_, allR_data _ h1.sure h1.ch, by simp, h1.fuse⟩
  have h2 := h1.few
  have h3 := allR_len (worksR R).2.ch (worksR R).2.sure
  show (allR (worksR R).2.sure (worksR R).2.ch).length + 0 ≤ m
  omega
theorem RkB.remove {m : Nat} {R : Rk} (h : RkB m R) (n : Nm) : RkB (m + 1) (removeR R n).2 := by
 have h1 := h.works
 have h2 := h1.mono (Nat.le_add_right m 1)
 unfold removeR
 simp only []
 split
 ·exact h2
 ·split
  ·exact h2
  ·split
   ·exact h2
   ·exact h1.add (by simp)
theorem RkB.rename {m : Nat} {R : Rk} (h : RkB m R) (f t : Nm) : RkB (m + 1) (renameR R f t).2 := by
 have h1 := h.works
 have h2 := h1.mono (Nat.le_add_right m 1)
 unfold renameR
 simp only []
 split
 ·exact h2
 ·split
  ·exact h2
  ·split
   ·exact h2
   ·exact h1.add (by simp)
theorem RkB.write {m : Nat} {R : Rk} (h : RkB m R) (n : Nm) (d : List UInt8) : RkB (m + 1) (writeR R n d).2 := by
 have h1 := h.works
 have h2 := h1.mono (Nat.le_add_right m 1)
 unfold writeR
 simp only []
 split
 ·exact h2
 ·split
  ·exact h2
  ·split
   ·exact h2
   ·rename_i hd
    split
    ·exact h2
    ·exact h1.add (by show d.length ≤ 65536; omega)
set_option maxHeartbeats 4000000 in
theorem rnamed7_any (n : Nm) (w : World) (hn : n.size ≤ 9223372036854775807) : Calls Tryz.prog 111 #[.string n] w fun e w' => e = .returned (.bool (objNamed n)) ∧ w = w' := by
 go_enter Tryz.func111, Tryz.ntmps111
 go_wp2_with fail
 go_loopw [3] (fun v3 wr => ∃ k : Nat, v3 = .int .i64 k ∧ k ≤ n.size ∧ Hid ((n.data.toList.take k).all (· != 126) = true) ∧ Hid (w = wr)) (fun v3 _ => n.size - (intOf v3).toNat)
 case atStart => exact ⟨0, rfl, Nat.zero_le _, Zh (by simp), Lib.hid' rfl⟩
 case round =>
  obtain ⟨k, rfl, hk, HN, HW⟩ := hrel
  have hww := HW.out
  subst hww
  by_cases hlt : k < n.size
  ·have hlt' : (k : Int) < (n.size : Int) := by omega
   have HTK := Zh (show (n.data.toList.take (k + 1)).all (· != 126) = (n[k] != 126) by
    rw [tkS n.data.toList (by rw [Array.length_toList]; exact hlt), List.all_append, HN.out]
    simp; rfl)
   have HIN := Zh (show (n[k] != 126) = false → objNamed n = false from fun h => by
    unfold objNamed noTilde
    have : n.data.toList.all (· != 126) = false := by
     rw [List.all_eq_false]
     exact ⟨n[k], by rw [show n[k] = n.data.toList[k]'(by rw [Array.length_toList]; exact hlt) from by simp; rfl]; exact List.getElem_mem _, by simp [h]⟩
    simp [this])
   by_cases hb : n[k] = 126
   ·have HR := Zh (HIN.out (by rw [hb]; rfl))
    have g1 : ((n[k].toNat : Int) == 126) = true := by rw [hb]; rfl
    clear HTK HIN hb
    go_wp2_with fail
    go_ret
    rw [HR.out]
    exact ⟨rfl, rfl⟩
   ·have HN2 := Zh (show (n.data.toList.take (k + 1)).all (· != 126) = true by rw [HTK.out]; simpa using hb)
    have g1 : ((n[k].toNat : Int) == 126) = false := beq_eq_false_iff_ne.2 (fun e => hb (UInt8.toNat_inj.1 (show n[k].toNat = 126 by omega)))
    clear HTK HIN hb
    go_wp2_with fail
    go_roundw
    case rel => exact ⟨k + 1, by go_num, by omega, HN2, by first | exact Lib.hid' rfl | exact Lib.hid' trivial⟩
    case measure => simp [intOf]; omega
  ·have hkn : k = n.size := by omega
   have HAL := Zh (show n.data.toList.all (· != 126) = true by have := HN.out; rwa [List.take_of_length_le (by rw [Array.length_toList]; exact (by omega : n.size ≤ k))] at this)
   by_cases h2 : n.size ≤ 20
   ·have HR := Zh (show objNamed n = named n by unfold objNamed noTilde; rw [HAL.out]; simp [h2])
    have h2' : (n.size : Int) ≤ 20 := by omega
    go_wp2_with (go_at_call 174; refine (rnamed_any n _ hn).mono ?_; rintro en wz ⟨rfl, rfl⟩)
    go_ret
    rw [HR.out]
    exact ⟨rfl, rfl⟩
   ·have HR := Zh (show objNamed n = false by unfold objNamed; simp [h2])
    have h2' : ¬ (n.size : Int) ≤ 20 := by omega
    go_wp2_with fail
    go_ret
    rw [HR.out]
    exact ⟨rfl, rfl⟩
set_option maxHeartbeats 4000000 in
theorem rget_any (K : Nat → Prop) (R : Rk) (a : Option Addr) (c : Nat) (x : Option Addr) (y : Nat) (n : Nm) (w : World) (hK : ∀ b, K b → b < w.heap.size) (h : RdkK K w R a c x y) (hl : R.sure.length + R.ch.length ≤ 4194300) (hn : n.size ≤ 9223372036854775807) :
  Calls Tryz.prog 82 #[rdkV R a c x y, .string n] w fun en w' => en = .returned (.tuple #[.string (strOf (getR R n).2), .int .i64 ((getR R n).1 : Nat)]) ∧ Below w.heap.size w w' := by
 have HK := Lib.hid' hK
 have h1 := (Sep.start w).allocAt w.heap.size [.int .i64 R.room, .slice a R.sure.length c, .slice x R.ch.length y, .int .i64 R.fuse, .bool R.down] 123 rfl
 have HRD := Zh (rread_any K R a c x y n _ (fun b hb => Nat.lt_of_lt_of_le (hK b hb) h1.toBelow.size) (h.below h1.toBelow) hl)
 have HB1 := Lib.hid' h1.toBelow
 have d0 := h1.cell 0 rfl 0 rfl; have d1 := h1.cell 0 rfl 1 rfl; have d2 := h1.cell 0 rfl 2 rfl; have d3 := h1.cell 0 rfl 3 rfl; have d4 := h1.cell 0 rfl 4 rfl; have l0 := h1.lt 0 rfl
 clear h hK h1
 cases hq : objNamed n with
 | false =>
  have HR := Zh (show getR R n = (2, []) by unfold getR; rw [if_pos hq])
  go_enter Tryz.func82, Tryz.ntmps82
  go_wp2_with (go_at_call 111; refine (rnamed7_any n _ hn).mono ?_; rintro en wz ⟨rfl, rfl⟩; rw [hq])
  go_ret2
  rw [HR.out]
  exact ⟨rfl, HB1.out⟩
 | true =>
  have HR := Zh (show getR R n = readR R n by unfold getR; rw [if_neg (by rw [hq]; decide)])
  rw [← HR.out] at HRD
  go_enter Tryz.func82, Tryz.ntmps82
  go_wp2_with (first | (go_at_call 111; refine (rnamed7_any n _ hn).mono ?_; rintro en wz ⟨rfl, rfl⟩; rw [hq]) | (go_at_call 112; refine HRD.out.mono ?_; rintro en w4 ⟨rfl, hb4⟩))
  go_ret2
  exact ⟨rfl, HB1.out.trans (hb4.mono HB1.out.size)⟩
end DK
end Go.Proofs.YtpckcpmohcianaaGreatDoor
