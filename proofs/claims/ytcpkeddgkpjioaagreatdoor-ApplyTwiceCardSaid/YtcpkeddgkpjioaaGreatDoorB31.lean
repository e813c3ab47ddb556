/- Proved here: a part of the proof (31 of 34). -/
import Derived.Test.YtcpkeddgkpjioaaGreatDoorB27
import Derived.Test.YtcpkeddgkpjioaaGreatDoorB2
set_option linter.unusedSimpArgs false
set_option linter.unusedVariables false
set_option maxRecDepth 100000
namespace Go.Proofs.YtcpkeddgkpjioaaGreatDoor
open Go.RowKit
/-- an append of one element, wherever that one lies -/
theorem sep_appendAny {P : Program} {t e size bytes : Nat} (T : ElemT P t e size bytes) {w0 w : World} {F : Nat → Prop} {L : List Asn} {ops : Array Oper} {o : Oper} {a : Act} {K : Act → World → Prop} {Q : Exit → Act → World → Prop} {Z : Prop} (hgd : o.guard = none) (s x : Operand)
  (ho : o.op = .call { callee := .builtin .append, args := #[s, x], argTypes := #[t, t] })
  (cs : List Value) {vx : Value} (hX : SlV w vx 1 cs) (hx : a.eval x = vx) (H : Sep w0 F L w) (i : Nat) {v : Value} {n : Nat} {xs : List Value} (hi : L[i]? = some (.row e size v n xs)) (hs : a.eval s = v)
  (hl : cs.length = size) (h1 : ∀ u ∈ cs, u.oneCell' = true) (hbytes : (n + 1) * bytes ≤ 140737488355328)
  (h : ∀ a' c' w', Sep w0 F (.row e size (.slice a' (n + 1) c') (n + 1) (xs ++ cs) :: L.eraseIdx i) w' → K (a.put o.dst (.slice a' (n + 1) c')) w') :
  if Region.wanted o (yielded ops a.tmps) = true then Oper.wp P o a w K Q else Z := by
 have hw : Region.wanted o (yielded ops a.tmps) = true := by simp [Region.wanted, hgd]
 rw [if_pos hw]
 exact wp_append_sep T s x ho H i hi hs 1 cs _ hx hX (by omega) h1 hbytes h
def rearr : List Nat → List Asn → Option (List Asn)
 | [], L => some L
 | i :: is, L => match L[i]? with
  | some A => rearr is (A :: L.eraseIdx i)
  | none => none
theorem Sep.rearr {w0 w : World} {F : Nat → Prop} : ∀ {L L' : List Asn}, Sep w0 F L w → ∀ (is : List Nat), rearr is L = some L' → Sep w0 F L' w
 | L, L', h, [], e => by cases e; exact h
 | L, L', h, i :: is, e => by
  unfold Go.Proofs.YtcpkeddgkpjioaaGreatDoor.rearr at e
  split at e
  ·rename_i A hA
   exact Sep.rearr (h.focus i hA) is e
  ·cases e
theorem kf {w0 w : World} {F : Nat → Prop} {L : List Asn} (H : Sep w0 F L w) (i : Nat) {N t : Nat} {a b : Value} {r : List Value} (hi : L[i]? = some (.box N (a :: b :: r) t)) : w.cell? ⟨N, 0, none⟩ = some a ∧ w.cell? ⟨N, 1, none⟩ = some b ∧ w.frozen? ⟨N, 0, none⟩ = false ∧ w.frozen? ⟨N, 1, none⟩ = false ∧ N < w.heap.size :=
 ⟨H.cell i hi 0 rfl, H.cell i hi 1 rfl, H.free i hi 0, H.free i hi 1, H.lt i hi⟩
theorem slv_box {w0 w : World} {F : Nat → Prop} {L : List Asn} (H : Sep w0 F L w) (i : Nat) {N t : Nat} {v : Value} (hi : L[i]? = some (.box N [v] t)) : SlV w (.slice (some ⟨N, 0, none⟩) 1 1) 1 [v] := by
 refine ⟨_, _, rfl, Nat.le_refl _, by unfold maxLen; decide, (fun h => by cases h), fun j u hj => ⟨_, rfl, ?_⟩⟩
 cases j with
 | zero => simp at hj; subst hj; exact H.cell i hi 0 rfl
 | succ j => simp at hj
theorem sep_ap {P : Program} {t e bytes : Nat} (T : ElemT P t e 1 bytes) {w0 w : World} {F : Nat → Prop} {L : List Asn} {ops : Array Oper} {o : Oper} {a : Act} {K : Act → World → Prop} {Q : Exit → Act → World → Prop} {Z : Prop} (s x : Operand) (j i : Nat) (H : Sep w0 F L w)
  {N tN : Nat} {val : Value} {v : Value} {n : Nat} {xs : List Value} (h : ∀ a' c' w', Sep w0 F (.row e 1 (.slice a' (n + 1) c') (n + 1) (xs ++ [val]) :: L.eraseIdx i) w' → K (a.put o.dst (.slice a' (n + 1) c')) w')
  (hgd : o.guard = none := by rfl) (ho : o.op = .call { callee := .builtin .append, args := #[s, x], argTypes := #[t, t] } := by rfl) (hj : L[j]? = some (.box N [val] tN) := by rfl) (hx : a.eval x = .slice (some ⟨N, 0, none⟩) 1 1 := by rfl) (hi : L[i]? = some (.row e 1 v n xs) := by rfl) (hs : a.eval s = v := by rfl)
  (h1 : val.oneCell' = true := by rfl) (hb : (n + 1) * bytes ≤ 140737488355328 := by omega) : if Region.wanted o (yielded ops a.tmps) = true then Oper.wp P o a w K Q else Z :=
 sep_appendAny T hgd s x ho [val] (slv_box H j hj) hx H i hi hs rfl (by intro u hu; obtain rfl := List.mem_singleton.1 hu; exact h1) hb h
namespace SL
open DK SH SQ
theorem etDisks : ElemT Tryz.prog 75 124 1 8 := ElemT.mk' (z := .pointer none) Tryz.underlying75 (by kernel_rfl) rfl (by decide) (by decide)
theorem etShelves : ElemT Tryz.prog 76 127 1 8 := ElemT.mk' (z := .pointer none) Tryz.underlying76 (by kernel_rfl) rfl (by decide) (by decide)
def newU (room : Int) : Un := ⟨newD room, some ⟨U.new, 0, false⟩⟩
def Cl.grow (M : Cl) (x : Un) : Cl := { M with us := M.us ++ [x] }
def sealA : Ac := ⟨1, 1, 0, []⟩
def Cl.add (M : Cl) (room : Int) : Nat × Cl := if room < 0 ∨ 1073741824 < room then (1, M) else (((M.grow (newU room)).do M.us.length sealA).1, ((M.grow (newU room)).do M.us.length sealA).2.2)
set_option maxHeartbeats 16000000 in
theorem add_any {c : Nat} {M : Cl} {J : CJ} {L : List Asn} {W : World} (room : Int) (w : World) (hp : Pow W) (h : ClAt c M J L W w) (hlen : M.us.length ≤ 8) :
  Calls Tryz.prog 26 #[ptrV c, .int .i64 room] w fun e w' => e = .returned (errV (M.add room).1) ∧ ClAt c (M.add room).2 J L W w' := by
 have HP := Lib.hid' hp
 have HH := Lib.hid' h
 have HA := Zh (show M.add room = if room < 0 ∨ 1073741824 < room then (1, M) else (((M.grow (newU room)).do M.us.length sealA).1, ((M.grow (newU room)).do M.us.length sealA).2.2) from rfl)
 by_cases hr : room < 0 ∨ 1073741824 < room
 ·have HA2 := Zh (HA.out.trans (if_pos hr))
  have HB := Zh (dnew_bad room w hr)
  clear hr h hp
  go_enter Tryz.func26, Tryz.ntmps26
  go_wp2_with fail
  refine HB.out.mono ?_
  rintro e w1 ⟨rfl, rfl⟩
  rw [errV_pos (by decide)]
  go_wp2_with fail
  go_ret
  rw [HA2.out]
  exact ⟨rfl, HH.out⟩
 have HA2 := Zh (HA.out.trans (if_neg hr))
 have HR := Zh (show 0 ≤ room ∧ room ≤ 1073741824 by omega)
 have HDN := Zh (dnew_any room w HR.out)
 clear hr hp
 obtain ⟨⟨b, dv, sv, Us, J2, Z0, vs⟩, hJ, hP, H⟩ := h
 subst hJ
 have HPO := Lib.hid' hP
 have hUl : Us.length = M.us.length := by rw [← hP.us, List.length_map]
 have H0 := Zh (show Sep W NoF (.box c [dv, sv, .int .i64 M.p.e, .slice J2.a J2.Ks.length J2.c, ptrV b] 78 :: Asn.seq b M.q :: .row 124 1 dv Us.length (Us.map (fun y => ptrV y.N)) :: .row 127 1 sv Us.length (Us.map (fun y => optV y.Q)) :: .row 29 1 (.slice J2.a J2.Ks.length J2.c) J2.Ks.length (J2.Ks.map chV) :: Asn.all (J2.Ks.map chA) :: Asn.pool Z0 vs :: (Us.map (unA vs) ++ L)) w from H)
 clear H hP
 go_enter Tryz.func26, Tryz.ntmps26
 go_wp2_with fail
 refine HDN.out.mono ?_
 rintro e w1 ⟨N, G1, rfl, h1⟩
 have H1 := Lib.hid' h1
 clear h1
 go_wp2_with fail
 have hp1 := HP.out.below H0.out.toBelow
 refine (shopen_any (m := 0) w1 (H1.out.at 0 rfl) (hp1.below H1.out.toBelow) (Ok.new HR.out) (by decide) (by show ([] : List Chg).length ≤ _; simp) (pow_kept hp1 H1.out rfl)).mono ?_
 rintro e w2 hE
 have hE2 : ∃ q us, e = .returned (.tuple #[ptrV q, .nilIface]) ∧ ShAt q N ⟨U.new, 0, false⟩ (newD room) us [] G1 w1 w2 := by
  rcases hE with ⟨h0, _⟩ | ⟨_, q, us, he, hs⟩
  ·rw [openS_new] at h0; exact absurd rfl h0
  ·rw [openS_new] at hs; exact ⟨q, us, he, hs⟩
 clear hE hp1
 obtain ⟨q, us, rfl, G2, G3, Z, h2⟩ := hE2
 have h3 := H0.out.call0 (H1.out.call1 rfl h2)
 have H3 := Zh (show Sep W NoF (Asn.disk N (newD room) G2 :: Asn.shelf q N ⟨U.new, 0, false⟩ us G3 :: Asn.pool Z us :: .box c [dv, sv, .int .i64 M.p.e, .slice J2.a J2.Ks.length J2.c, ptrV b] 78 :: Asn.seq b M.q :: .row 124 1 dv Us.length (Us.map (fun y => ptrV y.N)) :: .row 127 1 sv Us.length (Us.map (fun y => optV y.Q)) :: .row 29 1 (.slice J2.a J2.Ks.length J2.c) J2.Ks.length (J2.Ks.map chV) :: Asn.all (J2.Ks.map chA) :: Asn.pool Z0 vs :: (Us.map (unA vs) ++ L)) w2 from h3)
 clear h2 h3 H1 H0
 go_upto_region 7 with fail
 obtain ⟨n, hn⟩ : ∃ n, Us.length = n := ⟨_, rfl⟩
 have hn8 : n ≤ 8 := by omega
 obtain ⟨xd, hxd⟩ : ∃ xd, Us.map (fun y => ptrV y.N) = xd := ⟨_, rfl⟩
 obtain ⟨xs, hxs⟩ : ∃ xs, Us.map (fun y => optV y.Q) = xs := ⟨_, rfl⟩
 obtain ⟨R, hR⟩ : ∃ R, Us.map (unA vs) ++ L = R := ⟨_, rfl⟩
 obtain ⟨e0, he0⟩ : ∃ e0, M.p.e = e0 := ⟨_, rfl⟩
 obtain ⟨j0, hj0⟩ : ∃ j0, Value.slice J2.a J2.Ks.length J2.c = j0 := ⟨_, rfl⟩
 rw [hn, hxd, hxs, hR, he0, hj0] at H3
 have HE := Zh (And.intro hn (And.intro hxd (And.intro hxs (And.intro hR (And.intro he0 hj0)))))
 clear hn hxd hxs hR he0 hj0 hUl
 go_cut [] (fun wc => Hid (∃ a5 c5 a6 c6, Sep W NoF (.box c [.slice a5 (n + 1) c5, .slice a6 (n + 1) c6, .int .i64 e0, j0, ptrV b] 78 :: Asn.seq b M.q :: .row 124 1 (.slice a5 (n + 1) c5) (n + 1) (xd ++ [ptrV N]) :: .row 127 1 (.slice a6 (n + 1) c6) (n + 1) (xs ++ [ptrV q]) :: .row 29 1 j0 J2.Ks.length (J2.Ks.map chV) :: Asn.all (J2.Ks.map chA) :: Asn.pool Z0 vs :: Asn.disk N (newD room) G2 :: Asn.shelf q N ⟨U.new, 0, false⟩ us G3 :: Asn.pool Z us :: R) wc))
 case first =>
  have K0 := H3.out.drew
  obtain ⟨k0c0, k0c1, k0f0, k0f1, k0l⟩ := kf K0 3 rfl
  clear H3
  refine startD (S := (fun _ => True)) (by kernel_rfl) trivial (fun hH0 => ?_)
  simp only [List.length_cons, List.length_nil, Nat.reduceAdd, List.replicate_succ, List.replicate_zero]
  generalize w2.drew = wd at *
  refine tD 0 24 (.pointer (some ⟨c, 0, none⟩)) rfl rfl [(0, .pointer (some ⟨c, 0, none⟩))] hH0 ?_
  dsimp only [sZ, sS]
  refine tD 1 25 (.pointer (some ⟨c, 0, none⟩)) rfl rfl [(0, .pointer (some ⟨c, 0, none⟩))] hH0 ?_
  dsimp only [sZ, sS]
  refine tD 2 26 (.pointer (some ⟨c, 0, none⟩)) rfl rfl [(0, .pointer (some ⟨c, 0, none⟩))] hH0 ?_
  dsimp only [sZ, sS]
  refine tD 3 27 (.pointer (some ⟨c, 0, none⟩)) rfl rfl [(26, .pointer (some ⟨c, 0, none⟩))] hH0 ?_
  dsimp only [sZ, sS]
  refine tD 4 28 (.pointer (some ⟨c, 0, none⟩)) rfl rfl [(27, .pointer (some ⟨c, 0, none⟩))] hH0 ?_
  dsimp only [sZ, sS]
  refine tD 6 30 (ptrV N) rfl rfl [(5, ptrV N)] hH0 ?_
  dsimp only [sZ, sS]
  refine tD 9 33 (.pointer (some ⟨c, 0, none⟩)) rfl rfl [(0, .pointer (some ⟨c, 0, none⟩))] hH0 ?_
  dsimp only [sZ, sS]
  refine tD 10 34 (.pointer (some ⟨c, 0, none⟩)) rfl rfl [(33, .pointer (some ⟨c, 0, none⟩))] hH0 ?_
  dsimp only [sZ, sS]
  refine tD 11 35 (.pointer (some ⟨c, 1, none⟩)) rfl rfl [(34, .pointer (some ⟨c, 0, none⟩))] hH0 ?_
  dsimp only [sZ, sS]
  refine tD 13 37 (ptrV q) rfl rfl [(7, ptrV q)] hH0 ?_
  dsimp only [sZ, sS]
  refine wpAnyH_ready (rs := [5, 7, 12, 14]) (by kernel_rfl) (by simp) (AllReadyH.cons (o := _) rfl (fun K hK => ?_) (AllReadyH.cons (o := _) rfl (fun K hK => ?_) (AllReadyH.cons (o := _) rfl (fun K hK => ?_) (AllReadyH.cons (o := _) rfl (fun K hK => ?_) AllReadyH.nil))))
  ·skip
   go_simp
   refine hK.out _ _ ?_ (fun hH1 => ?_)
   ·trivial
   clear hK K
   try simp only [Act.put, gA, gZ, gS, sA, sZ, sS]
   refine wpAnyH_ready (rs := [7, 12, 14]) (by kernel_rfl) (by simp) (AllReadyH.cons (o := _) rfl (fun K hK => ?_) (AllReadyH.cons (o := _) rfl (fun K hK => ?_) (AllReadyH.cons (o := _) rfl (fun K hK => ?_) AllReadyH.nil)))
   ·skip
    go_simp
    have K1 := K0.allocAt (wd.heap.size) [ptrV N] 124 (by simp)
    obtain ⟨k1c0, k1c1, k1f0, k1f1, k1l⟩ := kf K1 4 rfl
    refine hK.out _ _ ?_ (fun hH2 => ?_)
    ·trivial
    clear hK K
    try simp only [Act.put, gA, gZ, gS, sA, sZ, sS]
    refine wpAnyH_ready (rs := [8, 12, 14]) (by kernel_rfl) (by simp) (AllReadyH.cons (o := _) rfl (fun K hK => ?_) (AllReadyH.cons (o := _) rfl (fun K hK => ?_) (AllReadyH.cons (o := _) rfl (fun K hK => ?_) AllReadyH.nil)))
    ·skip
     refine sep_ap etDisks (.tmp 29) (.tmp 31) 0 6 K1 (val := ptrV N) ?_
     intro a5 c5 w5 K2
     obtain ⟨k2c0, k2c1, k2f0, k2f1, k2l⟩ := kf K2 5 rfl
     refine hK.out _ _ ?_ (fun hH3 => ?_)
     ·trivial
     clear hK K
     try simp only [Act.put, gA, gZ, gS, sA, sZ, sS]
     refine wpAnyH_ready (rs := [12, 14]) (by kernel_rfl) (by simp) (AllReadyH.cons (o := _) rfl (fun K hK => ?_) (AllReadyH.cons (o := _) rfl (fun K hK => ?_) AllReadyH.nil))
     ·skip
      go_simp
      refine hK.out _ _ ?_ (fun hH4 => ?_)
      ·trivial
      clear hK K
      try simp only [Act.put, gA, gZ, gS, sA, sZ, sS]
      refine rD 14 rfl (fun K hK => ?_)
      go_simp
      have K3 := K2.allocAt (w5.heap.size) [ptrV q] 127 (by simp)
      obtain ⟨k3c0, k3c1, k3f0, k3f1, k3l⟩ := kf K3 6 rfl
      refine hK.out _ _ ?_ (fun hH5 => ?_)
      ·trivial
      clear hK K
      try simp only [Act.put, gA, gZ, gS, sA, sZ, sS]
      refine rD 15 rfl (fun K hK => ?_)
      refine sep_ap etShelves (.tmp 36) (.tmp 38) 0 8 K3 (val := ptrV q) ?_
      intro a6 c6 w6 K4
      obtain ⟨k4c0, k4c1, k4f0, k4f1, k4l⟩ := kf K4 7 rfl
      refine hK.out _ _ ?_ (fun hH6 => ?_)
      ·trivial
      clear hK K
      try simp only [Act.put, gA, gZ, gS, sA, sZ, sS]
      refine tD 16 40 (.pointer (some ⟨c, 0, none⟩)) rfl rfl [(24, .pointer (some ⟨c, 0, none⟩))] hH6 ?_
      dsimp only [sZ, sS]
      refine tD 17 41 (.pointer (some ⟨c, 0, none⟩)) rfl rfl [(40, .pointer (some ⟨c, 0, none⟩))] hH6 ?_
      dsimp only [sZ, sS]
      refine rD 18 rfl (fun K hK => ?_)
      go_simp
      have K5 := K4.set 7 rfl 0 (.slice a5 (n + 1) c5)
      obtain ⟨k5c0, k5c1, k5f0, k5f1, k5l⟩ := kf K5 0 rfl
      refine hK.out _ _ ?_ (fun hH7 => ?_)
      ·trivial
      clear hK K
      try simp only [Act.put, gA, gZ, gS, sA, sZ, sS]
      refine tD 19 42 (.pointer (some ⟨c, 0, none⟩)) rfl rfl [(25, .pointer (some ⟨c, 0, none⟩))] hH7 ?_
      dsimp only [sZ, sS]
      refine tD 20 43 (.pointer (some ⟨c, 1, none⟩)) rfl rfl [(42, .pointer (some ⟨c, 0, none⟩))] hH7 ?_
      dsimp only [sZ, sS]
      refine rD 21 rfl (fun K hK => ?_)
      go_simp
      have K6 := K5.set 0 rfl 1 (.slice a6 (n + 1) c6)
      obtain ⟨k6c0, k6c1, k6f0, k6f1, k6l⟩ := kf K6 0 rfl
      refine hK.out _ _ ?_ (fun hH8 => ?_)
      ·trivial
      clear hK K
      refine wpAnyH_done (by kernel_rfl) ?_ _
      go_wp2_with fail
      go_meet
      exact Lib.hid' ⟨a5, c5, a6, c6, ((K6.drop 4).drop 2).rearr [5, 5, 5, 9, 9, 9, 7, 8, 9, 9] rfl⟩
     ·skip
      go_simp
      have K3 := K2.allocAt (w5.heap.size) [ptrV q] 127 (by simp)
      obtain ⟨k3c0, k3c1, k3f0, k3f1, k3l⟩ := kf K3 6 rfl
      refine hK.out _ _ ?_ (fun hH4 => ?_)
      ·trivial
      clear hK K
      try simp only [Act.put, gA, gZ, gS, sA, sZ, sS]
      refine rD 12 rfl (fun K hK => ?_)
      go_simp
      refine hK.out _ _ ?_ (fun hH5 => ?_)
      ·trivial
      clear hK K
      try simp only [Act.put, gA, gZ, gS, sA, sZ, sS]
      refine rD 15 rfl (fun K hK => ?_)
      refine sep_ap etShelves (.tmp 36) (.tmp 38) 0 8 K3 (val := ptrV q) ?_
      intro a6 c6 w6 K4
      obtain ⟨k4c0, k4c1, k4f0, k4f1, k4l⟩ := kf K4 7 rfl
      refine hK.out _ _ ?_ (fun hH6 => ?_)
      ·trivial
      clear hK K
      try simp only [Act.put, gA, gZ, gS, sA, sZ, sS]
      refine tD 16 40 (.pointer (some ⟨c, 0, none⟩)) rfl rfl [(24, .pointer (some ⟨c, 0, none⟩))] hH6 ?_
      dsimp only [sZ, sS]
      refine tD 17 41 (.pointer (some ⟨c, 0, none⟩)) rfl rfl [(40, .pointer (some ⟨c, 0, none⟩))] hH6 ?_
      dsimp only [sZ, sS]
      refine rD 18 rfl (fun K hK => ?_)
      go_simp
      have K5 := K4.set 7 rfl 0 (.slice a5 (n + 1) c5)
      obtain ⟨k5c0, k5c1, k5f0, k5f1, k5l⟩ := kf K5 0 rfl
      refine hK.out _ _ ?_ (fun hH7 => ?_)
      ·trivial
      clear hK K
      try simp only [Act.put, gA, gZ, gS, sA, sZ, sS]
      refine tD 19 42 (.pointer (some ⟨c, 0, none⟩)) rfl rfl [(25, .pointer (some ⟨c, 0, none⟩))] hH7 ?_
      dsimp only [sZ, sS]
      refine tD 20 43 (.pointer (some ⟨c, 1, none⟩)) rfl rfl [(42, .pointer (some ⟨c, 0, none⟩))] hH7 ?_
      dsimp only [sZ, sS]
      refine rD 21 rfl (fun K hK => ?_)
      go_simp
      have K6 := K5.set 0 rfl 1 (.slice a6 (n + 1) c6)
      obtain ⟨k6c0, k6c1, k6f0, k6f1, k6l⟩ := kf K6 0 rfl
      refine hK.out _ _ ?_ (fun hH8 => ?_)
      ·trivial
      clear hK K
      refine wpAnyH_done (by kernel_rfl) ?_ _
      go_wp2_with fail
      go_meet
      exact Lib.hid' ⟨a5, c5, a6, c6, ((K6.drop 4).drop 2).rearr [5, 5, 5, 9, 9, 9, 7, 8, 9, 9] rfl⟩
    ·skip
     go_simp
     refine hK.out _ _ ?_ (fun hH3 => ?_)
     ·trivial
     clear hK K
     try simp only [Act.put, gA, gZ, gS, sA, sZ, sS]
     refine wpAnyH_ready (rs := [8, 14]) (by kernel_rfl) (by simp) (AllReadyH.cons (o := _) rfl (fun K hK => ?_) (AllReadyH.cons (o := _) rfl (fun K hK => ?_) AllReadyH.nil))
     ·skip
      refine sep_ap etDisks (.tmp 29) (.tmp 31) 0 6 K1 (val := ptrV N) ?_
      intro a5 c5 w5 K2
      obtain ⟨k2c0, k2c1, k2f0, k2f1, k2l⟩ := kf K2 5 rfl
      refine hK.out _ _ ?_ (fun hH4 => ?_)
      ·trivial
      clear hK K
      try simp only [Act.put, gA, gZ, gS, sA, sZ, sS]
      refine rD 14 rfl (fun K hK => ?_)
      go_simp
      have K3 := K2.allocAt (w5.heap.size) [ptrV q] 127 (by simp)
      obtain ⟨k3c0, k3c1, k3f0, k3f1, k3l⟩ := kf K3 6 rfl
      refine hK.out _ _ ?_ (fun hH5 => ?_)
      ·trivial
      clear hK K
      try simp only [Act.put, gA, gZ, gS, sA, sZ, sS]
      refine rD 15 rfl (fun K hK => ?_)
      refine sep_ap etShelves (.tmp 36) (.tmp 38) 0 8 K3 (val := ptrV q) ?_
      intro a6 c6 w6 K4
      obtain ⟨k4c0, k4c1, k4f0, k4f1, k4l⟩ := kf K4 7 rfl
      refine hK.out _ _ ?_ (fun hH6 => ?_)
      ·trivial
      clear hK K
      try simp only [Act.put, gA, gZ, gS, sA, sZ, sS]
      refine tD 16 40 (.pointer (some ⟨c, 0, none⟩)) rfl rfl [(24, .pointer (some ⟨c, 0, none⟩))] hH6 ?_
      dsimp only [sZ, sS]
      refine tD 17 41 (.pointer (some ⟨c, 0, none⟩)) rfl rfl [(40, .pointer (some ⟨c, 0, none⟩))] hH6 ?_
      dsimp only [sZ, sS]
      refine rD 18 rfl (fun K hK => ?_)
      go_simp
      have K5 := K4.set 7 rfl 0 (.slice a5 (n + 1) c5)
      obtain ⟨k5c0, k5c1, k5f0, k5f1, k5l⟩ := kf K5 0 rfl
      refine hK.out _ _ ?_ (fun hH7 => ?_)
      ·trivial
      clear hK K
      try simp only [Act.put, gA, gZ, gS, sA, sZ, sS]
      refine tD 19 42 (.pointer (some ⟨c, 0, none⟩)) rfl rfl [(25, .pointer (some ⟨c, 0, none⟩))] hH7 ?_
      dsimp only [sZ, sS]
      refine tD 20 43 (.pointer (some ⟨c, 1, none⟩)) rfl rfl [(42, .pointer (some ⟨c, 0, none⟩))] hH7 ?_
      dsimp only [sZ, sS]
      refine rD 21 rfl (fun K hK => ?_)
      go_simp
      have K6 := K5.set 0 rfl 1 (.slice a6 (n + 1) c6)
      obtain ⟨k6c0, k6c1, k6f0, k6f1, k6l⟩ := kf K6 0 rfl
      refine hK.out _ _ ?_ (fun hH8 => ?_)
      ·trivial
      clear hK K
      refine wpAnyH_done (by kernel_rfl) ?_ _
      go_wp2_with fail
      go_meet
      exact Lib.hid' ⟨a5, c5, a6, c6, ((K6.drop 4).drop 2).rearr [5, 5, 5, 9, 9, 9, 7, 8, 9, 9] rfl⟩
     ·skip
      go_simp
      have K2 := K1.allocAt (wd.heap.size + 1) [ptrV q] 127 (by simp)
      obtain ⟨k2c0, k2c1, k2f0, k2f1, k2l⟩ := kf K2 5 rfl
      refine hK.out _ _ ?_ (fun hH4 => ?_)
      ·trivial
      clear hK K
      try simp only [Act.put, gA, gZ, gS, sA, sZ, sS]
      refine rD 8 rfl (fun K hK => ?_)
      refine sep_ap etDisks (.tmp 29) (.tmp 31) 1 7 K2 (val := ptrV N) ?_
      intro a5 c5 w5 K3
      obtain ⟨k3c0, k3c1, k3f0, k3f1, k3l⟩ := kf K3 6 rfl
      refine hK.out _ _ ?_ (fun hH5 => ?_)
      ·trivial
      clear hK K
      try simp only [Act.put, gA, gZ, gS, sA, sZ, sS]
      refine rD 15 rfl (fun K hK => ?_)
      refine sep_ap etShelves (.tmp 36) (.tmp 38) 1 8 K3 (val := ptrV q) ?_
      intro a6 c6 w6 K4
      obtain ⟨k4c0, k4c1, k4f0, k4f1, k4l⟩ := kf K4 7 rfl
      refine hK.out _ _ ?_ (fun hH6 => ?_)
      ·trivial
      clear hK K
      try simp only [Act.put, gA, gZ, gS, sA, sZ, sS]
      refine tD 16 40 (.pointer (some ⟨c, 0, none⟩)) rfl rfl [(24, .pointer (some ⟨c, 0, none⟩))] hH6 ?_
      dsimp only [sZ, sS]
      refine tD 17 41 (.pointer (some ⟨c, 0, none⟩)) rfl rfl [(40, .pointer (some ⟨c, 0, none⟩))] hH6 ?_
      dsimp only [sZ, sS]
      refine rD 18 rfl (fun K hK => ?_)
      go_simp
      have K5 := K4.set 7 rfl 0 (.slice a5 (n + 1) c5)
      obtain ⟨k5c0, k5c1, k5f0, k5f1, k5l⟩ := kf K5 0 rfl
      refine hK.out _ _ ?_ (fun hH7 => ?_)
      ·trivial
      clear hK K
      try simp only [Act.put, gA, gZ, gS, sA, sZ, sS]
      refine tD 19 42 (.pointer (some ⟨c, 0, none⟩)) rfl rfl [(25, .pointer (some ⟨c, 0, none⟩))] hH7 ?_
      dsimp only [sZ, sS]
      refine tD 20 43 (.pointer (some ⟨c, 1, none⟩)) rfl rfl [(42, .pointer (some ⟨c, 0, none⟩))] hH7 ?_
      dsimp only [sZ, sS]
      refine rD 21 rfl (fun K hK => ?_)
      go_simp
      have K6 := K5.set 0 rfl 1 (.slice a6 (n + 1) c6)
      obtain ⟨k6c0, k6c1, k6f0, k6f1, k6l⟩ := kf K6 0 rfl
      refine hK.out _ _ ?_ (fun hH8 => ?_)
      ·trivial
      clear hK K
      refine wpAnyH_done (by kernel_rfl) ?_ _
      go_wp2_with fail
      go_meet
      exact Lib.hid' ⟨a5, c5, a6, c6, ((K6.drop 4).drop 3).rearr [5, 5, 5, 9, 9, 9, 7, 8, 9, 9] rfl⟩
    ·skip
     go_simp
     have K2 := K1.allocAt (wd.heap.size + 1) [ptrV q] 127 (by simp)
     obtain ⟨k2c0, k2c1, k2f0, k2f1, k2l⟩ := kf K2 5 rfl
     refine hK.out _ _ ?_ (fun hH3 => ?_)
     ·trivial
     clear hK K
     try simp only [Act.put, gA, gZ, gS, sA, sZ, sS]
     refine wpAnyH_ready (rs := [8, 12]) (by kernel_rfl) (by simp) (AllReadyH.cons (o := _) rfl (fun K hK => ?_) (AllReadyH.cons (o := _) rfl (fun K hK => ?_) AllReadyH.nil))
     ·skip
      refine sep_ap etDisks (.tmp 29) (.tmp 31) 1 7 K2 (val := ptrV N) ?_
      intro a5 c5 w5 K3
      obtain ⟨k3c0, k3c1, k3f0, k3f1, k3l⟩ := kf K3 6 rfl
      refine hK.out _ _ ?_ (fun hH4 => ?_)
      ·trivial
      clear hK K
      try simp only [Act.put, gA, gZ, gS, sA, sZ, sS]
      refine rD 12 rfl (fun K hK => ?_)
      go_simp
      refine hK.out _ _ ?_ (fun hH5 => ?_)
      ·trivial
      clear hK K
      try simp only [Act.put, gA, gZ, gS, sA, sZ, sS]
      refine rD 15 rfl (fun K hK => ?_)
      refine sep_ap etShelves (.tmp 36) (.tmp 38) 1 8 K3 (val := ptrV q) ?_
      intro a6 c6 w6 K4
      obtain ⟨k4c0, k4c1, k4f0, k4f1, k4l⟩ := kf K4 7 rfl
      refine hK.out _ _ ?_ (fun hH6 => ?_)
      ·trivial
      clear hK K
      try simp only [Act.put, gA, gZ, gS, sA, sZ, sS]
      refine tD 16 40 (.pointer (some ⟨c, 0, none⟩)) rfl rfl [(24, .pointer (some ⟨c, 0, none⟩))] hH6 ?_
      dsimp only [sZ, sS]
      refine tD 17 41 (.pointer (some ⟨c, 0, none⟩)) rfl rfl [(40, .pointer (some ⟨c, 0, none⟩))] hH6 ?_
      dsimp only [sZ, sS]
      refine rD 18 rfl (fun K hK => ?_)
      go_simp
      have K5 := K4.set 7 rfl 0 (.slice a5 (n + 1) c5)
      obtain ⟨k5c0, k5c1, k5f0, k5f1, k5l⟩ := kf K5 0 rfl
      refine hK.out _ _ ?_ (fun hH7 => ?_)
      ·trivial
      clear hK K
      try simp only [Act.put, gA, gZ, gS, sA, sZ, sS]
      refine tD 19 42 (.pointer (some ⟨c, 0, none⟩)) rfl rfl [(25, .pointer (some ⟨c, 0, none⟩))] hH7 ?_
      dsimp only [sZ, sS]
      refine tD 20 43 (.pointer (some ⟨c, 1, none⟩)) rfl rfl [(42, .pointer (some ⟨c, 0, none⟩))] hH7 ?_
      dsimp only [sZ, sS]
      refine rD 21 rfl (fun K hK => ?_)
      go_simp
      have K6 := K5.set 0 rfl 1 (.slice a6 (n + 1) c6)
      obtain ⟨k6c0, k6c1, k6f0, k6f1, k6l⟩ := kf K6 0 rfl
      refine hK.out _ _ ?_ (fun hH8 => ?_)
      ·trivial
      clear hK K
      refine wpAnyH_done (by kernel_rfl) ?_ _
      go_wp2_with fail
      go_meet
      exact Lib.hid' ⟨a5, c5, a6, c6, ((K6.drop 4).drop 3).rearr [5, 5, 5, 9, 9, 9, 7, 8, 9, 9] rfl⟩
     ·skip
      go_simp
      refine hK.out _ _ ?_ (fun hH4 => ?_)
      ·trivial
      clear hK K
      try simp only [Act.put, gA, gZ, gS, sA, sZ, sS]
      refine rD 8 rfl (fun K hK => ?_)
      refine sep_ap etDisks (.tmp 29) (.tmp 31) 1 7 K2 (val := ptrV N) ?_
      intro a5 c5 w5 K3
      obtain ⟨k3c0, k3c1, k3f0, k3f1, k3l⟩ := kf K3 6 rfl
      refine hK.out _ _ ?_ (fun hH5 => ?_)
      ·trivial
      clear hK K
      try simp only [Act.put, gA, gZ, gS, sA, sZ, sS]
      refine rD 15 rfl (fun K hK => ?_)
      refine sep_ap etShelves (.tmp 36) (.tmp 38) 1 8 K3 (val := ptrV q) ?_
      intro a6 c6 w6 K4
      obtain ⟨k4c0, k4c1, k4f0, k4f1, k4l⟩ := kf K4 7 rfl
      refine hK.out _ _ ?_ (fun hH6 => ?_)
      ·trivial
      clear hK K
      try simp only [Act.put, gA, gZ, gS, sA, sZ, sS]
      refine tD 16 40 (.pointer (some ⟨c, 0, none⟩)) rfl rfl [(24, .pointer (some ⟨c, 0, none⟩))] hH6 ?_
      dsimp only [sZ, sS]
      refine tD 17 41 (.pointer (some ⟨c, 0, none⟩)) rfl rfl [(40, .pointer (some ⟨c, 0, none⟩))] hH6 ?_
      dsimp only [sZ, sS]
      refine rD 18 rfl (fun K hK => ?_)
      go_simp
      have K5 := K4.set 7 rfl 0 (.slice a5 (n + 1) c5)
      obtain ⟨k5c0, k5c1, k5f0, k5f1, k5l⟩ := kf K5 0 rfl
      refine hK.out _ _ ?_ (fun hH7 => ?_)
      ·trivial
      clear hK K
      try simp only [Act.put, gA, gZ, gS, sA, sZ, sS]
      refine tD 19 42 (.pointer (some ⟨c, 0, none⟩)) rfl rfl [(25, .pointer (some ⟨c, 0, none⟩))] hH7 ?_
      dsimp only [sZ, sS]
      refine tD 20 43 (.pointer (some ⟨c, 1, none⟩)) rfl rfl [(42, .pointer (some ⟨c, 0, none⟩))] hH7 ?_
      dsimp only [sZ, sS]
      refine rD 21 rfl (fun K hK => ?_)
      go_simp
      have K6 := K5.set 0 rfl 1 (.slice a6 (n + 1) c6)
      obtain ⟨k6c0, k6c1, k6f0, k6f1, k6l⟩ := kf K6 0 rfl
      refine hK.out _ _ ?_ (fun hH8 => ?_)
      ·trivial
      clear hK K
      refine wpAnyH_done (by kernel_rfl) ?_ _
      go_wp2_with fail
      go_meet
      exact Lib.hid' ⟨a5, c5, a6, c6, ((K6.drop 4).drop 3).rearr [5, 5, 5, 9, 9, 9, 7, 8, 9, 9] rfl⟩
   ·skip
    go_simp
    refine hK.out _ _ ?_ (fun hH2 => ?_)
    ·trivial
    clear hK K
    try simp only [Act.put, gA, gZ, gS, sA, sZ, sS]
    refine wpAnyH_ready (rs := [7, 14]) (by kernel_rfl) (by simp) (AllReadyH.cons (o := _) rfl (fun K hK => ?_) (AllReadyH.cons (o := _) rfl (fun K hK => ?_) AllReadyH.nil))
    ·skip
     go_simp
     have K1 := K0.allocAt (wd.heap.size) [ptrV N] 124 (by simp)
     obtain ⟨k1c0, k1c1, k1f0, k1f1, k1l⟩ := kf K1 4 rfl
     refine hK.out _ _ ?_ (fun hH3 => ?_)
     ·trivial
     clear hK K
     try simp only [Act.put, gA, gZ, gS, sA, sZ, sS]
     refine wpAnyH_ready (rs := [8, 14]) (by kernel_rfl) (by simp) (AllReadyH.cons (o := _) rfl (fun K hK => ?_) (AllReadyH.cons (o := _) rfl (fun K hK => ?_) AllReadyH.nil))
     ·skip
      refine sep_ap etDisks (.tmp 29) (.tmp 31) 0 6 K1 (val := ptrV N) ?_
      intro a5 c5 w5 K2
      obtain ⟨k2c0, k2c1, k2f0, k2f1, k2l⟩ := kf K2 5 rfl
      refine hK.out _ _ ?_ (fun hH4 => ?_)
      ·trivial
      clear hK K
      try simp only [Act.put, gA, gZ, gS, sA, sZ, sS]
      refine rD 14 rfl (fun K hK => ?_)
      go_simp
      have K3 := K2.allocAt (w5.heap.size) [ptrV q] 127 (by simp)
      obtain ⟨k3c0, k3c1, k3f0, k3f1, k3l⟩ := kf K3 6 rfl
      refine hK.out _ _ ?_ (fun hH5 => ?_)
      ·trivial
      clear hK K
      try simp only [Act.put, gA, gZ, gS, sA, sZ, sS]
      refine rD 15 rfl (fun K hK => ?_)
      refine sep_ap etShelves (.tmp 36) (.tmp 38) 0 8 K3 (val := ptrV q) ?_
      intro a6 c6 w6 K4
      obtain ⟨k4c0, k4c1, k4f0, k4f1, k4l⟩ := kf K4 7 rfl
      refine hK.out _ _ ?_ (fun hH6 => ?_)
      ·trivial
      clear hK K
      try simp only [Act.put, gA, gZ, gS, sA, sZ, sS]
      refine tD 16 40 (.pointer (some ⟨c, 0, none⟩)) rfl rfl [(24, .pointer (some ⟨c, 0, none⟩))] hH6 ?_
      dsimp only [sZ, sS]
      refine tD 17 41 (.pointer (some ⟨c, 0, none⟩)) rfl rfl [(40, .pointer (some ⟨c, 0, none⟩))] hH6 ?_
      dsimp only [sZ, sS]
      refine rD 18 rfl (fun K hK => ?_)
      go_simp
      have K5 := K4.set 7 rfl 0 (.slice a5 (n + 1) c5)
      obtain ⟨k5c0, k5c1, k5f0, k5f1, k5l⟩ := kf K5 0 rfl
      refine hK.out _ _ ?_ (fun hH7 => ?_)
      ·trivial
      clear hK K
      try simp only [Act.put, gA, gZ, gS, sA, sZ, sS]
      refine tD 19 42 (.pointer (some ⟨c, 0, none⟩)) rfl rfl [(25, .pointer (some ⟨c, 0, none⟩))] hH7 ?_
      dsimp only [sZ, sS]
      refine tD 20 43 (.pointer (some ⟨c, 1, none⟩)) rfl rfl [(42, .pointer (some ⟨c, 0, none⟩))] hH7 ?_
      dsimp only [sZ, sS]
      refine rD 21 rfl (fun K hK => ?_)
      go_simp
      have K6 := K5.set 0 rfl 1 (.slice a6 (n + 1) c6)
      obtain ⟨k6c0, k6c1, k6f0, k6f1, k6l⟩ := kf K6 0 rfl
      refine hK.out _ _ ?_ (fun hH8 => ?_)
      ·trivial
      clear hK K
      refine wpAnyH_done (by kernel_rfl) ?_ _
      go_wp2_with fail
      go_meet
      exact Lib.hid' ⟨a5, c5, a6, c6, ((K6.drop 4).drop 2).rearr [5, 5, 5, 9, 9, 9, 7, 8, 9, 9] rfl⟩
     ·skip
      go_simp
      have K2 := K1.allocAt (wd.heap.size + 1) [ptrV q] 127 (by simp)
      obtain ⟨k2c0, k2c1, k2f0, k2f1, k2l⟩ := kf K2 5 rfl
      refine hK.out _ _ ?_ (fun hH4 => ?_)
      ·trivial
      clear hK K
      try simp only [Act.put, gA, gZ, gS, sA, sZ, sS]
      refine rD 8 rfl (fun K hK => ?_)
      refine sep_ap etDisks (.tmp 29) (.tmp 31) 1 7 K2 (val := ptrV N) ?_
      intro a5 c5 w5 K3
      obtain ⟨k3c0, k3c1, k3f0, k3f1, k3l⟩ := kf K3 6 rfl
      refine hK.out _ _ ?_ (fun hH5 => ?_)
      ·trivial
      clear hK K
      try simp only [Act.put, gA, gZ, gS, sA, sZ, sS]
      refine rD 15 rfl (fun K hK => ?_)
      refine sep_ap etShelves (.tmp 36) (.tmp 38) 1 8 K3 (val := ptrV q) ?_
      intro a6 c6 w6 K4
      obtain ⟨k4c0, k4c1, k4f0, k4f1, k4l⟩ := kf K4 7 rfl
      refine hK.out _ _ ?_ (fun hH6 => ?_)
      ·trivial
      clear hK K
      try simp only [Act.put, gA, gZ, gS, sA, sZ, sS]
      refine tD 16 40 (.pointer (some ⟨c, 0, none⟩)) rfl rfl [(24, .pointer (some ⟨c, 0, none⟩))] hH6 ?_
      dsimp only [sZ, sS]
      refine tD 17 41 (.pointer (some ⟨c, 0, none⟩)) rfl rfl [(40, .pointer (some ⟨c, 0, none⟩))] hH6 ?_
      dsimp only [sZ, sS]
      refine rD 18 rfl (fun K hK => ?_)
      go_simp
      have K5 := K4.set 7 rfl 0 (.slice a5 (n + 1) c5)
      obtain ⟨k5c0, k5c1, k5f0, k5f1, k5l⟩ := kf K5 0 rfl
      refine hK.out _ _ ?_ (fun hH7 => ?_)
      ·trivial
      clear hK K
      try simp only [Act.put, gA, gZ, gS, sA, sZ, sS]
      refine tD 19 42 (.pointer (some ⟨c, 0, none⟩)) rfl rfl [(25, .pointer (some ⟨c, 0, none⟩))] hH7 ?_
      dsimp only [sZ, sS]
      refine tD 20 43 (.pointer (some ⟨c, 1, none⟩)) rfl rfl [(42, .pointer (some ⟨c, 0, none⟩))] hH7 ?_
      dsimp only [sZ, sS]
      refine rD 21 rfl (fun K hK => ?_)
      go_simp
      have K6 := K5.set 0 rfl 1 (.slice a6 (n + 1) c6)
      obtain ⟨k6c0, k6c1, k6f0, k6f1, k6l⟩ := kf K6 0 rfl
      refine hK.out _ _ ?_ (fun hH8 => ?_)
      ·trivial
      clear hK K
      refine wpAnyH_done (by kernel_rfl) ?_ _
      go_wp2_with fail
      go_meet
      exact Lib.hid' ⟨a5, c5, a6, c6, ((K6.drop 4).drop 3).rearr [5, 5, 5, 9, 9, 9, 7, 8, 9, 9] rfl⟩
    ·skip
     go_simp
     have K1 := K0.allocAt (wd.heap.size) [ptrV q] 127 (by simp)
     obtain ⟨k1c0, k1c1, k1f0, k1f1, k1l⟩ := kf K1 4 rfl
     refine hK.out _ _ ?_ (fun hH3 => ?_)
     ·trivial
     clear hK K
     try simp only [Act.put, gA, gZ, gS, sA, sZ, sS]
     refine rD 7 rfl (fun K hK => ?_)
     go_simp
     have K2 := K1.allocAt (wd.heap.size + 1) [ptrV N] 124 (by simp)
     obtain ⟨k2c0, k2c1, k2f0, k2f1, k2l⟩ := kf K2 5 rfl
     refine hK.out _ _ ?_ (fun hH4 => ?_)
     ·trivial
     clear hK K
     try simp only [Act.put, gA, gZ, gS, sA, sZ, sS]
     refine rD 8 rfl (fun K hK => ?_)
     refine sep_ap etDisks (.tmp 29) (.tmp 31) 0 7 K2 (val := ptrV N) ?_
     intro a5 c5 w5 K3
     obtain ⟨k3c0, k3c1, k3f0, k3f1, k3l⟩ := kf K3 6 rfl
     refine hK.out _ _ ?_ (fun hH5 => ?_)
     ·trivial
     clear hK K
     try simp only [Act.put, gA, gZ, gS, sA, sZ, sS]
     refine rD 15 rfl (fun K hK => ?_)
     refine sep_ap etShelves (.tmp 36) (.tmp 38) 2 8 K3 (val := ptrV q) ?_
     intro a6 c6 w6 K4
     obtain ⟨k4c0, k4c1, k4f0, k4f1, k4l⟩ := kf K4 7 rfl
     refine hK.out _ _ ?_ (fun hH6 => ?_)
     ·trivial
     clear hK K
     try simp only [Act.put, gA, gZ, gS, sA, sZ, sS]
     refine tD 16 40 (.pointer (some ⟨c, 0, none⟩)) rfl rfl [(24, .pointer (some ⟨c, 0, none⟩))] hH6 ?_
     dsimp only [sZ, sS]
     refine tD 17 41 (.pointer (some ⟨c, 0, none⟩)) rfl rfl [(40, .pointer (some ⟨c, 0, none⟩))] hH6 ?_
     dsimp only [sZ, sS]
     refine rD 18 rfl (fun K hK => ?_)
     go_simp
     have K5 := K4.set 7 rfl 0 (.slice a5 (n + 1) c5)
     obtain ⟨k5c0, k5c1, k5f0, k5f1, k5l⟩ := kf K5 0 rfl
     refine hK.out _ _ ?_ (fun hH7 => ?_)
     ·trivial
     clear hK K
     try simp only [Act.put, gA, gZ, gS, sA, sZ, sS]
     refine tD 19 42 (.pointer (some ⟨c, 0, none⟩)) rfl rfl [(25, .pointer (some ⟨c, 0, none⟩))] hH7 ?_
     dsimp only [sZ, sS]
     refine tD 20 43 (.pointer (some ⟨c, 1, none⟩)) rfl rfl [(42, .pointer (some ⟨c, 0, none⟩))] hH7 ?_
     dsimp only [sZ, sS]
     refine rD 21 rfl (fun K hK => ?_)
     go_simp
     have K6 := K5.set 0 rfl 1 (.slice a6 (n + 1) c6)
     obtain ⟨k6c0, k6c1, k6f0, k6f1, k6l⟩ := kf K6 0 rfl
     refine hK.out _ _ ?_ (fun hH8 => ?_)
     ·trivial
     clear hK K
     refine wpAnyH_done (by kernel_rfl) ?_ _
     go_wp2_with fail
     go_meet
     exact Lib.hid' ⟨a5, c5, a6, c6, ((K6.drop 3).drop 3).rearr [5, 5, 5, 9, 9, 9, 7, 8, 9, 9] rfl⟩
   ·skip
    go_simp
    have K1 := K0.allocAt (wd.heap.size) [ptrV q] 127 (by simp)
    obtain ⟨k1c0, k1c1, k1f0, k1f1, k1l⟩ := kf K1 4 rfl
    refine hK.out _ _ ?_ (fun hH2 => ?_)
    ·trivial
    clear hK K
    try simp only [Act.put, gA, gZ, gS, sA, sZ, sS]
    refine wpAnyH_ready (rs := [7, 12]) (by kernel_rfl) (by simp) (AllReadyH.cons (o := _) rfl (fun K hK => ?_) (AllReadyH.cons (o := _) rfl (fun K hK => ?_) AllReadyH.nil))
    ·skip
     go_simp
     have K2 := K1.allocAt (wd.heap.size + 1) [ptrV N] 124 (by simp)
     obtain ⟨k2c0, k2c1, k2f0, k2f1, k2l⟩ := kf K2 5 rfl
     refine hK.out _ _ ?_ (fun hH3 => ?_)
     ·trivial
     clear hK K
     try simp only [Act.put, gA, gZ, gS, sA, sZ, sS]
     refine wpAnyH_ready (rs := [8, 12]) (by kernel_rfl) (by simp) (AllReadyH.cons (o := _) rfl (fun K hK => ?_) (AllReadyH.cons (o := _) rfl (fun K hK => ?_) AllReadyH.nil))
     ·skip
      refine sep_ap etDisks (.tmp 29) (.tmp 31) 0 7 K2 (val := ptrV N) ?_
      intro a5 c5 w5 K3
      obtain ⟨k3c0, k3c1, k3f0, k3f1, k3l⟩ := kf K3 6 rfl
      refine hK.out _ _ ?_ (fun hH4 => ?_)
      ·trivial
      clear hK K
      try simp only [Act.put, gA, gZ, gS, sA, sZ, sS]
      refine rD 12 rfl (fun K hK => ?_)
      go_simp
      refine hK.out _ _ ?_ (fun hH5 => ?_)
      ·trivial
      clear hK K
      try simp only [Act.put, gA, gZ, gS, sA, sZ, sS]
      refine rD 15 rfl (fun K hK => ?_)
      refine sep_ap etShelves (.tmp 36) (.tmp 38) 2 8 K3 (val := ptrV q) ?_
      intro a6 c6 w6 K4
      obtain ⟨k4c0, k4c1, k4f0, k4f1, k4l⟩ := kf K4 7 rfl
      refine hK.out _ _ ?_ (fun hH6 => ?_)
      ·trivial
      clear hK K
      try simp only [Act.put, gA, gZ, gS, sA, sZ, sS]
      refine tD 16 40 (.pointer (some ⟨c, 0, none⟩)) rfl rfl [(24, .pointer (some ⟨c, 0, none⟩))] hH6 ?_
      dsimp only [sZ, sS]
      refine tD 17 41 (.pointer (some ⟨c, 0, none⟩)) rfl rfl [(40, .pointer (some ⟨c, 0, none⟩))] hH6 ?_
      dsimp only [sZ, sS]
      refine rD 18 rfl (fun K hK => ?_)
      go_simp
      have K5 := K4.set 7 rfl 0 (.slice a5 (n + 1) c5)
      obtain ⟨k5c0, k5c1, k5f0, k5f1, k5l⟩ := kf K5 0 rfl
      refine hK.out _ _ ?_ (fun hH7 => ?_)
      ·trivial
      clear hK K
      try simp only [Act.put, gA, gZ, gS, sA, sZ, sS]
      refine tD 19 42 (.pointer (some ⟨c, 0, none⟩)) rfl rfl [(25, .pointer (some ⟨c, 0, none⟩))] hH7 ?_
      dsimp only [sZ, sS]
      refine tD 20 43 (.pointer (some ⟨c, 1, none⟩)) rfl rfl [(42, .pointer (some ⟨c, 0, none⟩))] hH7 ?_
      dsimp only [sZ, sS]
      refine rD 21 rfl (fun K hK => ?_)
      go_simp
      have K6 := K5.set 0 rfl 1 (.slice a6 (n + 1) c6)
      obtain ⟨k6c0, k6c1, k6f0, k6f1, k6l⟩ := kf K6 0 rfl
      refine hK.out _ _ ?_ (fun hH8 => ?_)
      ·trivial
      clear hK K
      refine wpAnyH_done (by kernel_rfl) ?_ _
      go_wp2_with fail
      go_meet
      exact Lib.hid' ⟨a5, c5, a6, c6, ((K6.drop 3).drop 3).rearr [5, 5, 5, 9, 9, 9, 7, 8, 9, 9] rfl⟩
     ·skip
      go_simp
      refine hK.out _ _ ?_ (fun hH4 => ?_)
      ·trivial
      clear hK K
      try simp only [Act.put, gA, gZ, gS, sA, sZ, sS]
      refine rD 8 rfl (fun K hK => ?_)
      refine sep_ap etDisks (.tmp 29) (.tmp 31) 0 7 K2 (val := ptrV N) ?_
      intro a5 c5 w5 K3
      obtain ⟨k3c0, k3c1, k3f0, k3f1, k3l⟩ := kf K3 6 rfl
      refine hK.out _ _ ?_ (fun hH5 => ?_)
      ·trivial
      clear hK K
      try simp only [Act.put, gA, gZ, gS, sA, sZ, sS]
      refine rD 15 rfl (fun K hK => ?_)
      refine sep_ap etShelves (.tmp 36) (.tmp 38) 2 8 K3 (val := ptrV q) ?_
      intro a6 c6 w6 K4
      obtain ⟨k4c0, k4c1, k4f0, k4f1, k4l⟩ := kf K4 7 rfl
      refine hK.out _ _ ?_ (fun hH6 => ?_)
      ·trivial
      clear hK K
      try simp only [Act.put, gA, gZ, gS, sA, sZ, sS]
      refine tD 16 40 (.pointer (some ⟨c, 0, none⟩)) rfl rfl [(24, .pointer (some ⟨c, 0, none⟩))] hH6 ?_
      dsimp only [sZ, sS]
      refine tD 17 41 (.pointer (some ⟨c, 0, none⟩)) rfl rfl [(40, .pointer (some ⟨c, 0, none⟩))] hH6 ?_
      dsimp only [sZ, sS]
      refine rD 18 rfl (fun K hK => ?_)
      go_simp
      have K5 := K4.set 7 rfl 0 (.slice a5 (n + 1) c5)
      obtain ⟨k5c0, k5c1, k5f0, k5f1, k5l⟩ := kf K5 0 rfl
      refine hK.out _ _ ?_ (fun hH7 => ?_)
      ·trivial
      clear hK K
      try simp only [Act.put, gA, gZ, gS, sA, sZ, sS]
      refine tD 19 42 (.pointer (some ⟨c, 0, none⟩)) rfl rfl [(25, .pointer (some ⟨c, 0, none⟩))] hH7 ?_
      dsimp only [sZ, sS]
      refine tD 20 43 (.pointer (some ⟨c, 1, none⟩)) rfl rfl [(42, .pointer (some ⟨c, 0, none⟩))] hH7 ?_
      dsimp only [sZ, sS]
      refine rD 21 rfl (fun K hK => ?_)
      go_simp
      have K6 := K5.set 0 rfl 1 (.slice a6 (n + 1) c6)
      obtain ⟨k6c0, k6c1, k6f0, k6f1, k6l⟩ := kf K6 0 rfl
      refine hK.out _ _ ?_ (fun hH8 => ?_)
      ·trivial
      clear hK K
      refine wpAnyH_done (by kernel_rfl) ?_ _
      go_wp2_with fail
      go_meet
      exact Lib.hid' ⟨a5, c5, a6, c6, ((K6.drop 3).drop 3).rearr [5, 5, 5, 9, 9, 9, 7, 8, 9, 9] rfl⟩
    ·skip
     go_simp
     refine hK.out _ _ ?_ (fun hH3 => ?_)
     ·trivial
     clear hK K
     try simp only [Act.put, gA, gZ, gS, sA, sZ, sS]
     refine rD 7 rfl (fun K hK => ?_)
     go_simp
     have K2 := K1.allocAt (wd.heap.size + 1) [ptrV N] 124 (by simp)
     obtain ⟨k2c0, k2c1, k2f0, k2f1, k2l⟩ := kf K2 5 rfl
     refine hK.out _ _ ?_ (fun hH4 => ?_)
     ·trivial
     clear hK K
     try simp only [Act.put, gA, gZ, gS, sA, sZ, sS]
     refine rD 8 rfl (fun K hK => ?_)
     refine sep_ap etDisks (.tmp 29) (.tmp 31) 0 7 K2 (val := ptrV N) ?_
     intro a5 c5 w5 K3
     obtain ⟨k3c0, k3c1, k3f0, k3f1, k3l⟩ := kf K3 6 rfl
     refine hK.out _ _ ?_ (fun hH5 => ?_)
     ·trivial
     clear hK K
     try simp only [Act.put, gA, gZ, gS, sA, sZ, sS]
     refine rD 15 rfl (fun K hK => ?_)
     refine sep_ap etShelves (.tmp 36) (.tmp 38) 2 8 K3 (val := ptrV q) ?_
     intro a6 c6 w6 K4
     obtain ⟨k4c0, k4c1, k4f0, k4f1, k4l⟩ := kf K4 7 rfl
     refine hK.out _ _ ?_ (fun hH6 => ?_)
     ·trivial
     clear hK K
     try simp only [Act.put, gA, gZ, gS, sA, sZ, sS]
     refine tD 16 40 (.pointer (some ⟨c, 0, none⟩)) rfl rfl [(24, .pointer (some ⟨c, 0, none⟩))] hH6 ?_
     dsimp only [sZ, sS]
     refine tD 17 41 (.pointer (some ⟨c, 0, none⟩)) rfl rfl [(40, .pointer (some ⟨c, 0, none⟩))] hH6 ?_
     dsimp only [sZ, sS]
     refine rD 18 rfl (fun K hK => ?_)
     go_simp
     have K5 := K4.set 7 rfl 0 (.slice a5 (n + 1) c5)
     obtain ⟨k5c0, k5c1, k5f0, k5f1, k5l⟩ := kf K5 0 rfl
     refine hK.out _ _ ?_ (fun hH7 => ?_)
     ·trivial
     clear hK K
     try simp only [Act.put, gA, gZ, gS, sA, sZ, sS]
     refine tD 19 42 (.pointer (some ⟨c, 0, none⟩)) rfl rfl [(25, .pointer (some ⟨c, 0, none⟩))] hH7 ?_
     dsimp only [sZ, sS]
     refine tD 20 43 (.pointer (some ⟨c, 1, none⟩)) rfl rfl [(42, .pointer (some ⟨c, 0, none⟩))] hH7 ?_
     dsimp only [sZ, sS]
     refine rD 21 rfl (fun K hK => ?_)
     go_simp
     have K6 := K5.set 0 rfl 1 (.slice a6 (n + 1) c6)
     obtain ⟨k6c0, k6c1, k6f0, k6f1, k6l⟩ := kf K6 0 rfl
     refine hK.out _ _ ?_ (fun hH8 => ?_)
     ·trivial
     clear hK K
     refine wpAnyH_done (by kernel_rfl) ?_ _
     go_wp2_with fail
     go_meet
     exact Lib.hid' ⟨a5, c5, a6, c6, ((K6.drop 3).drop 3).rearr [5, 5, 5, 9, 9, 9, 7, 8, 9, 9] rfl⟩
  ·skip
   go_simp
   have K1 := K0.allocAt (wd.heap.size) [ptrV N] 124 (by simp)
   obtain ⟨k1c0, k1c1, k1f0, k1f1, k1l⟩ := kf K1 4 rfl
   refine hK.out _ _ ?_ (fun hH1 => ?_)
   ·trivial
   clear hK K
   try simp only [Act.put, gA, gZ, gS, sA, sZ, sS]
   refine wpAnyH_ready (rs := [5, 12, 14]) (by kernel_rfl) (by simp) (AllReadyH.cons (o := _) rfl (fun K hK => ?_) (AllReadyH.cons (o := _) rfl (fun K hK => ?_) (AllReadyH.cons (o := _) rfl (fun K hK => ?_) AllReadyH.nil)))
   ·skip
    go_simp
    refine hK.out _ _ ?_ (fun hH2 => ?_)
    ·trivial
    clear hK K
    try simp only [Act.put, gA, gZ, gS, sA, sZ, sS]
    refine wpAnyH_ready (rs := [8, 12, 14]) (by kernel_rfl) (by simp) (AllReadyH.cons (o := _) rfl (fun K hK => ?_) (AllReadyH.cons (o := _) rfl (fun K hK => ?_) (AllReadyH.cons (o := _) rfl (fun K hK => ?_) AllReadyH.nil)))
    ·skip
     refine sep_ap etDisks (.tmp 29) (.tmp 31) 0 6 K1 (val := ptrV N) ?_
     intro a5 c5 w5 K2
     obtain ⟨k2c0, k2c1, k2f0, k2f1, k2l⟩ := kf K2 5 rfl
     refine hK.out _ _ ?_ (fun hH3 => ?_)
     ·trivial
     clear hK K
     try simp only [Act.put, gA, gZ, gS, sA, sZ, sS]
     refine wpAnyH_ready (rs := [12, 14]) (by kernel_rfl) (by simp) (AllReadyH.cons (o := _) rfl (fun K hK => ?_) (AllReadyH.cons (o := _) rfl (fun K hK => ?_) AllReadyH.nil))
     ·skip
      go_simp
      refine hK.out _ _ ?_ (fun hH4 => ?_)
      ·trivial
      clear hK K
      try simp only [Act.put, gA, gZ, gS, sA, sZ, sS]
      refine rD 14 rfl (fun K hK => ?_)
      go_simp
      have K3 := K2.allocAt (w5.heap.size) [ptrV q] 127 (by simp)
      obtain ⟨k3c0, k3c1, k3f0, k3f1, k3l⟩ := kf K3 6 rfl
      refine hK.out _ _ ?_ (fun hH5 => ?_)
      ·trivial
      clear hK K
      try simp only [Act.put, gA, gZ, gS, sA, sZ, sS]
      refine rD 15 rfl (fun K hK => ?_)
      refine sep_ap etShelves (.tmp 36) (.tmp 38) 0 8 K3 (val := ptrV q) ?_
      intro a6 c6 w6 K4
      obtain ⟨k4c0, k4c1, k4f0, k4f1, k4l⟩ := kf K4 7 rfl
      refine hK.out _ _ ?_ (fun hH6 => ?_)
      ·trivial
      clear hK K
      try simp only [Act.put, gA, gZ, gS, sA, sZ, sS]
      refine tD 16 40 (.pointer (some ⟨c, 0, none⟩)) rfl rfl [(24, .pointer (some ⟨c, 0, none⟩))] hH6 ?_
      dsimp only [sZ, sS]
      refine tD 17 41 (.pointer (some ⟨c, 0, none⟩)) rfl rfl [(40, .pointer (some ⟨c, 0, none⟩))] hH6 ?_
      dsimp only [sZ, sS]
      refine rD 18 rfl (fun K hK => ?_)
      go_simp
      have K5 := K4.set 7 rfl 0 (.slice a5 (n + 1) c5)
      obtain ⟨k5c0, k5c1, k5f0, k5f1, k5l⟩ := kf K5 0 rfl
      refine hK.out _ _ ?_ (fun hH7 => ?_)
      ·trivial
      clear hK K
      try simp only [Act.put, gA, gZ, gS, sA, sZ, sS]
      refine tD 19 42 (.pointer (some ⟨c, 0, none⟩)) rfl rfl [(25, .pointer (some ⟨c, 0, none⟩))] hH7 ?_
      dsimp only [sZ, sS]
      refine tD 20 43 (.pointer (some ⟨c, 1, none⟩)) rfl rfl [(42, .pointer (some ⟨c, 0, none⟩))] hH7 ?_
      dsimp only [sZ, sS]
      refine rD 21 rfl (fun K hK => ?_)
      go_simp
      have K6 := K5.set 0 rfl 1 (.slice a6 (n + 1) c6)
      obtain ⟨k6c0, k6c1, k6f0, k6f1, k6l⟩ := kf K6 0 rfl
      refine hK.out _ _ ?_ (fun hH8 => ?_)
      ·trivial
      clear hK K
      refine wpAnyH_done (by kernel_rfl) ?_ _
      go_wp2_with fail
      go_meet
      exact Lib.hid' ⟨a5, c5, a6, c6, ((K6.drop 4).drop 2).rearr [5, 5, 5, 9, 9, 9, 7, 8, 9, 9] rfl⟩
     ·skip
      go_simp
      have K3 := K2.allocAt (w5.heap.size) [ptrV q] 127 (by simp)
      obtain ⟨k3c0, k3c1, k3f0, k3f1, k3l⟩ := kf K3 6 rfl
      refine hK.out _ _ ?_ (fun hH4 => ?_)
      ·trivial
      clear hK K
      try simp only [Act.put, gA, gZ, gS, sA, sZ, sS]
      refine rD 12 rfl (fun K hK => ?_)
      go_simp
      refine hK.out _ _ ?_ (fun hH5 => ?_)
      ·trivial
      clear hK K
      try simp only [Act.put, gA, gZ, gS, sA, sZ, sS]
      refine rD 15 rfl (fun K hK => ?_)
      refine sep_ap etShelves (.tmp 36) (.tmp 38) 0 8 K3 (val := ptrV q) ?_
      intro a6 c6 w6 K4
      obtain ⟨k4c0, k4c1, k4f0, k4f1, k4l⟩ := kf K4 7 rfl
      refine hK.out _ _ ?_ (fun hH6 => ?_)
      ·trivial
      clear hK K
      try simp only [Act.put, gA, gZ, gS, sA, sZ, sS]
      refine tD 16 40 (.pointer (some ⟨c, 0, none⟩)) rfl rfl [(24, .pointer (some ⟨c, 0, none⟩))] hH6 ?_
      dsimp only [sZ, sS]
      refine tD 17 41 (.pointer (some ⟨c, 0, none⟩)) rfl rfl [(40, .pointer (some ⟨c, 0, none⟩))] hH6 ?_
      dsimp only [sZ, sS]
      refine rD 18 rfl (fun K hK => ?_)
      go_simp
      have K5 := K4.set 7 rfl 0 (.slice a5 (n + 1) c5)
      obtain ⟨k5c0, k5c1, k5f0, k5f1, k5l⟩ := kf K5 0 rfl
      refine hK.out _ _ ?_ (fun hH7 => ?_)
      ·trivial
      clear hK K
      try simp only [Act.put, gA, gZ, gS, sA, sZ, sS]
      refine tD 19 42 (.pointer (some ⟨c, 0, none⟩)) rfl rfl [(25, .pointer (some ⟨c, 0, none⟩))] hH7 ?_
      dsimp only [sZ, sS]
      refine tD 20 43 (.pointer (some ⟨c, 1, none⟩)) rfl rfl [(42, .pointer (some ⟨c, 0, none⟩))] hH7 ?_
      dsimp only [sZ, sS]
      refine rD 21 rfl (fun K hK => ?_)
      go_simp
      have K6 := K5.set 0 rfl 1 (.slice a6 (n + 1) c6)
      obtain ⟨k6c0, k6c1, k6f0, k6f1, k6l⟩ := kf K6 0 rfl
      refine hK.out _ _ ?_ (fun hH8 => ?_)
      ·trivial
      clear hK K
      refine wpAnyH_done (by kernel_rfl) ?_ _
      go_wp2_with fail
      go_meet
      exact Lib.hid' ⟨a5, c5, a6, c6, ((K6.drop 4).drop 2).rearr [5, 5, 5, 9, 9, 9, 7, 8, 9, 9] rfl⟩
    ·skip
     go_simp
     refine hK.out _ _ ?_ (fun hH3 => ?_)
     ·trivial
     clear hK K
     try simp only [Act.put, gA, gZ, gS, sA, sZ, sS]
     refine wpAnyH_ready (rs := [8, 14]) (by kernel_rfl) (by simp) (AllReadyH.cons (o := _) rfl (fun K hK => ?_) (AllReadyH.cons (o := _) rfl (fun K hK => ?_) AllReadyH.nil))
     ·skip
      refine sep_ap etDisks (.tmp 29) (.tmp 31) 0 6 K1 (val := ptrV N) ?_
      intro a5 c5 w5 K2
      obtain ⟨k2c0, k2c1, k2f0, k2f1, k2l⟩ := kf K2 5 rfl
      refine hK.out _ _ ?_ (fun hH4 => ?_)
      ·trivial
      clear hK K
      try simp only [Act.put, gA, gZ, gS, sA, sZ, sS]
      refine rD 14 rfl (fun K hK => ?_)
      go_simp
      have K3 := K2.allocAt (w5.heap.size) [ptrV q] 127 (by simp)
      obtain ⟨k3c0, k3c1, k3f0, k3f1, k3l⟩ := kf K3 6 rfl
      refine hK.out _ _ ?_ (fun hH5 => ?_)
      ·trivial
      clear hK K
      try simp only [Act.put, gA, gZ, gS, sA, sZ, sS]
      refine rD 15 rfl (fun K hK => ?_)
      refine sep_ap etShelves (.tmp 36) (.tmp 38) 0 8 K3 (val := ptrV q) ?_
      intro a6 c6 w6 K4
      obtain ⟨k4c0, k4c1, k4f0, k4f1, k4l⟩ := kf K4 7 rfl
      refine hK.out _ _ ?_ (fun hH6 => ?_)
      ·trivial
      clear hK K
      try simp only [Act.put, gA, gZ, gS, sA, sZ, sS]
      refine tD 16 40 (.pointer (some ⟨c, 0, none⟩)) rfl rfl [(24, .pointer (some ⟨c, 0, none⟩))] hH6 ?_
      dsimp only [sZ, sS]
      refine tD 17 41 (.pointer (some ⟨c, 0, none⟩)) rfl rfl [(40, .pointer (some ⟨c, 0, none⟩))] hH6 ?_
      dsimp only [sZ, sS]
      refine rD 18 rfl (fun K hK => ?_)
      go_simp
      have K5 := K4.set 7 rfl 0 (.slice a5 (n + 1) c5)
      obtain ⟨k5c0, k5c1, k5f0, k5f1, k5l⟩ := kf K5 0 rfl
      refine hK.out _ _ ?_ (fun hH7 => ?_)
      ·trivial
      clear hK K
      try simp only [Act.put, gA, gZ, gS, sA, sZ, sS]
      refine tD 19 42 (.pointer (some ⟨c, 0, none⟩)) rfl rfl [(25, .pointer (some ⟨c, 0, none⟩))] hH7 ?_
      dsimp only [sZ, sS]
      refine tD 20 43 (.pointer (some ⟨c, 1, none⟩)) rfl rfl [(42, .pointer (some ⟨c, 0, none⟩))] hH7 ?_
      dsimp only [sZ, sS]
      refine rD 21 rfl (fun K hK => ?_)
      go_simp
      have K6 := K5.set 0 rfl 1 (.slice a6 (n + 1) c6)
      obtain ⟨k6c0, k6c1, k6f0, k6f1, k6l⟩ := kf K6 0 rfl
      refine hK.out _ _ ?_ (fun hH8 => ?_)
      ·trivial
      clear hK K
      refine wpAnyH_done (by kernel_rfl) ?_ _
      go_wp2_with fail
      go_meet
      exact Lib.hid' ⟨a5, c5, a6, c6, ((K6.drop 4).drop 2).rearr [5, 5, 5, 9, 9, 9, 7, 8, 9, 9] rfl⟩
     ·skip
      go_simp
      have K2 := K1.allocAt (wd.heap.size + 1) [ptrV q] 127 (by simp)
      obtain ⟨k2c0, k2c1, k2f0, k2f1, k2l⟩ := kf K2 5 rfl
      refine hK.out _ _ ?_ (fun hH4 => ?_)
      ·trivial
      clear hK K
      try simp only [Act.put, gA, gZ, gS, sA, sZ, sS]
      refine rD 8 rfl (fun K hK => ?_)
      refine sep_ap etDisks (.tmp 29) (.tmp 31) 1 7 K2 (val := ptrV N) ?_
      intro a5 c5 w5 K3
      obtain ⟨k3c0, k3c1, k3f0, k3f1, k3l⟩ := kf K3 6 rfl
      refine hK.out _ _ ?_ (fun hH5 => ?_)
      ·trivial
      clear hK K
      try simp only [Act.put, gA, gZ, gS, sA, sZ, sS]
      refine rD 15 rfl (fun K hK => ?_)
      refine sep_ap etShelves (.tmp 36) (.tmp 38) 1 8 K3 (val := ptrV q) ?_
      intro a6 c6 w6 K4
      obtain ⟨k4c0, k4c1, k4f0, k4f1, k4l⟩ := kf K4 7 rfl
      refine hK.out _ _ ?_ (fun hH6 => ?_)
      ·trivial
      clear hK K
      try simp only [Act.put, gA, gZ, gS, sA, sZ, sS]
      refine tD 16 40 (.pointer (some ⟨c, 0, none⟩)) rfl rfl [(24, .pointer (some ⟨c, 0, none⟩))] hH6 ?_
      dsimp only [sZ, sS]
      refine tD 17 41 (.pointer (some ⟨c, 0, none⟩)) rfl rfl [(40, .pointer (some ⟨c, 0, none⟩))] hH6 ?_
      dsimp only [sZ, sS]
      refine rD 18 rfl (fun K hK => ?_)
      go_simp
      have K5 := K4.set 7 rfl 0 (.slice a5 (n + 1) c5)
      obtain ⟨k5c0, k5c1, k5f0, k5f1, k5l⟩ := kf K5 0 rfl
      refine hK.out _ _ ?_ (fun hH7 => ?_)
      ·trivial
      clear hK K
      try simp only [Act.put, gA, gZ, gS, sA, sZ, sS]
      refine tD 19 42 (.pointer (some ⟨c, 0, none⟩)) rfl rfl [(25, .pointer (some ⟨c, 0, none⟩))] hH7 ?_
      dsimp only [sZ, sS]
      refine tD 20 43 (.pointer (some ⟨c, 1, none⟩)) rfl rfl [(42, .pointer (some ⟨c, 0, none⟩))] hH7 ?_
      dsimp only [sZ, sS]
      refine rD 21 rfl (fun K hK => ?_)
      go_simp
      have K6 := K5.set 0 rfl 1 (.slice a6 (n + 1) c6)
      obtain ⟨k6c0, k6c1, k6f0, k6f1, k6l⟩ := kf K6 0 rfl
      refine hK.out _ _ ?_ (fun hH8 => ?_)
      ·trivial
      clear hK K
      refine wpAnyH_done (by kernel_rfl) ?_ _
      go_wp2_with fail
      go_meet
      exact Lib.hid' ⟨a5, c5, a6, c6, ((K6.drop 4).drop 3).rearr [5, 5, 5, 9, 9, 9, 7, 8, 9, 9] rfl⟩
    ·skip
     go_simp
     have K2 := K1.allocAt (wd.heap.size + 1) [ptrV q] 127 (by simp)
     obtain ⟨k2c0, k2c1, k2f0, k2f1, k2l⟩ := kf K2 5 rfl
     refine hK.out _ _ ?_ (fun hH3 => ?_)
     ·trivial
     clear hK K
     try simp only [Act.put, gA, gZ, gS, sA, sZ, sS]
     refine wpAnyH_ready (rs := [8, 12]) (by kernel_rfl) (by simp) (AllReadyH.cons (o := _) rfl (fun K hK => ?_) (AllReadyH.cons (o := _) rfl (fun K hK => ?_) AllReadyH.nil))
     ·skip
      refine sep_ap etDisks (.tmp 29) (.tmp 31) 1 7 K2 (val := ptrV N) ?_
      intro a5 c5 w5 K3
      obtain ⟨k3c0, k3c1, k3f0, k3f1, k3l⟩ := kf K3 6 rfl
      refine hK.out _ _ ?_ (fun hH4 => ?_)
      ·trivial
      clear hK K
      try simp only [Act.put, gA, gZ, gS, sA, sZ, sS]
      refine rD 12 rfl (fun K hK => ?_)
      go_simp
      refine hK.out _ _ ?_ (fun hH5 => ?_)
      ·trivial
      clear hK K
      try simp only [Act.put, gA, gZ, gS, sA, sZ, sS]
      refine rD 15 rfl (fun K hK => ?_)
      refine sep_ap etShelves (.tmp 36) (.tmp 38) 1 8 K3 (val := ptrV q) ?_
      intro a6 c6 w6 K4
      obtain ⟨k4c0, k4c1, k4f0, k4f1, k4l⟩ := kf K4 7 rfl
      refine hK.out _ _ ?_ (fun hH6 => ?_)
      ·trivial
      clear hK K
      try simp only [Act.put, gA, gZ, gS, sA, sZ, sS]
      refine tD 16 40 (.pointer (some ⟨c, 0, none⟩)) rfl rfl [(24, .pointer (some ⟨c, 0, none⟩))] hH6 ?_
      dsimp only [sZ, sS]
      refine tD 17 41 (.pointer (some ⟨c, 0, none⟩)) rfl rfl [(40, .pointer (some ⟨c, 0, none⟩))] hH6 ?_
      dsimp only [sZ, sS]
      refine rD 18 rfl (fun K hK => ?_)
      go_simp
      have K5 := K4.set 7 rfl 0 (.slice a5 (n + 1) c5)
      obtain ⟨k5c0, k5c1, k5f0, k5f1, k5l⟩ := kf K5 0 rfl
      refine hK.out _ _ ?_ (fun hH7 => ?_)
      ·trivial
      clear hK K
      try simp only [Act.put, gA, gZ, gS, sA, sZ, sS]
      refine tD 19 42 (.pointer (some ⟨c, 0, none⟩)) rfl rfl [(25, .pointer (some ⟨c, 0, none⟩))] hH7 ?_
      dsimp only [sZ, sS]
      refine tD 20 43 (.pointer (some ⟨c, 1, none⟩)) rfl rfl [(42, .pointer (some ⟨c, 0, none⟩))] hH7 ?_
      dsimp only [sZ, sS]
      refine rD 21 rfl (fun K hK => ?_)
      go_simp
      have K6 := K5.set 0 rfl 1 (.slice a6 (n + 1) c6)
      obtain ⟨k6c0, k6c1, k6f0, k6f1, k6l⟩ := kf K6 0 rfl
      refine hK.out _ _ ?_ (fun hH8 => ?_)
      ·trivial
      clear hK K
      refine wpAnyH_done (by kernel_rfl) ?_ _
      go_wp2_with fail
      go_meet
      exact Lib.hid' ⟨a5, c5, a6, c6, ((K6.drop 4).drop 3).rearr [5, 5, 5, 9, 9, 9, 7, 8, 9, 9] rfl⟩
     ·skip
      go_simp
      refine hK.out _ _ ?_ (fun hH4 => ?_)
      ·trivial
      clear hK K
      try simp only [Act.put, gA, gZ, gS, sA, sZ, sS]
      refine rD 8 rfl (fun K hK => ?_)
      refine sep_ap etDisks (.tmp 29) (.tmp 31) 1 7 K2 (val := ptrV N) ?_
      intro a5 c5 w5 K3
      obtain ⟨k3c0, k3c1, k3f0, k3f1, k3l⟩ := kf K3 6 rfl
      refine hK.out _ _ ?_ (fun hH5 => ?_)
      ·trivial
      clear hK K
      try simp only [Act.put, gA, gZ, gS, sA, sZ, sS]
      refine rD 15 rfl (fun K hK => ?_)
      refine sep_ap etShelves (.tmp 36) (.tmp 38) 1 8 K3 (val := ptrV q) ?_
      intro a6 c6 w6 K4
      obtain ⟨k4c0, k4c1, k4f0, k4f1, k4l⟩ := kf K4 7 rfl
      refine hK.out _ _ ?_ (fun hH6 => ?_)
      ·trivial
      clear hK K
      try simp only [Act.put, gA, gZ, gS, sA, sZ, sS]
      refine tD 16 40 (.pointer (some ⟨c, 0, none⟩)) rfl rfl [(24, .pointer (some ⟨c, 0, none⟩))] hH6 ?_
      dsimp only [sZ, sS]
      refine tD 17 41 (.pointer (some ⟨c, 0, none⟩)) rfl rfl [(40, .pointer (some ⟨c, 0, none⟩))] hH6 ?_
      dsimp only [sZ, sS]
      refine rD 18 rfl (fun K hK => ?_)
      go_simp
      have K5 := K4.set 7 rfl 0 (.slice a5 (n + 1) c5)
      obtain ⟨k5c0, k5c1, k5f0, k5f1, k5l⟩ := kf K5 0 rfl
      refine hK.out _ _ ?_ (fun hH7 => ?_)
      ·trivial
      clear hK K
      try simp only [Act.put, gA, gZ, gS, sA, sZ, sS]
      refine tD 19 42 (.pointer (some ⟨c, 0, none⟩)) rfl rfl [(25, .pointer (some ⟨c, 0, none⟩))] hH7 ?_
      dsimp only [sZ, sS]
      refine tD 20 43 (.pointer (some ⟨c, 1, none⟩)) rfl rfl [(42, .pointer (some ⟨c, 0, none⟩))] hH7 ?_
      dsimp only [sZ, sS]
      refine rD 21 rfl (fun K hK => ?_)
      go_simp
      have K6 := K5.set 0 rfl 1 (.slice a6 (n + 1) c6)
      obtain ⟨k6c0, k6c1, k6f0, k6f1, k6l⟩ := kf K6 0 rfl
      refine hK.out _ _ ?_ (fun hH8 => ?_)
      ·trivial
      clear hK K
      refine wpAnyH_done (by kernel_rfl) ?_ _
      go_wp2_with fail
      go_meet
      exact Lib.hid' ⟨a5, c5, a6, c6, ((K6.drop 4).drop 3).rearr [5, 5, 5, 9, 9, 9, 7, 8, 9, 9] rfl⟩
   ·skip
    go_simp
    refine hK.out _ _ ?_ (fun hH2 => ?_)
    ·trivial
    clear hK K
    try simp only [Act.put, gA, gZ, gS, sA, sZ, sS]
    refine wpAnyH_ready (rs := [5, 14]) (by kernel_rfl) (by simp) (AllReadyH.cons (o := _) rfl (fun K hK => ?_) (AllReadyH.cons (o := _) rfl (fun K hK => ?_) AllReadyH.nil))
    ·skip
     go_simp
     refine hK.out _ _ ?_ (fun hH3 => ?_)
     ·trivial
     clear hK K
     try simp only [Act.put, gA, gZ, gS, sA, sZ, sS]
     refine wpAnyH_ready (rs := [8, 14]) (by kernel_rfl) (by simp) (AllReadyH.cons (o := _) rfl (fun K hK => ?_) (AllReadyH.cons (o := _) rfl (fun K hK => ?_) AllReadyH.nil))
     ·skip
      refine sep_ap etDisks (.tmp 29) (.tmp 31) 0 6 K1 (val := ptrV N) ?_
      intro a5 c5 w5 K2
      obtain ⟨k2c0, k2c1, k2f0, k2f1, k2l⟩ := kf K2 5 rfl
      refine hK.out _ _ ?_ (fun hH4 => ?_)
      ·trivial
      clear hK K
      try simp only [Act.put, gA, gZ, gS, sA, sZ, sS]
      refine rD 14 rfl (fun K hK => ?_)
      go_simp
      have K3 := K2.allocAt (w5.heap.size) [ptrV q] 127 (by simp)
      obtain ⟨k3c0, k3c1, k3f0, k3f1, k3l⟩ := kf K3 6 rfl
      refine hK.out _ _ ?_ (fun hH5 => ?_)
      ·trivial
      clear hK K
      try simp only [Act.put, gA, gZ, gS, sA, sZ, sS]
      refine rD 15 rfl (fun K hK => ?_)
      refine sep_ap etShelves (.tmp 36) (.tmp 38) 0 8 K3 (val := ptrV q) ?_
      intro a6 c6 w6 K4
      obtain ⟨k4c0, k4c1, k4f0, k4f1, k4l⟩ := kf K4 7 rfl
      refine hK.out _ _ ?_ (fun hH6 => ?_)
      ·trivial
      clear hK K
      try simp only [Act.put, gA, gZ, gS, sA, sZ, sS]
      refine tD 16 40 (.pointer (some ⟨c, 0, none⟩)) rfl rfl [(24, .pointer (some ⟨c, 0, none⟩))] hH6 ?_
      dsimp only [sZ, sS]
      refine tD 17 41 (.pointer (some ⟨c, 0, none⟩)) rfl rfl [(40, .pointer (some ⟨c, 0, none⟩))] hH6 ?_
      dsimp only [sZ, sS]
      refine rD 18 rfl (fun K hK => ?_)
      go_simp
      have K5 := K4.set 7 rfl 0 (.slice a5 (n + 1) c5)
      obtain ⟨k5c0, k5c1, k5f0, k5f1, k5l⟩ := kf K5 0 rfl
      refine hK.out _ _ ?_ (fun hH7 => ?_)
      ·trivial
      clear hK K
      try simp only [Act.put, gA, gZ, gS, sA, sZ, sS]
      refine tD 19 42 (.pointer (some ⟨c, 0, none⟩)) rfl rfl [(25, .pointer (some ⟨c, 0, none⟩))] hH7 ?_
      dsimp only [sZ, sS]
      refine tD 20 43 (.pointer (some ⟨c, 1, none⟩)) rfl rfl [(42, .pointer (some ⟨c, 0, none⟩))] hH7 ?_
      dsimp only [sZ, sS]
      refine rD 21 rfl (fun K hK => ?_)
      go_simp
      have K6 := K5.set 0 rfl 1 (.slice a6 (n + 1) c6)
      obtain ⟨k6c0, k6c1, k6f0, k6f1, k6l⟩ := kf K6 0 rfl
      refine hK.out _ _ ?_ (fun hH8 => ?_)
      ·trivial
      clear hK K
      refine wpAnyH_done (by kernel_rfl) ?_ _
      go_wp2_with fail
      go_meet
      exact Lib.hid' ⟨a5, c5, a6, c6, ((K6.drop 4).drop 2).rearr [5, 5, 5, 9, 9, 9, 7, 8, 9, 9] rfl⟩
     ·skip
      go_simp
      have K2 := K1.allocAt (wd.heap.size + 1) [ptrV q] 127 (by simp)
      obtain ⟨k2c0, k2c1, k2f0, k2f1, k2l⟩ := kf K2 5 rfl
      refine hK.out _ _ ?_ (fun hH4 => ?_)
      ·trivial
      clear hK K
      try simp only [Act.put, gA, gZ, gS, sA, sZ, sS]
      refine rD 8 rfl (fun K hK => ?_)
      refine sep_ap etDisks (.tmp 29) (.tmp 31) 1 7 K2 (val := ptrV N) ?_
      intro a5 c5 w5 K3
      obtain ⟨k3c0, k3c1, k3f0, k3f1, k3l⟩ := kf K3 6 rfl
      refine hK.out _ _ ?_ (fun hH5 => ?_)
      ·trivial
      clear hK K
      try simp only [Act.put, gA, gZ, gS, sA, sZ, sS]
      refine rD 15 rfl (fun K hK => ?_)
      refine sep_ap etShelves (.tmp 36) (.tmp 38) 1 8 K3 (val := ptrV q) ?_
      intro a6 c6 w6 K4
      obtain ⟨k4c0, k4c1, k4f0, k4f1, k4l⟩ := kf K4 7 rfl
      refine hK.out _ _ ?_ (fun hH6 => ?_)
      ·trivial
      clear hK K
      try simp only [Act.put, gA, gZ, gS, sA, sZ, sS]
      refine tD 16 40 (.pointer (some ⟨c, 0, none⟩)) rfl rfl [(24, .pointer (some ⟨c, 0, none⟩))] hH6 ?_
      dsimp only [sZ, sS]
      refine tD 17 41 (.pointer (some ⟨c, 0, none⟩)) rfl rfl [(40, .pointer (some ⟨c, 0, none⟩))] hH6 ?_
      dsimp only [sZ, sS]
      refine rD 18 rfl (fun K hK => ?_)
      go_simp
      have K5 := K4.set 7 rfl 0 (.slice a5 (n + 1) c5)
      obtain ⟨k5c0, k5c1, k5f0, k5f1, k5l⟩ := kf K5 0 rfl
      refine hK.out _ _ ?_ (fun hH7 => ?_)
      ·trivial
      clear hK K
      try simp only [Act.put, gA, gZ, gS, sA, sZ, sS]
      refine tD 19 42 (.pointer (some ⟨c, 0, none⟩)) rfl rfl [(25, .pointer (some ⟨c, 0, none⟩))] hH7 ?_
      dsimp only [sZ, sS]
      refine tD 20 43 (.pointer (some ⟨c, 1, none⟩)) rfl rfl [(42, .pointer (some ⟨c, 0, none⟩))] hH7 ?_
      dsimp only [sZ, sS]
      refine rD 21 rfl (fun K hK => ?_)
      go_simp
      have K6 := K5.set 0 rfl 1 (.slice a6 (n + 1) c6)
      obtain ⟨k6c0, k6c1, k6f0, k6f1, k6l⟩ := kf K6 0 rfl
      refine hK.out _ _ ?_ (fun hH8 => ?_)
      ·trivial
      clear hK K
      refine wpAnyH_done (by kernel_rfl) ?_ _
      go_wp2_with fail
      go_meet
      exact Lib.hid' ⟨a5, c5, a6, c6, ((K6.drop 4).drop 3).rearr [5, 5, 5, 9, 9, 9, 7, 8, 9, 9] rfl⟩
    ·skip
     go_simp
     have K2 := K1.allocAt (wd.heap.size + 1) [ptrV q] 127 (by simp)
     obtain ⟨k2c0, k2c1, k2f0, k2f1, k2l⟩ := kf K2 5 rfl
     refine hK.out _ _ ?_ (fun hH3 => ?_)
     ·trivial
     clear hK K
     try simp only [Act.put, gA, gZ, gS, sA, sZ, sS]
     refine rD 5 rfl (fun K hK => ?_)
     go_simp
     refine hK.out _ _ ?_ (fun hH4 => ?_)
     ·trivial
     clear hK K
     try simp only [Act.put, gA, gZ, gS, sA, sZ, sS]
     refine rD 8 rfl (fun K hK => ?_)
     refine sep_ap etDisks (.tmp 29) (.tmp 31) 1 7 K2 (val := ptrV N) ?_
     intro a5 c5 w5 K3
     obtain ⟨k3c0, k3c1, k3f0, k3f1, k3l⟩ := kf K3 6 rfl
     refine hK.out _ _ ?_ (fun hH5 => ?_)
     ·trivial
     clear hK K
     try simp only [Act.put, gA, gZ, gS, sA, sZ, sS]
     refine rD 15 rfl (fun K hK => ?_)
     refine sep_ap etShelves (.tmp 36) (.tmp 38) 1 8 K3 (val := ptrV q) ?_
     intro a6 c6 w6 K4
     obtain ⟨k4c0, k4c1, k4f0, k4f1, k4l⟩ := kf K4 7 rfl
     refine hK.out _ _ ?_ (fun hH6 => ?_)
     ·trivial
     clear hK K
     try simp only [Act.put, gA, gZ, gS, sA, sZ, sS]
     refine tD 16 40 (.pointer (some ⟨c, 0, none⟩)) rfl rfl [(24, .pointer (some ⟨c, 0, none⟩))] hH6 ?_
     dsimp only [sZ, sS]
     refine tD 17 41 (.pointer (some ⟨c, 0, none⟩)) rfl rfl [(40, .pointer (some ⟨c, 0, none⟩))] hH6 ?_
     dsimp only [sZ, sS]
     refine rD 18 rfl (fun K hK => ?_)
     go_simp
     have K5 := K4.set 7 rfl 0 (.slice a5 (n + 1) c5)
     obtain ⟨k5c0, k5c1, k5f0, k5f1, k5l⟩ := kf K5 0 rfl
     refine hK.out _ _ ?_ (fun hH7 => ?_)
     ·trivial
     clear hK K
     try simp only [Act.put, gA, gZ, gS, sA, sZ, sS]
     refine tD 19 42 (.pointer (some ⟨c, 0, none⟩)) rfl rfl [(25, .pointer (some ⟨c, 0, none⟩))] hH7 ?_
     dsimp only [sZ, sS]
     refine tD 20 43 (.pointer (some ⟨c, 1, none⟩)) rfl rfl [(42, .pointer (some ⟨c, 0, none⟩))] hH7 ?_
     dsimp only [sZ, sS]
     refine rD 21 rfl (fun K hK => ?_)
     go_simp
     have K6 := K5.set 0 rfl 1 (.slice a6 (n + 1) c6)
     obtain ⟨k6c0, k6c1, k6f0, k6f1, k6l⟩ := kf K6 0 rfl
     refine hK.out _ _ ?_ (fun hH8 => ?_)
     ·trivial
     clear hK K
     refine wpAnyH_done (by kernel_rfl) ?_ _
     go_wp2_with fail
     go_meet
     exact Lib.hid' ⟨a5, c5, a6, c6, ((K6.drop 4).drop 3).rearr [5, 5, 5, 9, 9, 9, 7, 8, 9, 9] rfl⟩
   ·skip
    go_simp
    have K2 := K1.allocAt (wd.heap.size + 1) [ptrV q] 127 (by simp)
    obtain ⟨k2c0, k2c1, k2f0, k2f1, k2l⟩ := kf K2 5 rfl
    refine hK.out _ _ ?_ (fun hH2 => ?_)
    ·trivial
    clear hK K
    try simp only [Act.put, gA, gZ, gS, sA, sZ, sS]
    refine wpAnyH_ready (rs := [5, 12]) (by kernel_rfl) (by simp) (AllReadyH.cons (o := _) rfl (fun K hK => ?_) (AllReadyH.cons (o := _) rfl (fun K hK => ?_) AllReadyH.nil))
    ·skip
     go_simp
     refine hK.out _ _ ?_ (fun hH3 => ?_)
     ·trivial
     clear hK K
     try simp only [Act.put, gA, gZ, gS, sA, sZ, sS]
     refine wpAnyH_ready (rs := [8, 12]) (by kernel_rfl) (by simp) (AllReadyH.cons (o := _) rfl (fun K hK => ?_) (AllReadyH.cons (o := _) rfl (fun K hK => ?_) AllReadyH.nil))
     ·skip
      refine sep_ap etDisks (.tmp 29) (.tmp 31) 1 7 K2 (val := ptrV N) ?_
      intro a5 c5 w5 K3
      obtain ⟨k3c0, k3c1, k3f0, k3f1, k3l⟩ := kf K3 6 rfl
      refine hK.out _ _ ?_ (fun hH4 => ?_)
      ·trivial
      clear hK K
      try simp only [Act.put, gA, gZ, gS, sA, sZ, sS]
      refine rD 12 rfl (fun K hK => ?_)
      go_simp
      refine hK.out _ _ ?_ (fun hH5 => ?_)
      ·trivial
      clear hK K
      try simp only [Act.put, gA, gZ, gS, sA, sZ, sS]
      refine rD 15 rfl (fun K hK => ?_)
      refine sep_ap etShelves (.tmp 36) (.tmp 38) 1 8 K3 (val := ptrV q) ?_
      intro a6 c6 w6 K4
      obtain ⟨k4c0, k4c1, k4f0, k4f1, k4l⟩ := kf K4 7 rfl
      refine hK.out _ _ ?_ (fun hH6 => ?_)
      ·trivial
      clear hK K
      try simp only [Act.put, gA, gZ, gS, sA, sZ, sS]
      refine tD 16 40 (.pointer (some ⟨c, 0, none⟩)) rfl rfl [(24, .pointer (some ⟨c, 0, none⟩))] hH6 ?_
      dsimp only [sZ, sS]
      refine tD 17 41 (.pointer (some ⟨c, 0, none⟩)) rfl rfl [(40, .pointer (some ⟨c, 0, none⟩))] hH6 ?_
      dsimp only [sZ, sS]
      refine rD 18 rfl (fun K hK => ?_)
      go_simp
      have K5 := K4.set 7 rfl 0 (.slice a5 (n + 1) c5)
      obtain ⟨k5c0, k5c1, k5f0, k5f1, k5l⟩ := kf K5 0 rfl
      refine hK.out _ _ ?_ (fun hH7 => ?_)
      ·trivial
      clear hK K
      try simp only [Act.put, gA, gZ, gS, sA, sZ, sS]
      refine tD 19 42 (.pointer (some ⟨c, 0, none⟩)) rfl rfl [(25, .pointer (some ⟨c, 0, none⟩))] hH7 ?_
      dsimp only [sZ, sS]
      refine tD 20 43 (.pointer (some ⟨c, 1, none⟩)) rfl rfl [(42, .pointer (some ⟨c, 0, none⟩))] hH7 ?_
      dsimp only [sZ, sS]
      refine rD 21 rfl (fun K hK => ?_)
      go_simp
      have K6 := K5.set 0 rfl 1 (.slice a6 (n + 1) c6)
      obtain ⟨k6c0, k6c1, k6f0, k6f1, k6l⟩ := kf K6 0 rfl
      refine hK.out _ _ ?_ (fun hH8 => ?_)
      ·trivial
      clear hK K
      refine wpAnyH_done (by kernel_rfl) ?_ _
      go_wp2_with fail
      go_meet
      exact Lib.hid' ⟨a5, c5, a6, c6, ((K6.drop 4).drop 3).rearr [5, 5, 5, 9, 9, 9, 7, 8, 9, 9] rfl⟩
     ·skip
      go_simp
      refine hK.out _ _ ?_ (fun hH4 => ?_)
      ·trivial
      clear hK K
      try simp only [Act.put, gA, gZ, gS, sA, sZ, sS]
      refine rD 8 rfl (fun K hK => ?_)
      refine sep_ap etDisks (.tmp 29) (.tmp 31) 1 7 K2 (val := ptrV N) ?_
      intro a5 c5 w5 K3
      obtain ⟨k3c0, k3c1, k3f0, k3f1, k3l⟩ := kf K3 6 rfl
      refine hK.out _ _ ?_ (fun hH5 => ?_)
      ·trivial
      clear hK K
      try simp only [Act.put, gA, gZ, gS, sA, sZ, sS]
      refine rD 15 rfl (fun K hK => ?_)
      refine sep_ap etShelves (.tmp 36) (.tmp 38) 1 8 K3 (val := ptrV q) ?_
      intro a6 c6 w6 K4
      obtain ⟨k4c0, k4c1, k4f0, k4f1, k4l⟩ := kf K4 7 rfl
      refine hK.out _ _ ?_ (fun hH6 => ?_)
      ·trivial
      clear hK K
      try simp only [Act.put, gA, gZ, gS, sA, sZ, sS]
      refine tD 16 40 (.pointer (some ⟨c, 0, none⟩)) rfl rfl [(24, .pointer (some ⟨c, 0, none⟩))] hH6 ?_
      dsimp only [sZ, sS]
      refine tD 17 41 (.pointer (some ⟨c, 0, none⟩)) rfl rfl [(40, .pointer (some ⟨c, 0, none⟩))] hH6 ?_
      dsimp only [sZ, sS]
      refine rD 18 rfl (fun K hK => ?_)
      go_simp
      have K5 := K4.set 7 rfl 0 (.slice a5 (n + 1) c5)
      obtain ⟨k5c0, k5c1, k5f0, k5f1, k5l⟩ := kf K5 0 rfl
      refine hK.out _ _ ?_ (fun hH7 => ?_)
      ·trivial
      clear hK K
      try simp only [Act.put, gA, gZ, gS, sA, sZ, sS]
      refine tD 19 42 (.pointer (some ⟨c, 0, none⟩)) rfl rfl [(25, .pointer (some ⟨c, 0, none⟩))] hH7 ?_
      dsimp only [sZ, sS]
      refine tD 20 43 (.pointer (some ⟨c, 1, none⟩)) rfl rfl [(42, .pointer (some ⟨c, 0, none⟩))] hH7 ?_
      dsimp only [sZ, sS]
      refine rD 21 rfl (fun K hK => ?_)
      go_simp
      have K6 := K5.set 0 rfl 1 (.slice a6 (n + 1) c6)
      obtain ⟨k6c0, k6c1, k6f0, k6f1, k6l⟩ := kf K6 0 rfl
      refine hK.out _ _ ?_ (fun hH8 => ?_)
      ·trivial
      clear hK K
      refine wpAnyH_done (by kernel_rfl) ?_ _
      go_wp2_with fail
      go_meet
      exact Lib.hid' ⟨a5, c5, a6, c6, ((K6.drop 4).drop 3).rearr [5, 5, 5, 9, 9, 9, 7, 8, 9, 9] rfl⟩
    ·skip
     go_simp
     refine hK.out _ _ ?_ (fun hH3 => ?_)
     ·trivial
     clear hK K
     try simp only [Act.put, gA, gZ, gS, sA, sZ, sS]
     refine rD 5 rfl (fun K hK => ?_)
     go_simp
     refine hK.out _ _ ?_ (fun hH4 => ?_)
     ·trivial
     clear hK K
     try simp only [Act.put, gA, gZ, gS, sA, sZ, sS]
     refine rD 8 rfl (fun K hK => ?_)
     refine sep_ap etDisks (.tmp 29) (.tmp 31) 1 7 K2 (val := ptrV N) ?_
     intro a5 c5 w5 K3
     obtain ⟨k3c0, k3c1, k3f0, k3f1, k3l⟩ := kf K3 6 rfl
     refine hK.out _ _ ?_ (fun hH5 => ?_)
     ·trivial
     clear hK K
     try simp only [Act.put, gA, gZ, gS, sA, sZ, sS]
     refine rD 15 rfl (fun K hK => ?_)
     refine sep_ap etShelves (.tmp 36) (.tmp 38) 1 8 K3 (val := ptrV q) ?_
     intro a6 c6 w6 K4
     obtain ⟨k4c0, k4c1, k4f0, k4f1, k4l⟩ := kf K4 7 rfl
     refine hK.out _ _ ?_ (fun hH6 => ?_)
     ·trivial
     clear hK K
     try simp only [Act.put, gA, gZ, gS, sA, sZ, sS]
     refine tD 16 40 (.pointer (some ⟨c, 0, none⟩)) rfl rfl [(24, .pointer (some ⟨c, 0, none⟩))] hH6 ?_
     dsimp only [sZ, sS]
     refine tD 17 41 (.pointer (some ⟨c, 0, none⟩)) rfl rfl [(40, .pointer (some ⟨c, 0, none⟩))] hH6 ?_
     dsimp only [sZ, sS]
     refine rD 18 rfl (fun K hK => ?_)
     go_simp
     have K5 := K4.set 7 rfl 0 (.slice a5 (n + 1) c5)
     obtain ⟨k5c0, k5c1, k5f0, k5f1, k5l⟩ := kf K5 0 rfl
     refine hK.out _ _ ?_ (fun hH7 => ?_)
     ·trivial
     clear hK K
     try simp only [Act.put, gA, gZ, gS, sA, sZ, sS]
     refine tD 19 42 (.pointer (some ⟨c, 0, none⟩)) rfl rfl [(25, .pointer (some ⟨c, 0, none⟩))] hH7 ?_
     dsimp only [sZ, sS]
     refine tD 20 43 (.pointer (some ⟨c, 1, none⟩)) rfl rfl [(42, .pointer (some ⟨c, 0, none⟩))] hH7 ?_
     dsimp only [sZ, sS]
     refine rD 21 rfl (fun K hK => ?_)
     go_simp
     have K6 := K5.set 0 rfl 1 (.slice a6 (n + 1) c6)
     obtain ⟨k6c0, k6c1, k6f0, k6f1, k6l⟩ := kf K6 0 rfl
     refine hK.out _ _ ?_ (fun hH8 => ?_)
     ·trivial
     clear hK K
     refine wpAnyH_done (by kernel_rfl) ?_ _
     go_wp2_with fail
     go_meet
     exact Lib.hid' ⟨a5, c5, a6, c6, ((K6.drop 4).drop 3).rearr [5, 5, 5, 9, 9, 9, 7, 8, 9, 9] rfl⟩
  ·skip
   go_simp
   refine hK.out _ _ ?_ (fun hH1 => ?_)
   ·trivial
   clear hK K
   try simp only [Act.put, gA, gZ, gS, sA, sZ, sS]
   refine wpAnyH_ready (rs := [5, 7, 14]) (by kernel_rfl) (by simp) (AllReadyH.cons (o := _) rfl (fun K hK => ?_) (AllReadyH.cons (o := _) rfl (fun K hK => ?_) (AllReadyH.cons (o := _) rfl (fun K hK => ?_) AllReadyH.nil)))
   ·skip
    go_simp
    refine hK.out _ _ ?_ (fun hH2 => ?_)
    ·trivial
    clear hK K
    try simp only [Act.put, gA, gZ, gS, sA, sZ, sS]
    refine wpAnyH_ready (rs := [7, 14]) (by kernel_rfl) (by simp) (AllReadyH.cons (o := _) rfl (fun K hK => ?_) (AllReadyH.cons (o := _) rfl (fun K hK => ?_) AllReadyH.nil))
    ·skip
     go_simp
     have K1 := K0.allocAt (wd.heap.size) [ptrV N] 124 (by simp)
     obtain ⟨k1c0, k1c1, k1f0, k1f1, k1l⟩ := kf K1 4 rfl
     refine hK.out _ _ ?_ (fun hH3 => ?_)
     ·trivial
     clear hK K
     try simp only [Act.put, gA, gZ, gS, sA, sZ, sS]
     refine wpAnyH_ready (rs := [8, 14]) (by kernel_rfl) (by simp) (AllReadyH.cons (o := _) rfl (fun K hK => ?_) (AllReadyH.cons (o := _) rfl (fun K hK => ?_) AllReadyH.nil))
     ·skip
      refine sep_ap etDisks (.tmp 29) (.tmp 31) 0 6 K1 (val := ptrV N) ?_
      intro a5 c5 w5 K2
      obtain ⟨k2c0, k2c1, k2f0, k2f1, k2l⟩ := kf K2 5 rfl
      refine hK.out _ _ ?_ (fun hH4 => ?_)
      ·trivial
      clear hK K
      try simp only [Act.put, gA, gZ, gS, sA, sZ, sS]
      refine rD 14 rfl (fun K hK => ?_)
      go_simp
      have K3 := K2.allocAt (w5.heap.size) [ptrV q] 127 (by simp)
      obtain ⟨k3c0, k3c1, k3f0, k3f1, k3l⟩ := kf K3 6 rfl
      refine hK.out _ _ ?_ (fun hH5 => ?_)
      ·trivial
      clear hK K
      try simp only [Act.put, gA, gZ, gS, sA, sZ, sS]
      refine rD 15 rfl (fun K hK => ?_)
      refine sep_ap etShelves (.tmp 36) (.tmp 38) 0 8 K3 (val := ptrV q) ?_
      intro a6 c6 w6 K4
      obtain ⟨k4c0, k4c1, k4f0, k4f1, k4l⟩ := kf K4 7 rfl
      refine hK.out _ _ ?_ (fun hH6 => ?_)
      ·trivial
      clear hK K
      try simp only [Act.put, gA, gZ, gS, sA, sZ, sS]
      refine tD 16 40 (.pointer (some ⟨c, 0, none⟩)) rfl rfl [(24, .pointer (some ⟨c, 0, none⟩))] hH6 ?_
      dsimp only [sZ, sS]
      refine tD 17 41 (.pointer (some ⟨c, 0, none⟩)) rfl rfl [(40, .pointer (some ⟨c, 0, none⟩))] hH6 ?_
      dsimp only [sZ, sS]
      refine rD 18 rfl (fun K hK => ?_)
      go_simp
      have K5 := K4.set 7 rfl 0 (.slice a5 (n + 1) c5)
      obtain ⟨k5c0, k5c1, k5f0, k5f1, k5l⟩ := kf K5 0 rfl
      refine hK.out _ _ ?_ (fun hH7 => ?_)
      ·trivial
      clear hK K
      try simp only [Act.put, gA, gZ, gS, sA, sZ, sS]
      refine tD 19 42 (.pointer (some ⟨c, 0, none⟩)) rfl rfl [(25, .pointer (some ⟨c, 0, none⟩))] hH7 ?_
      dsimp only [sZ, sS]
      refine tD 20 43 (.pointer (some ⟨c, 1, none⟩)) rfl rfl [(42, .pointer (some ⟨c, 0, none⟩))] hH7 ?_
      dsimp only [sZ, sS]
      refine rD 21 rfl (fun K hK => ?_)
      go_simp
      have K6 := K5.set 0 rfl 1 (.slice a6 (n + 1) c6)
      obtain ⟨k6c0, k6c1, k6f0, k6f1, k6l⟩ := kf K6 0 rfl
      refine hK.out _ _ ?_ (fun hH8 => ?_)
      ·trivial
      clear hK K
      refine wpAnyH_done (by kernel_rfl) ?_ _
      go_wp2_with fail
      go_meet
      exact Lib.hid' ⟨a5, c5, a6, c6, ((K6.drop 4).drop 2).rearr [5, 5, 5, 9, 9, 9, 7, 8, 9, 9] rfl⟩
     ·skip
      go_simp
      have K2 := K1.allocAt (wd.heap.size + 1) [ptrV q] 127 (by simp)
      obtain ⟨k2c0, k2c1, k2f0, k2f1, k2l⟩ := kf K2 5 rfl
      refine hK.out _ _ ?_ (fun hH4 => ?_)
      ·trivial
      clear hK K
      try simp only [Act.put, gA, gZ, gS, sA, sZ, sS]
      refine rD 8 rfl (fun K hK => ?_)
      refine sep_ap etDisks (.tmp 29) (.tmp 31) 1 7 K2 (val := ptrV N) ?_
      intro a5 c5 w5 K3
      obtain ⟨k3c0, k3c1, k3f0, k3f1, k3l⟩ := kf K3 6 rfl
      refine hK.out _ _ ?_ (fun hH5 => ?_)
      ·trivial
      clear hK K
      try simp only [Act.put, gA, gZ, gS, sA, sZ, sS]
      refine rD 15 rfl (fun K hK => ?_)
      refine sep_ap etShelves (.tmp 36) (.tmp 38) 1 8 K3 (val := ptrV q) ?_
      intro a6 c6 w6 K4
      obtain ⟨k4c0, k4c1, k4f0, k4f1, k4l⟩ := kf K4 7 rfl
      refine hK.out _ _ ?_ (fun hH6 => ?_)
      ·trivial
      clear hK K
      try simp only [Act.put, gA, gZ, gS, sA, sZ, sS]
      refine tD 16 40 (.pointer (some ⟨c, 0, none⟩)) rfl rfl [(24, .pointer (some ⟨c, 0, none⟩))] hH6 ?_
      dsimp only [sZ, sS]
      refine tD 17 41 (.pointer (some ⟨c, 0, none⟩)) rfl rfl [(40, .pointer (some ⟨c, 0, none⟩))] hH6 ?_
      dsimp only [sZ, sS]
      refine rD 18 rfl (fun K hK => ?_)
      go_simp
      have K5 := K4.set 7 rfl 0 (.slice a5 (n + 1) c5)
      obtain ⟨k5c0, k5c1, k5f0, k5f1, k5l⟩ := kf K5 0 rfl
      refine hK.out _ _ ?_ (fun hH7 => ?_)
      ·trivial
      clear hK K
      try simp only [Act.put, gA, gZ, gS, sA, sZ, sS]
      refine tD 19 42 (.pointer (some ⟨c, 0, none⟩)) rfl rfl [(25, .pointer (some ⟨c, 0, none⟩))] hH7 ?_
      dsimp only [sZ, sS]
      refine tD 20 43 (.pointer (some ⟨c, 1, none⟩)) rfl rfl [(42, .pointer (some ⟨c, 0, none⟩))] hH7 ?_
      dsimp only [sZ, sS]
      refine rD 21 rfl (fun K hK => ?_)
      go_simp
      have K6 := K5.set 0 rfl 1 (.slice a6 (n + 1) c6)
      obtain ⟨k6c0, k6c1, k6f0, k6f1, k6l⟩ := kf K6 0 rfl
      refine hK.out _ _ ?_ (fun hH8 => ?_)
      ·trivial
      clear hK K
      refine wpAnyH_done (by kernel_rfl) ?_ _
      go_wp2_with fail
      go_meet
      exact Lib.hid' ⟨a5, c5, a6, c6, ((K6.drop 4).drop 3).rearr [5, 5, 5, 9, 9, 9, 7, 8, 9, 9] rfl⟩
    ·skip
     go_simp
     have K1 := K0.allocAt (wd.heap.size) [ptrV q] 127 (by simp)
     obtain ⟨k1c0, k1c1, k1f0, k1f1, k1l⟩ := kf K1 4 rfl
     refine hK.out _ _ ?_ (fun hH3 => ?_)
     ·trivial
     clear hK K
     try simp only [Act.put, gA, gZ, gS, sA, sZ, sS]
     refine rD 7 rfl (fun K hK => ?_)
     go_simp
     have K2 := K1.allocAt (wd.heap.size + 1) [ptrV N] 124 (by simp)
     obtain ⟨k2c0, k2c1, k2f0, k2f1, k2l⟩ := kf K2 5 rfl
     refine hK.out _ _ ?_ (fun hH4 => ?_)
     ·trivial
     clear hK K
     try simp only [Act.put, gA, gZ, gS, sA, sZ, sS]
     refine rD 8 rfl (fun K hK => ?_)
     refine sep_ap etDisks (.tmp 29) (.tmp 31) 0 7 K2 (val := ptrV N) ?_
     intro a5 c5 w5 K3
     obtain ⟨k3c0, k3c1, k3f0, k3f1, k3l⟩ := kf K3 6 rfl
     refine hK.out _ _ ?_ (fun hH5 => ?_)
     ·trivial
     clear hK K
     try simp only [Act.put, gA, gZ, gS, sA, sZ, sS]
     refine rD 15 rfl (fun K hK => ?_)
     refine sep_ap etShelves (.tmp 36) (.tmp 38) 2 8 K3 (val := ptrV q) ?_
     intro a6 c6 w6 K4
     obtain ⟨k4c0, k4c1, k4f0, k4f1, k4l⟩ := kf K4 7 rfl
     refine hK.out _ _ ?_ (fun hH6 => ?_)
     ·trivial
     clear hK K
     try simp only [Act.put, gA, gZ, gS, sA, sZ, sS]
     refine tD 16 40 (.pointer (some ⟨c, 0, none⟩)) rfl rfl [(24, .pointer (some ⟨c, 0, none⟩))] hH6 ?_
     dsimp only [sZ, sS]
     refine tD 17 41 (.pointer (some ⟨c, 0, none⟩)) rfl rfl [(40, .pointer (some ⟨c, 0, none⟩))] hH6 ?_
     dsimp only [sZ, sS]
     refine rD 18 rfl (fun K hK => ?_)
     go_simp
     have K5 := K4.set 7 rfl 0 (.slice a5 (n + 1) c5)
     obtain ⟨k5c0, k5c1, k5f0, k5f1, k5l⟩ := kf K5 0 rfl
     refine hK.out _ _ ?_ (fun hH7 => ?_)
     ·trivial
     clear hK K
     try simp only [Act.put, gA, gZ, gS, sA, sZ, sS]
     refine tD 19 42 (.pointer (some ⟨c, 0, none⟩)) rfl rfl [(25, .pointer (some ⟨c, 0, none⟩))] hH7 ?_
     dsimp only [sZ, sS]
     refine tD 20 43 (.pointer (some ⟨c, 1, none⟩)) rfl rfl [(42, .pointer (some ⟨c, 0, none⟩))] hH7 ?_
     dsimp only [sZ, sS]
     refine rD 21 rfl (fun K hK => ?_)
     go_simp
     have K6 := K5.set 0 rfl 1 (.slice a6 (n + 1) c6)
     obtain ⟨k6c0, k6c1, k6f0, k6f1, k6l⟩ := kf K6 0 rfl
     refine hK.out _ _ ?_ (fun hH8 => ?_)
     ·trivial
     clear hK K
     refine wpAnyH_done (by kernel_rfl) ?_ _
     go_wp2_with fail
     go_meet
     exact Lib.hid' ⟨a5, c5, a6, c6, ((K6.drop 3).drop 3).rearr [5, 5, 5, 9, 9, 9, 7, 8, 9, 9] rfl⟩
   ·skip
    go_simp
    have K1 := K0.allocAt (wd.heap.size) [ptrV N] 124 (by simp)
    obtain ⟨k1c0, k1c1, k1f0, k1f1, k1l⟩ := kf K1 4 rfl
    refine hK.out _ _ ?_ (fun hH2 => ?_)
    ·trivial
    clear hK K
    try simp only [Act.put, gA, gZ, gS, sA, sZ, sS]
    refine wpAnyH_ready (rs := [5, 14]) (by kernel_rfl) (by simp) (AllReadyH.cons (o := _) rfl (fun K hK => ?_) (AllReadyH.cons (o := _) rfl (fun K hK => ?_) AllReadyH.nil))
    ·skip
     go_simp
     refine hK.out _ _ ?_ (fun hH3 => ?_)
     ·trivial
     clear hK K
     try simp only [Act.put, gA, gZ, gS, sA, sZ, sS]
     refine wpAnyH_ready (rs := [8, 14]) (by kernel_rfl) (by simp) (AllReadyH.cons (o := _) rfl (fun K hK => ?_) (AllReadyH.cons (o := _) rfl (fun K hK => ?_) AllReadyH.nil))
     ·skip
      refine sep_ap etDisks (.tmp 29) (.tmp 31) 0 6 K1 (val := ptrV N) ?_
      intro a5 c5 w5 K2
      obtain ⟨k2c0, k2c1, k2f0, k2f1, k2l⟩ := kf K2 5 rfl
      refine hK.out _ _ ?_ (fun hH4 => ?_)
      ·trivial
      clear hK K
      try simp only [Act.put, gA, gZ, gS, sA, sZ, sS]
      refine rD 14 rfl (fun K hK => ?_)
      go_simp
      have K3 := K2.allocAt (w5.heap.size) [ptrV q] 127 (by simp)
      obtain ⟨k3c0, k3c1, k3f0, k3f1, k3l⟩ := kf K3 6 rfl
      refine hK.out _ _ ?_ (fun hH5 => ?_)
      ·trivial
      clear hK K
      try simp only [Act.put, gA, gZ, gS, sA, sZ, sS]
      refine rD 15 rfl (fun K hK => ?_)
      refine sep_ap etShelves (.tmp 36) (.tmp 38) 0 8 K3 (val := ptrV q) ?_
      intro a6 c6 w6 K4
      obtain ⟨k4c0, k4c1, k4f0, k4f1, k4l⟩ := kf K4 7 rfl
      refine hK.out _ _ ?_ (fun hH6 => ?_)
      ·trivial
      clear hK K
      try simp only [Act.put, gA, gZ, gS, sA, sZ, sS]
      refine tD 16 40 (.pointer (some ⟨c, 0, none⟩)) rfl rfl [(24, .pointer (some ⟨c, 0, none⟩))] hH6 ?_
      dsimp only [sZ, sS]
      refine tD 17 41 (.pointer (some ⟨c, 0, none⟩)) rfl rfl [(40, .pointer (some ⟨c, 0, none⟩))] hH6 ?_
      dsimp only [sZ, sS]
      refine rD 18 rfl (fun K hK => ?_)
      go_simp
      have K5 := K4.set 7 rfl 0 (.slice a5 (n + 1) c5)
      obtain ⟨k5c0, k5c1, k5f0, k5f1, k5l⟩ := kf K5 0 rfl
      refine hK.out _ _ ?_ (fun hH7 => ?_)
      ·trivial
      clear hK K
      try simp only [Act.put, gA, gZ, gS, sA, sZ, sS]
      refine tD 19 42 (.pointer (some ⟨c, 0, none⟩)) rfl rfl [(25, .pointer (some ⟨c, 0, none⟩))] hH7 ?_
      dsimp only [sZ, sS]
      refine tD 20 43 (.pointer (some ⟨c, 1, none⟩)) rfl rfl [(42, .pointer (some ⟨c, 0, none⟩))] hH7 ?_
      dsimp only [sZ, sS]
      refine rD 21 rfl (fun K hK => ?_)
      go_simp
      have K6 := K5.set 0 rfl 1 (.slice a6 (n + 1) c6)
      obtain ⟨k6c0, k6c1, k6f0, k6f1, k6l⟩ := kf K6 0 rfl
      refine hK.out _ _ ?_ (fun hH8 => ?_)
      ·trivial
      clear hK K
      refine wpAnyH_done (by kernel_rfl) ?_ _
      go_wp2_with fail
      go_meet
      exact Lib.hid' ⟨a5, c5, a6, c6, ((K6.drop 4).drop 2).rearr [5, 5, 5, 9, 9, 9, 7, 8, 9, 9] rfl⟩
     ·skip
      go_simp
      have K2 := K1.allocAt (wd.heap.size + 1) [ptrV q] 127 (by simp)
      obtain ⟨k2c0, k2c1, k2f0, k2f1, k2l⟩ := kf K2 5 rfl
      refine hK.out _ _ ?_ (fun hH4 => ?_)
      ·trivial
      clear hK K
      try simp only [Act.put, gA, gZ, gS, sA, sZ, sS]
      refine rD 8 rfl (fun K hK => ?_)
      refine sep_ap etDisks (.tmp 29) (.tmp 31) 1 7 K2 (val := ptrV N) ?_
      intro a5 c5 w5 K3
      obtain ⟨k3c0, k3c1, k3f0, k3f1, k3l⟩ := kf K3 6 rfl
      refine hK.out _ _ ?_ (fun hH5 => ?_)
      ·trivial
      clear hK K
      try simp only [Act.put, gA, gZ, gS, sA, sZ, sS]
      refine rD 15 rfl (fun K hK => ?_)
      refine sep_ap etShelves (.tmp 36) (.tmp 38) 1 8 K3 (val := ptrV q) ?_
      intro a6 c6 w6 K4
      obtain ⟨k4c0, k4c1, k4f0, k4f1, k4l⟩ := kf K4 7 rfl
      refine hK.out _ _ ?_ (fun hH6 => ?_)
      ·trivial
      clear hK K
      try simp only [Act.put, gA, gZ, gS, sA, sZ, sS]
      refine tD 16 40 (.pointer (some ⟨c, 0, none⟩)) rfl rfl [(24, .pointer (some ⟨c, 0, none⟩))] hH6 ?_
      dsimp only [sZ, sS]
      refine tD 17 41 (.pointer (some ⟨c, 0, none⟩)) rfl rfl [(40, .pointer (some ⟨c, 0, none⟩))] hH6 ?_
      dsimp only [sZ, sS]
      refine rD 18 rfl (fun K hK => ?_)
      go_simp
      have K5 := K4.set 7 rfl 0 (.slice a5 (n + 1) c5)
      obtain ⟨k5c0, k5c1, k5f0, k5f1, k5l⟩ := kf K5 0 rfl
      refine hK.out _ _ ?_ (fun hH7 => ?_)
      ·trivial
      clear hK K
      try simp only [Act.put, gA, gZ, gS, sA, sZ, sS]
      refine tD 19 42 (.pointer (some ⟨c, 0, none⟩)) rfl rfl [(25, .pointer (some ⟨c, 0, none⟩))] hH7 ?_
      dsimp only [sZ, sS]
      refine tD 20 43 (.pointer (some ⟨c, 1, none⟩)) rfl rfl [(42, .pointer (some ⟨c, 0, none⟩))] hH7 ?_
      dsimp only [sZ, sS]
      refine rD 21 rfl (fun K hK => ?_)
      go_simp
      have K6 := K5.set 0 rfl 1 (.slice a6 (n + 1) c6)
      obtain ⟨k6c0, k6c1, k6f0, k6f1, k6l⟩ := kf K6 0 rfl
      refine hK.out _ _ ?_ (fun hH8 => ?_)
      ·trivial
      clear hK K
      refine wpAnyH_done (by kernel_rfl) ?_ _
      go_wp2_with fail
      go_meet
      exact Lib.hid' ⟨a5, c5, a6, c6, ((K6.drop 4).drop 3).rearr [5, 5, 5, 9, 9, 9, 7, 8, 9, 9] rfl⟩
    ·skip
     go_simp
     have K2 := K1.allocAt (wd.heap.size + 1) [ptrV q] 127 (by simp)
     obtain ⟨k2c0, k2c1, k2f0, k2f1, k2l⟩ := kf K2 5 rfl
     refine hK.out _ _ ?_ (fun hH3 => ?_)
     ·trivial
     clear hK K
     try simp only [Act.put, gA, gZ, gS, sA, sZ, sS]
     refine rD 5 rfl (fun K hK => ?_)
     go_simp
     refine hK.out _ _ ?_ (fun hH4 => ?_)
     ·trivial
     clear hK K
     try simp only [Act.put, gA, gZ, gS, sA, sZ, sS]
     refine rD 8 rfl (fun K hK => ?_)
     refine sep_ap etDisks (.tmp 29) (.tmp 31) 1 7 K2 (val := ptrV N) ?_
     intro a5 c5 w5 K3
     obtain ⟨k3c0, k3c1, k3f0, k3f1, k3l⟩ := kf K3 6 rfl
     refine hK.out _ _ ?_ (fun hH5 => ?_)
     ·trivial
     clear hK K
     try simp only [Act.put, gA, gZ, gS, sA, sZ, sS]
     refine rD 15 rfl (fun K hK => ?_)
     refine sep_ap etShelves (.tmp 36) (.tmp 38) 1 8 K3 (val := ptrV q) ?_
     intro a6 c6 w6 K4
     obtain ⟨k4c0, k4c1, k4f0, k4f1, k4l⟩ := kf K4 7 rfl
     refine hK.out _ _ ?_ (fun hH6 => ?_)
     ·trivial
     clear hK K
     try simp only [Act.put, gA, gZ, gS, sA, sZ, sS]
     refine tD 16 40 (.pointer (some ⟨c, 0, none⟩)) rfl rfl [(24, .pointer (some ⟨c, 0, none⟩))] hH6 ?_
     dsimp only [sZ, sS]
     refine tD 17 41 (.pointer (some ⟨c, 0, none⟩)) rfl rfl [(40, .pointer (some ⟨c, 0, none⟩))] hH6 ?_
     dsimp only [sZ, sS]
     refine rD 18 rfl (fun K hK => ?_)
     go_simp
     have K5 := K4.set 7 rfl 0 (.slice a5 (n + 1) c5)
     obtain ⟨k5c0, k5c1, k5f0, k5f1, k5l⟩ := kf K5 0 rfl
     refine hK.out _ _ ?_ (fun hH7 => ?_)
     ·trivial
     clear hK K
     try simp only [Act.put, gA, gZ, gS, sA, sZ, sS]
     refine tD 19 42 (.pointer (some ⟨c, 0, none⟩)) rfl rfl [(25, .pointer (some ⟨c, 0, none⟩))] hH7 ?_
     dsimp only [sZ, sS]
     refine tD 20 43 (.pointer (some ⟨c, 1, none⟩)) rfl rfl [(42, .pointer (some ⟨c, 0, none⟩))] hH7 ?_
     dsimp only [sZ, sS]
     refine rD 21 rfl (fun K hK => ?_)
     go_simp
     have K6 := K5.set 0 rfl 1 (.slice a6 (n + 1) c6)
     obtain ⟨k6c0, k6c1, k6f0, k6f1, k6l⟩ := kf K6 0 rfl
     refine hK.out _ _ ?_ (fun hH8 => ?_)
     ·trivial
     clear hK K
     refine wpAnyH_done (by kernel_rfl) ?_ _
     go_wp2_with fail
     go_meet
     exact Lib.hid' ⟨a5, c5, a6, c6, ((K6.drop 4).drop 3).rearr [5, 5, 5, 9, 9, 9, 7, 8, 9, 9] rfl⟩
   ·skip
    go_simp
    have K1 := K0.allocAt (wd.heap.size) [ptrV q] 127 (by simp)
    obtain ⟨k1c0, k1c1, k1f0, k1f1, k1l⟩ := kf K1 4 rfl
    refine hK.out _ _ ?_ (fun hH2 => ?_)
    ·trivial
    clear hK K
    try simp only [Act.put, gA, gZ, gS, sA, sZ, sS]
    refine wpAnyH_ready (rs := [5, 7]) (by kernel_rfl) (by simp) (AllReadyH.cons (o := _) rfl (fun K hK => ?_) (AllReadyH.cons (o := _) rfl (fun K hK => ?_) AllReadyH.nil))
    ·skip
     go_simp
     refine hK.out _ _ ?_ (fun hH3 => ?_)
     ·trivial
     clear hK K
     try simp only [Act.put, gA, gZ, gS, sA, sZ, sS]
     refine rD 7 rfl (fun K hK => ?_)
     go_simp
     have K2 := K1.allocAt (wd.heap.size + 1) [ptrV N] 124 (by simp)
     obtain ⟨k2c0, k2c1, k2f0, k2f1, k2l⟩ := kf K2 5 rfl
     refine hK.out _ _ ?_ (fun hH4 => ?_)
     ·trivial
     clear hK K
     try simp only [Act.put, gA, gZ, gS, sA, sZ, sS]
     refine rD 8 rfl (fun K hK => ?_)
     refine sep_ap etDisks (.tmp 29) (.tmp 31) 0 7 K2 (val := ptrV N) ?_
     intro a5 c5 w5 K3
     obtain ⟨k3c0, k3c1, k3f0, k3f1, k3l⟩ := kf K3 6 rfl
     refine hK.out _ _ ?_ (fun hH5 => ?_)
     ·trivial
     clear hK K
     try simp only [Act.put, gA, gZ, gS, sA, sZ, sS]
     refine rD 15 rfl (fun K hK => ?_)
     refine sep_ap etShelves (.tmp 36) (.tmp 38) 2 8 K3 (val := ptrV q) ?_
     intro a6 c6 w6 K4
     obtain ⟨k4c0, k4c1, k4f0, k4f1, k4l⟩ := kf K4 7 rfl
     refine hK.out _ _ ?_ (fun hH6 => ?_)
     ·trivial
     clear hK K
     try simp only [Act.put, gA, gZ, gS, sA, sZ, sS]
     refine tD 16 40 (.pointer (some ⟨c, 0, none⟩)) rfl rfl [(24, .pointer (some ⟨c, 0, none⟩))] hH6 ?_
     dsimp only [sZ, sS]
     refine tD 17 41 (.pointer (some ⟨c, 0, none⟩)) rfl rfl [(40, .pointer (some ⟨c, 0, none⟩))] hH6 ?_
     dsimp only [sZ, sS]
     refine rD 18 rfl (fun K hK => ?_)
     go_simp
     have K5 := K4.set 7 rfl 0 (.slice a5 (n + 1) c5)
     obtain ⟨k5c0, k5c1, k5f0, k5f1, k5l⟩ := kf K5 0 rfl
     refine hK.out _ _ ?_ (fun hH7 => ?_)
     ·trivial
     clear hK K
     try simp only [Act.put, gA, gZ, gS, sA, sZ, sS]
     refine tD 19 42 (.pointer (some ⟨c, 0, none⟩)) rfl rfl [(25, .pointer (some ⟨c, 0, none⟩))] hH7 ?_
     dsimp only [sZ, sS]
     refine tD 20 43 (.pointer (some ⟨c, 1, none⟩)) rfl rfl [(42, .pointer (some ⟨c, 0, none⟩))] hH7 ?_
     dsimp only [sZ, sS]
     refine rD 21 rfl (fun K hK => ?_)
     go_simp
     have K6 := K5.set 0 rfl 1 (.slice a6 (n + 1) c6)
     obtain ⟨k6c0, k6c1, k6f0, k6f1, k6l⟩ := kf K6 0 rfl
     refine hK.out _ _ ?_ (fun hH8 => ?_)
     ·trivial
     clear hK K
     refine wpAnyH_done (by kernel_rfl) ?_ _
     go_wp2_with fail
     go_meet
     exact Lib.hid' ⟨a5, c5, a6, c6, ((K6.drop 3).drop 3).rearr [5, 5, 5, 9, 9, 9, 7, 8, 9, 9] rfl⟩
    ·skip
     go_simp
     have K2 := K1.allocAt (wd.heap.size + 1) [ptrV N] 124 (by simp)
     obtain ⟨k2c0, k2c1, k2f0, k2f1, k2l⟩ := kf K2 5 rfl
     refine hK.out _ _ ?_ (fun hH3 => ?_)
     ·trivial
     clear hK K
     try simp only [Act.put, gA, gZ, gS, sA, sZ, sS]
     refine rD 5 rfl (fun K hK => ?_)
     go_simp
     refine hK.out _ _ ?_ (fun hH4 => ?_)
     ·trivial
     clear hK K
     try simp only [Act.put, gA, gZ, gS, sA, sZ, sS]
     refine rD 8 rfl (fun K hK => ?_)
     refine sep_ap etDisks (.tmp 29) (.tmp 31) 0 7 K2 (val := ptrV N) ?_
     intro a5 c5 w5 K3
     obtain ⟨k3c0, k3c1, k3f0, k3f1, k3l⟩ := kf K3 6 rfl
     refine hK.out _ _ ?_ (fun hH5 => ?_)
     ·trivial
     clear hK K
     try simp only [Act.put, gA, gZ, gS, sA, sZ, sS]
     refine rD 15 rfl (fun K hK => ?_)
     refine sep_ap etShelves (.tmp 36) (.tmp 38) 2 8 K3 (val := ptrV q) ?_
     intro a6 c6 w6 K4
     obtain ⟨k4c0, k4c1, k4f0, k4f1, k4l⟩ := kf K4 7 rfl
     refine hK.out _ _ ?_ (fun hH6 => ?_)
     ·trivial
     clear hK K
     try simp only [Act.put, gA, gZ, gS, sA, sZ, sS]
     refine tD 16 40 (.pointer (some ⟨c, 0, none⟩)) rfl rfl [(24, .pointer (some ⟨c, 0, none⟩))] hH6 ?_
     dsimp only [sZ, sS]
     refine tD 17 41 (.pointer (some ⟨c, 0, none⟩)) rfl rfl [(40, .pointer (some ⟨c, 0, none⟩))] hH6 ?_
     dsimp only [sZ, sS]
     refine rD 18 rfl (fun K hK => ?_)
     go_simp
     have K5 := K4.set 7 rfl 0 (.slice a5 (n + 1) c5)
     obtain ⟨k5c0, k5c1, k5f0, k5f1, k5l⟩ := kf K5 0 rfl
     refine hK.out _ _ ?_ (fun hH7 => ?_)
     ·trivial
     clear hK K
     try simp only [Act.put, gA, gZ, gS, sA, sZ, sS]
     refine tD 19 42 (.pointer (some ⟨c, 0, none⟩)) rfl rfl [(25, .pointer (some ⟨c, 0, none⟩))] hH7 ?_
     dsimp only [sZ, sS]
     refine tD 20 43 (.pointer (some ⟨c, 1, none⟩)) rfl rfl [(42, .pointer (some ⟨c, 0, none⟩))] hH7 ?_
     dsimp only [sZ, sS]
     refine rD 21 rfl (fun K hK => ?_)
     go_simp
     have K6 := K5.set 0 rfl 1 (.slice a6 (n + 1) c6)
     obtain ⟨k6c0, k6c1, k6f0, k6f1, k6l⟩ := kf K6 0 rfl
     refine hK.out _ _ ?_ (fun hH8 => ?_)
     ·trivial
     clear hK K
     refine wpAnyH_done (by kernel_rfl) ?_ _
     go_wp2_with fail
     go_meet
     exact Lib.hid' ⟨a5, c5, a6, c6, ((K6.drop 3).drop 3).rearr [5, 5, 5, 9, 9, 9, 7, 8, 9, 9] rfl⟩
  ·skip
   go_simp
   have K1 := K0.allocAt (wd.heap.size) [ptrV q] 127 (by simp)
   obtain ⟨k1c0, k1c1, k1f0, k1f1, k1l⟩ := kf K1 4 rfl
   refine hK.out _ _ ?_ (fun hH1 => ?_)
   ·trivial
   clear hK K
   try simp only [Act.put, gA, gZ, gS, sA, sZ, sS]
   refine wpAnyH_ready (rs := [5, 7, 12]) (by kernel_rfl) (by simp) (AllReadyH.cons (o := _) rfl (fun K hK => ?_) (AllReadyH.cons (o := _) rfl (fun K hK => ?_) (AllReadyH.cons (o := _) rfl (fun K hK => ?_) AllReadyH.nil)))
   ·skip
    go_simp
    refine hK.out _ _ ?_ (fun hH2 => ?_)
    ·trivial
    clear hK K
    try simp only [Act.put, gA, gZ, gS, sA, sZ, sS]
    refine wpAnyH_ready (rs := [7, 12]) (by kernel_rfl) (by simp) (AllReadyH.cons (o := _) rfl (fun K hK => ?_) (AllReadyH.cons (o := _) rfl (fun K hK => ?_) AllReadyH.nil))
    ·skip
     go_simp
     have K2 := K1.allocAt (wd.heap.size + 1) [ptrV N] 124 (by simp)
     obtain ⟨k2c0, k2c1, k2f0, k2f1, k2l⟩ := kf K2 5 rfl
     refine hK.out _ _ ?_ (fun hH3 => ?_)
     ·trivial
     clear hK K
     try simp only [Act.put, gA, gZ, gS, sA, sZ, sS]
     refine wpAnyH_ready (rs := [8, 12]) (by kernel_rfl) (by simp) (AllReadyH.cons (o := _) rfl (fun K hK => ?_) (AllReadyH.cons (o := _) rfl (fun K hK => ?_) AllReadyH.nil))
     ·skip
      refine sep_ap etDisks (.tmp 29) (.tmp 31) 0 7 K2 (val := ptrV N) ?_
      intro a5 c5 w5 K3
      obtain ⟨k3c0, k3c1, k3f0, k3f1, k3l⟩ := kf K3 6 rfl
      refine hK.out _ _ ?_ (fun hH4 => ?_)
      ·trivial
      clear hK K
      try simp only [Act.put, gA, gZ, gS, sA, sZ, sS]
      refine rD 12 rfl (fun K hK => ?_)
      go_simp
      refine hK.out _ _ ?_ (fun hH5 => ?_)
      ·trivial
      clear hK K
      try simp only [Act.put, gA, gZ, gS, sA, sZ, sS]
      refine rD 15 rfl (fun K hK => ?_)
      refine sep_ap etShelves (.tmp 36) (.tmp 38) 2 8 K3 (val := ptrV q) ?_
      intro a6 c6 w6 K4
      obtain ⟨k4c0, k4c1, k4f0, k4f1, k4l⟩ := kf K4 7 rfl
      refine hK.out _ _ ?_ (fun hH6 => ?_)
      ·trivial
      clear hK K
      try simp only [Act.put, gA, gZ, gS, sA, sZ, sS]
      refine tD 16 40 (.pointer (some ⟨c, 0, none⟩)) rfl rfl [(24, .pointer (some ⟨c, 0, none⟩))] hH6 ?_
      dsimp only [sZ, sS]
      refine tD 17 41 (.pointer (some ⟨c, 0, none⟩)) rfl rfl [(40, .pointer (some ⟨c, 0, none⟩))] hH6 ?_
      dsimp only [sZ, sS]
      refine rD 18 rfl (fun K hK => ?_)
      go_simp
      have K5 := K4.set 7 rfl 0 (.slice a5 (n + 1) c5)
      obtain ⟨k5c0, k5c1, k5f0, k5f1, k5l⟩ := kf K5 0 rfl
      refine hK.out _ _ ?_ (fun hH7 => ?_)
      ·trivial
      clear hK K
      try simp only [Act.put, gA, gZ, gS, sA, sZ, sS]
      refine tD 19 42 (.pointer (some ⟨c, 0, none⟩)) rfl rfl [(25, .pointer (some ⟨c, 0, none⟩))] hH7 ?_
      dsimp only [sZ, sS]
      refine tD 20 43 (.pointer (some ⟨c, 1, none⟩)) rfl rfl [(42, .pointer (some ⟨c, 0, none⟩))] hH7 ?_
      dsimp only [sZ, sS]
      refine rD 21 rfl (fun K hK => ?_)
      go_simp
      have K6 := K5.set 0 rfl 1 (.slice a6 (n + 1) c6)
      obtain ⟨k6c0, k6c1, k6f0, k6f1, k6l⟩ := kf K6 0 rfl
      refine hK.out _ _ ?_ (fun hH8 => ?_)
      ·trivial
      clear hK K
      refine wpAnyH_done (by kernel_rfl) ?_ _
      go_wp2_with fail
      go_meet
      exact Lib.hid' ⟨a5, c5, a6, c6, ((K6.drop 3).drop 3).rearr [5, 5, 5, 9, 9, 9, 7, 8, 9, 9] rfl⟩
     ·skip
      go_simp
      refine hK.out _ _ ?_ (fun hH4 => ?_)
      ·trivial
      clear hK K
      try simp only [Act.put, gA, gZ, gS, sA, sZ, sS]
      refine rD 8 rfl (fun K hK => ?_)
      refine sep_ap etDisks (.tmp 29) (.tmp 31) 0 7 K2 (val := ptrV N) ?_
      intro a5 c5 w5 K3
      obtain ⟨k3c0, k3c1, k3f0, k3f1, k3l⟩ := kf K3 6 rfl
      refine hK.out _ _ ?_ (fun hH5 => ?_)
      ·trivial
      clear hK K
      try simp only [Act.put, gA, gZ, gS, sA, sZ, sS]
      refine rD 15 rfl (fun K hK => ?_)
      refine sep_ap etShelves (.tmp 36) (.tmp 38) 2 8 K3 (val := ptrV q) ?_
      intro a6 c6 w6 K4
      obtain ⟨k4c0, k4c1, k4f0, k4f1, k4l⟩ := kf K4 7 rfl
      refine hK.out _ _ ?_ (fun hH6 => ?_)
      ·trivial
      clear hK K
      try simp only [Act.put, gA, gZ, gS, sA, sZ, sS]
      refine tD 16 40 (.pointer (some ⟨c, 0, none⟩)) rfl rfl [(24, .pointer (some ⟨c, 0, none⟩))] hH6 ?_
      dsimp only [sZ, sS]
      refine tD 17 41 (.pointer (some ⟨c, 0, none⟩)) rfl rfl [(40, .pointer (some ⟨c, 0, none⟩))] hH6 ?_
      dsimp only [sZ, sS]
      refine rD 18 rfl (fun K hK => ?_)
      go_simp
      have K5 := K4.set 7 rfl 0 (.slice a5 (n + 1) c5)
      obtain ⟨k5c0, k5c1, k5f0, k5f1, k5l⟩ := kf K5 0 rfl
      refine hK.out _ _ ?_ (fun hH7 => ?_)
      ·trivial
      clear hK K
      try simp only [Act.put, gA, gZ, gS, sA, sZ, sS]
      refine tD 19 42 (.pointer (some ⟨c, 0, none⟩)) rfl rfl [(25, .pointer (some ⟨c, 0, none⟩))] hH7 ?_
      dsimp only [sZ, sS]
      refine tD 20 43 (.pointer (some ⟨c, 1, none⟩)) rfl rfl [(42, .pointer (some ⟨c, 0, none⟩))] hH7 ?_
      dsimp only [sZ, sS]
      refine rD 21 rfl (fun K hK => ?_)
      go_simp
      have K6 := K5.set 0 rfl 1 (.slice a6 (n + 1) c6)
      obtain ⟨k6c0, k6c1, k6f0, k6f1, k6l⟩ := kf K6 0 rfl
      refine hK.out _ _ ?_ (fun hH8 => ?_)
      ·trivial
      clear hK K
      refine wpAnyH_done (by kernel_rfl) ?_ _
      go_wp2_with fail
      go_meet
      exact Lib.hid' ⟨a5, c5, a6, c6, ((K6.drop 3).drop 3).rearr [5, 5, 5, 9, 9, 9, 7, 8, 9, 9] rfl⟩
    ·skip
     go_simp
     refine hK.out _ _ ?_ (fun hH3 => ?_)
     ·trivial
     clear hK K
     try simp only [Act.put, gA, gZ, gS, sA, sZ, sS]
     refine rD 7 rfl (fun K hK => ?_)
     go_simp
     have K2 := K1.allocAt (wd.heap.size + 1) [ptrV N] 124 (by simp)
     obtain ⟨k2c0, k2c1, k2f0, k2f1, k2l⟩ := kf K2 5 rfl
     refine hK.out _ _ ?_ (fun hH4 => ?_)
     ·trivial
     clear hK K
     try simp only [Act.put, gA, gZ, gS, sA, sZ, sS]
     refine rD 8 rfl (fun K hK => ?_)
     refine sep_ap etDisks (.tmp 29) (.tmp 31) 0 7 K2 (val := ptrV N) ?_
     intro a5 c5 w5 K3
     obtain ⟨k3c0, k3c1, k3f0, k3f1, k3l⟩ := kf K3 6 rfl
     refine hK.out _ _ ?_ (fun hH5 => ?_)
     ·trivial
     clear hK K
     try simp only [Act.put, gA, gZ, gS, sA, sZ, sS]
     refine rD 15 rfl (fun K hK => ?_)
     refine sep_ap etShelves (.tmp 36) (.tmp 38) 2 8 K3 (val := ptrV q) ?_
     intro a6 c6 w6 K4
     obtain ⟨k4c0, k4c1, k4f0, k4f1, k4l⟩ := kf K4 7 rfl
     refine hK.out _ _ ?_ (fun hH6 => ?_)
     ·trivial
     clear hK K
     try simp only [Act.put, gA, gZ, gS, sA, sZ, sS]
     refine tD 16 40 (.pointer (some ⟨c, 0, none⟩)) rfl rfl [(24, .pointer (some ⟨c, 0, none⟩))] hH6 ?_
     dsimp only [sZ, sS]
     refine tD 17 41 (.pointer (some ⟨c, 0, none⟩)) rfl rfl [(40, .pointer (some ⟨c, 0, none⟩))] hH6 ?_
     dsimp only [sZ, sS]
     refine rD 18 rfl (fun K hK => ?_)
     go_simp
     have K5 := K4.set 7 rfl 0 (.slice a5 (n + 1) c5)
     obtain ⟨k5c0, k5c1, k5f0, k5f1, k5l⟩ := kf K5 0 rfl
     refine hK.out _ _ ?_ (fun hH7 => ?_)
     ·trivial
     clear hK K
     try simp only [Act.put, gA, gZ, gS, sA, sZ, sS]
     refine tD 19 42 (.pointer (some ⟨c, 0, none⟩)) rfl rfl [(25, .pointer (some ⟨c, 0, none⟩))] hH7 ?_
     dsimp only [sZ, sS]
     refine tD 20 43 (.pointer (some ⟨c, 1, none⟩)) rfl rfl [(42, .pointer (some ⟨c, 0, none⟩))] hH7 ?_
     dsimp only [sZ, sS]
     refine rD 21 rfl (fun K hK => ?_)
     go_simp
     have K6 := K5.set 0 rfl 1 (.slice a6 (n + 1) c6)
     obtain ⟨k6c0, k6c1, k6f0, k6f1, k6l⟩ := kf K6 0 rfl
     refine hK.out _ _ ?_ (fun hH8 => ?_)
     ·trivial
     clear hK K
     refine wpAnyH_done (by kernel_rfl) ?_ _
     go_wp2_with fail
     go_meet
     exact Lib.hid' ⟨a5, c5, a6, c6, ((K6.drop 3).drop 3).rearr [5, 5, 5, 9, 9, 9, 7, 8, 9, 9] rfl⟩
   ·skip
    go_simp
    have K2 := K1.allocAt (wd.heap.size + 1) [ptrV N] 124 (by simp)
    obtain ⟨k2c0, k2c1, k2f0, k2f1, k2l⟩ := kf K2 5 rfl
    refine hK.out _ _ ?_ (fun hH2 => ?_)
    ·trivial
    clear hK K
    try simp only [Act.put, gA, gZ, gS, sA, sZ, sS]
    refine wpAnyH_ready (rs := [5, 12]) (by kernel_rfl) (by simp) (AllReadyH.cons (o := _) rfl (fun K hK => ?_) (AllReadyH.cons (o := _) rfl (fun K hK => ?_) AllReadyH.nil))
    ·skip
     go_simp
     refine hK.out _ _ ?_ (fun hH3 => ?_)
     ·trivial
     clear hK K
     try simp only [Act.put, gA, gZ, gS, sA, sZ, sS]
     refine wpAnyH_ready (rs := [8, 12]) (by kernel_rfl) (by simp) (AllReadyH.cons (o := _) rfl (fun K hK => ?_) (AllReadyH.cons (o := _) rfl (fun K hK => ?_) AllReadyH.nil))
     ·skip
      refine sep_ap etDisks (.tmp 29) (.tmp 31) 0 7 K2 (val := ptrV N) ?_
      intro a5 c5 w5 K3
      obtain ⟨k3c0, k3c1, k3f0, k3f1, k3l⟩ := kf K3 6 rfl
      refine hK.out _ _ ?_ (fun hH4 => ?_)
      ·trivial
      clear hK K
      try simp only [Act.put, gA, gZ, gS, sA, sZ, sS]
      refine rD 12 rfl (fun K hK => ?_)
      go_simp
      refine hK.out _ _ ?_ (fun hH5 => ?_)
      ·trivial
      clear hK K
      try simp only [Act.put, gA, gZ, gS, sA, sZ, sS]
      refine rD 15 rfl (fun K hK => ?_)
      refine sep_ap etShelves (.tmp 36) (.tmp 38) 2 8 K3 (val := ptrV q) ?_
      intro a6 c6 w6 K4
      obtain ⟨k4c0, k4c1, k4f0, k4f1, k4l⟩ := kf K4 7 rfl
      refine hK.out _ _ ?_ (fun hH6 => ?_)
      ·trivial
      clear hK K
      try simp only [Act.put, gA, gZ, gS, sA, sZ, sS]
      refine tD 16 40 (.pointer (some ⟨c, 0, none⟩)) rfl rfl [(24, .pointer (some ⟨c, 0, none⟩))] hH6 ?_
      dsimp only [sZ, sS]
      refine tD 17 41 (.pointer (some ⟨c, 0, none⟩)) rfl rfl [(40, .pointer (some ⟨c, 0, none⟩))] hH6 ?_
      dsimp only [sZ, sS]
      refine rD 18 rfl (fun K hK => ?_)
      go_simp
      have K5 := K4.set 7 rfl 0 (.slice a5 (n + 1) c5)
      obtain ⟨k5c0, k5c1, k5f0, k5f1, k5l⟩ := kf K5 0 rfl
      refine hK.out _ _ ?_ (fun hH7 => ?_)
      ·trivial
      clear hK K
      try simp only [Act.put, gA, gZ, gS, sA, sZ, sS]
      refine tD 19 42 (.pointer (some ⟨c, 0, none⟩)) rfl rfl [(25, .pointer (some ⟨c, 0, none⟩))] hH7 ?_
      dsimp only [sZ, sS]
      refine tD 20 43 (.pointer (some ⟨c, 1, none⟩)) rfl rfl [(42, .pointer (some ⟨c, 0, none⟩))] hH7 ?_
      dsimp only [sZ, sS]
      refine rD 21 rfl (fun K hK => ?_)
      go_simp
      have K6 := K5.set 0 rfl 1 (.slice a6 (n + 1) c6)
      obtain ⟨k6c0, k6c1, k6f0, k6f1, k6l⟩ := kf K6 0 rfl
      refine hK.out _ _ ?_ (fun hH8 => ?_)
      ·trivial
      clear hK K
      refine wpAnyH_done (by kernel_rfl) ?_ _
      go_wp2_with fail
      go_meet
      exact Lib.hid' ⟨a5, c5, a6, c6, ((K6.drop 3).drop 3).rearr [5, 5, 5, 9, 9, 9, 7, 8, 9, 9] rfl⟩
     ·skip
      go_simp
      refine hK.out _ _ ?_ (fun hH4 => ?_)
      ·trivial
      clear hK K
      try simp only [Act.put, gA, gZ, gS, sA, sZ, sS]
      refine rD 8 rfl (fun K hK => ?_)
      refine sep_ap etDisks (.tmp 29) (.tmp 31) 0 7 K2 (val := ptrV N) ?_
      intro a5 c5 w5 K3
      obtain ⟨k3c0, k3c1, k3f0, k3f1, k3l⟩ := kf K3 6 rfl
      refine hK.out _ _ ?_ (fun hH5 => ?_)
      ·trivial
      clear hK K
      try simp only [Act.put, gA, gZ, gS, sA, sZ, sS]
      refine rD 15 rfl (fun K hK => ?_)
      refine sep_ap etShelves (.tmp 36) (.tmp 38) 2 8 K3 (val := ptrV q) ?_
      intro a6 c6 w6 K4
      obtain ⟨k4c0, k4c1, k4f0, k4f1, k4l⟩ := kf K4 7 rfl
      refine hK.out _ _ ?_ (fun hH6 => ?_)
      ·trivial
      clear hK K
      try simp only [Act.put, gA, gZ, gS, sA, sZ, sS]
      refine tD 16 40 (.pointer (some ⟨c, 0, none⟩)) rfl rfl [(24, .pointer (some ⟨c, 0, none⟩))] hH6 ?_
      dsimp only [sZ, sS]
      refine tD 17 41 (.pointer (some ⟨c, 0, none⟩)) rfl rfl [(40, .pointer (some ⟨c, 0, none⟩))] hH6 ?_
      dsimp only [sZ, sS]
      refine rD 18 rfl (fun K hK => ?_)
      go_simp
      have K5 := K4.set 7 rfl 0 (.slice a5 (n + 1) c5)
      obtain ⟨k5c0, k5c1, k5f0, k5f1, k5l⟩ := kf K5 0 rfl
      refine hK.out _ _ ?_ (fun hH7 => ?_)
      ·trivial
      clear hK K
      try simp only [Act.put, gA, gZ, gS, sA, sZ, sS]
      refine tD 19 42 (.pointer (some ⟨c, 0, none⟩)) rfl rfl [(25, .pointer (some ⟨c, 0, none⟩))] hH7 ?_
      dsimp only [sZ, sS]
      refine tD 20 43 (.pointer (some ⟨c, 1, none⟩)) rfl rfl [(42, .pointer (some ⟨c, 0, none⟩))] hH7 ?_
      dsimp only [sZ, sS]
      refine rD 21 rfl (fun K hK => ?_)
      go_simp
      have K6 := K5.set 0 rfl 1 (.slice a6 (n + 1) c6)
      obtain ⟨k6c0, k6c1, k6f0, k6f1, k6l⟩ := kf K6 0 rfl
      refine hK.out _ _ ?_ (fun hH8 => ?_)
      ·trivial
      clear hK K
      refine wpAnyH_done (by kernel_rfl) ?_ _
      go_wp2_with fail
      go_meet
      exact Lib.hid' ⟨a5, c5, a6, c6, ((K6.drop 3).drop 3).rearr [5, 5, 5, 9, 9, 9, 7, 8, 9, 9] rfl⟩
    ·skip
     go_simp
     refine hK.out _ _ ?_ (fun hH3 => ?_)
     ·trivial
     clear hK K
     try simp only [Act.put, gA, gZ, gS, sA, sZ, sS]
     refine rD 5 rfl (fun K hK => ?_)
     go_simp
     refine hK.out _ _ ?_ (fun hH4 => ?_)
     ·trivial
     clear hK K
     try simp only [Act.put, gA, gZ, gS, sA, sZ, sS]
     refine rD 8 rfl (fun K hK => ?_)
     refine sep_ap etDisks (.tmp 29) (.tmp 31) 0 7 K2 (val := ptrV N) ?_
     intro a5 c5 w5 K3
     obtain ⟨k3c0, k3c1, k3f0, k3f1, k3l⟩ := kf K3 6 rfl
     refine hK.out _ _ ?_ (fun hH5 => ?_)
     ·trivial
     clear hK K
     try simp only [Act.put, gA, gZ, gS, sA, sZ, sS]
     refine rD 15 rfl (fun K hK => ?_)
     refine sep_ap etShelves (.tmp 36) (.tmp 38) 2 8 K3 (val := ptrV q) ?_
     intro a6 c6 w6 K4
     obtain ⟨k4c0, k4c1, k4f0, k4f1, k4l⟩ := kf K4 7 rfl
     refine hK.out _ _ ?_ (fun hH6 => ?_)
     ·trivial
     clear hK K
     try simp only [Act.put, gA, gZ, gS, sA, sZ, sS]
     refine tD 16 40 (.pointer (some ⟨c, 0, none⟩)) rfl rfl [(24, .pointer (some ⟨c, 0, none⟩))] hH6 ?_
     dsimp only [sZ, sS]
     refine tD 17 41 (.pointer (some ⟨c, 0, none⟩)) rfl rfl [(40, .pointer (some ⟨c, 0, none⟩))] hH6 ?_
     dsimp only [sZ, sS]
     refine rD 18 rfl (fun K hK => ?_)
     go_simp
     have K5 := K4.set 7 rfl 0 (.slice a5 (n + 1) c5)
     obtain ⟨k5c0, k5c1, k5f0, k5f1, k5l⟩ := kf K5 0 rfl
     refine hK.out _ _ ?_ (fun hH7 => ?_)
     ·trivial
     clear hK K
     try simp only [Act.put, gA, gZ, gS, sA, sZ, sS]
     refine tD 19 42 (.pointer (some ⟨c, 0, none⟩)) rfl rfl [(25, .pointer (some ⟨c, 0, none⟩))] hH7 ?_
     dsimp only [sZ, sS]
     refine tD 20 43 (.pointer (some ⟨c, 1, none⟩)) rfl rfl [(42, .pointer (some ⟨c, 0, none⟩))] hH7 ?_
     dsimp only [sZ, sS]
     refine rD 21 rfl (fun K hK => ?_)
     go_simp
     have K6 := K5.set 0 rfl 1 (.slice a6 (n + 1) c6)
     obtain ⟨k6c0, k6c1, k6f0, k6f1, k6l⟩ := kf K6 0 rfl
     refine hK.out _ _ ?_ (fun hH8 => ?_)
     ·trivial
     clear hK K
     refine wpAnyH_done (by kernel_rfl) ?_ _
     go_wp2_with fail
     go_meet
     exact Lib.hid' ⟨a5, c5, a6, c6, ((K6.drop 3).drop 3).rearr [5, 5, 5, 9, 9, 9, 7, 8, 9, 9] rfl⟩
   ·skip
    go_simp
    refine hK.out _ _ ?_ (fun hH2 => ?_)
    ·trivial
    clear hK K
    try simp only [Act.put, gA, gZ, gS, sA, sZ, sS]
    refine wpAnyH_ready (rs := [5, 7]) (by kernel_rfl) (by simp) (AllReadyH.cons (o := _) rfl (fun K hK => ?_) (AllReadyH.cons (o := _) rfl (fun K hK => ?_) AllReadyH.nil))
    ·skip
     go_simp
     refine hK.out _ _ ?_ (fun hH3 => ?_)
     ·trivial
     clear hK K
     try simp only [Act.put, gA, gZ, gS, sA, sZ, sS]
     refine rD 7 rfl (fun K hK => ?_)
     go_simp
     have K2 := K1.allocAt (wd.heap.size + 1) [ptrV N] 124 (by simp)
     obtain ⟨k2c0, k2c1, k2f0, k2f1, k2l⟩ := kf K2 5 rfl
     refine hK.out _ _ ?_ (fun hH4 => ?_)
     ·trivial
     clear hK K
     try simp only [Act.put, gA, gZ, gS, sA, sZ, sS]
     refine rD 8 rfl (fun K hK => ?_)
     refine sep_ap etDisks (.tmp 29) (.tmp 31) 0 7 K2 (val := ptrV N) ?_
     intro a5 c5 w5 K3
     obtain ⟨k3c0, k3c1, k3f0, k3f1, k3l⟩ := kf K3 6 rfl
     refine hK.out _ _ ?_ (fun hH5 => ?_)
     ·trivial
     clear hK K
     try simp only [Act.put, gA, gZ, gS, sA, sZ, sS]
     refine rD 15 rfl (fun K hK => ?_)
     refine sep_ap etShelves (.tmp 36) (.tmp 38) 2 8 K3 (val := ptrV q) ?_
     intro a6 c6 w6 K4
     obtain ⟨k4c0, k4c1, k4f0, k4f1, k4l⟩ := kf K4 7 rfl
     refine hK.out _ _ ?_ (fun hH6 => ?_)
     ·trivial
     clear hK K
     try simp only [Act.put, gA, gZ, gS, sA, sZ, sS]
     refine tD 16 40 (.pointer (some ⟨c, 0, none⟩)) rfl rfl [(24, .pointer (some ⟨c, 0, none⟩))] hH6 ?_
     dsimp only [sZ, sS]
     refine tD 17 41 (.pointer (some ⟨c, 0, none⟩)) rfl rfl [(40, .pointer (some ⟨c, 0, none⟩))] hH6 ?_
     dsimp only [sZ, sS]
     refine rD 18 rfl (fun K hK => ?_)
     go_simp
     have K5 := K4.set 7 rfl 0 (.slice a5 (n + 1) c5)
     obtain ⟨k5c0, k5c1, k5f0, k5f1, k5l⟩ := kf K5 0 rfl
     refine hK.out _ _ ?_ (fun hH7 => ?_)
     ·trivial
     clear hK K
     try simp only [Act.put, gA, gZ, gS, sA, sZ, sS]
     refine tD 19 42 (.pointer (some ⟨c, 0, none⟩)) rfl rfl [(25, .pointer (some ⟨c, 0, none⟩))] hH7 ?_
     dsimp only [sZ, sS]
     refine tD 20 43 (.pointer (some ⟨c, 1, none⟩)) rfl rfl [(42, .pointer (some ⟨c, 0, none⟩))] hH7 ?_
     dsimp only [sZ, sS]
     refine rD 21 rfl (fun K hK => ?_)
     go_simp
     have K6 := K5.set 0 rfl 1 (.slice a6 (n + 1) c6)
     obtain ⟨k6c0, k6c1, k6f0, k6f1, k6l⟩ := kf K6 0 rfl
     refine hK.out _ _ ?_ (fun hH8 => ?_)
     ·trivial
     clear hK K
     refine wpAnyH_done (by kernel_rfl) ?_ _
     go_wp2_with fail
     go_meet
     exact Lib.hid' ⟨a5, c5, a6, c6, ((K6.drop 3).drop 3).rearr [5, 5, 5, 9, 9, 9, 7, 8, 9, 9] rfl⟩
    ·skip
     go_simp
     have K2 := K1.allocAt (wd.heap.size + 1) [ptrV N] 124 (by simp)
     obtain ⟨k2c0, k2c1, k2f0, k2f1, k2l⟩ := kf K2 5 rfl
     refine hK.out _ _ ?_ (fun hH3 => ?_)
     ·trivial
     clear hK K
     try simp only [Act.put, gA, gZ, gS, sA, sZ, sS]
     refine rD 5 rfl (fun K hK => ?_)
     go_simp
     refine hK.out _ _ ?_ (fun hH4 => ?_)
     ·trivial
     clear hK K
     try simp only [Act.put, gA, gZ, gS, sA, sZ, sS]
     refine rD 8 rfl (fun K hK => ?_)
     refine sep_ap etDisks (.tmp 29) (.tmp 31) 0 7 K2 (val := ptrV N) ?_
     intro a5 c5 w5 K3
     obtain ⟨k3c0, k3c1, k3f0, k3f1, k3l⟩ := kf K3 6 rfl
     refine hK.out _ _ ?_ (fun hH5 => ?_)
     ·trivial
     clear hK K
     try simp only [Act.put, gA, gZ, gS, sA, sZ, sS]
     refine rD 15 rfl (fun K hK => ?_)
     refine sep_ap etShelves (.tmp 36) (.tmp 38) 2 8 K3 (val := ptrV q) ?_
     intro a6 c6 w6 K4
     obtain ⟨k4c0, k4c1, k4f0, k4f1, k4l⟩ := kf K4 7 rfl
     refine hK.out _ _ ?_ (fun hH6 => ?_)
     ·trivial
     clear hK K
     try simp only [Act.put, gA, gZ, gS, sA, sZ, sS]
     refine tD 16 40 (.pointer (some ⟨c, 0, none⟩)) rfl rfl [(24, .pointer (some ⟨c, 0, none⟩))] hH6 ?_
     dsimp only [sZ, sS]
     refine tD 17 41 (.pointer (some ⟨c, 0, none⟩)) rfl rfl [(40, .pointer (some ⟨c, 0, none⟩))] hH6 ?_
     dsimp only [sZ, sS]
     refine rD 18 rfl (fun K hK => ?_)
     go_simp
     have K5 := K4.set 7 rfl 0 (.slice a5 (n + 1) c5)
     obtain ⟨k5c0, k5c1, k5f0, k5f1, k5l⟩ := kf K5 0 rfl
     refine hK.out _ _ ?_ (fun hH7 => ?_)
     ·trivial
     clear hK K
     try simp only [Act.put, gA, gZ, gS, sA, sZ, sS]
     refine tD 19 42 (.pointer (some ⟨c, 0, none⟩)) rfl rfl [(25, .pointer (some ⟨c, 0, none⟩))] hH7 ?_
     dsimp only [sZ, sS]
     refine tD 20 43 (.pointer (some ⟨c, 1, none⟩)) rfl rfl [(42, .pointer (some ⟨c, 0, none⟩))] hH7 ?_
     dsimp only [sZ, sS]
     refine rD 21 rfl (fun K hK => ?_)
     go_simp
     have K6 := K5.set 0 rfl 1 (.slice a6 (n + 1) c6)
     obtain ⟨k6c0, k6c1, k6f0, k6f1, k6l⟩ := kf K6 0 rfl
     refine hK.out _ _ ?_ (fun hH8 => ?_)
     ·trivial
     clear hK K
     refine wpAnyH_done (by kernel_rfl) ?_ _
     go_wp2_with fail
     go_meet
     exact Lib.hid' ⟨a5, c5, a6, c6, ((K6.drop 3).drop 3).rearr [5, 5, 5, 9, 9, 9, 7, 8, 9, 9] rfl⟩

 case rest =>

  clear H3
  obtain ⟨a5, c5, a6, c6, hs⟩ := hcut.out
  obtain ⟨hn, hxd, hxs, hR, he0, hj0⟩ := HE.out
  have s1 := ((hs.focus 9 rfl).focus 7 rfl).poolJoin
  have s2 := (s1.focus 8 rfl).focus 8 rfl
  obtain ⟨G, s3⟩ := Sep.pack (I := unI N (some q) (newU room) (vs ++ us)) [Asn.disk N (newD room) G2, Asn.shelf q N ⟨U.new, 0, false⟩ us G3] s2 ⟨us, G2, G3, fun x hx => List.mem_append_right _ hx, rfl⟩
  have s4 : Sep W NoF ([unA (vs ++ us) ⟨N, some q, newU room, G⟩, Asn.pool (fun b => Z0 b ∨ Z b) (vs ++ us), .box c [.slice a5 (n + 1) c5, .slice a6 (n + 1) c6, .int .i64 e0, j0, ptrV b] 78, Asn.seq b M.q, .row 124 1 (.slice a5 (n + 1) c5) (n + 1) (xd ++ [ptrV N]), .row 127 1 (.slice a6 (n + 1) c6) (n + 1) (xs ++ [ptrV q]), .row 29 1 j0 J2.Ks.length (J2.Ks.map chV), Asn.all (J2.Ks.map chA)] ++ (Us.map (unA vs) ++ L)) wc := by rw [hR]; exact s3
  have s5 := Sep.convAll _ _ (fun y _ => unA_more (us := vs ++ us) (fun x hx => List.mem_append_left _ hx) y) s4
  have hC : ClOK (M.grow (newU room)) ⟨b, .slice a5 (n + 1) c5, .slice a6 (n + 1) c6, Us ++ [⟨N, some q, newU room, G⟩], J2, fun b => Z0 b ∨ Z b, vs ++ us⟩ := ⟨by show (Us ++ [(⟨N, some q, newU room, G⟩ : UnP)]).map (fun y : UnP => y.x) = M.us ++ [newU room]; rw [List.map_append, show Us.map (fun y : UnP => y.x) = M.us from HPO.out.us]; rfl, HPO.out.cs⟩
  have s6 : Sep W NoF (clL c (M.grow (newU room)) ⟨b, .slice a5 (n + 1) c5, .slice a6 (n + 1) c6, Us ++ [⟨N, some q, newU room, G⟩], J2, fun b => Z0 b ∨ Z b, vs ++ us⟩ L) wc := by
   unfold clL clK
   simp only [List.length_append, List.length_singleton, List.map_append, List.map_cons, List.map_nil]
   rw [hn, hxd, hxs, hj0]
   show Sep W NoF ([.box c [.slice a5 (n + 1) c5, .slice a6 (n + 1) c6, .int .i64 M.p.e, j0, ptrV b] 78, Asn.seq b M.q, .row 124 1 (.slice a5 (n + 1) c5) (n + 1) (xd ++ [ptrV N]), .row 127 1 (.slice a6 (n + 1) c6) (n + 1) (xs ++ [ptrV q]), .row 29 1 j0 J2.Ks.length (J2.Ks.map chV), Asn.all (J2.Ks.map chA)] ++ (Asn.pool (fun b => Z0 b ∨ Z b) (vs ++ us) :: ((Us.map (unA (vs ++ us)) ++ [unA (vs ++ us) ⟨N, some q, newU room, G⟩]) ++ L))) wc
   rw [he0]
   refine s5.perm ?_
   rw [List.append_assoc]
   have p1 : ∀ (A B : Asn) (K X L : List Asn), (([A, B] ++ K) ++ (X ++ L)).Perm (K ++ (B :: (X ++ ([A] ++ L)))) := by
    intro A B K X L
    have q1 : (([A, B] ++ K) ++ (X ++ L)).Perm (B :: (K ++ (X ++ ([A] ++ L)))) := by
     refine (List.Perm.swap _ _ _).trans (List.Perm.cons _ ?_)
     have e : K ++ (X ++ ([A] ++ L)) = (K ++ X) ++ (A :: L) := by simp
     rw [e]
     have e2 : A :: ([] ++ K ++ (X ++ L)) = A :: ((K ++ X) ++ L) := by simp
     first | rw [e2]; exact List.perm_middle.symm | (show (A :: (K ++ (X ++ L))).Perm _; rw [← List.append_assoc]; exact List.perm_middle.symm)
    exact q1.trans List.perm_middle.symm
   exact p1 _ _ _ _ _
  clear s1 s2 s3 s4 s5 hs
  have hy : (Us ++ [(⟨N, some q, newU room, G⟩ : UnP)])[Us.length]? = some ⟨N, some q, newU room, G⟩ := by simp
  obtain ⟨S, hS, hsh, hback⟩ := cl_on hC hy rfl s6
  obtain rfl : (⟨U.new, 0, false⟩ : Sf) = S := by cases hS; rfl
  have hun : (M.grow (newU room)).us[M.us.length]? = some ⟨newD room, some ⟨U.new, 0, false⟩⟩ := by show (M.us ++ [newU room])[M.us.length]? = _; simp [newU]
  have HDO := Zh (do_on sealA hun)
  have hUM : Us.length = M.us.length := by rw [← HPO.out.us, List.length_map]
  have HKD := Zh (kdo2_any sealA none 0 _ HP.out hsh (Sd.new HR.out) (bytes_nil _))
  have HBK := Lib.hid' hback
  clear hsh hback hS hy hC s6 hun hn hxd hxs hR he0 hj0 hcut HE
  rw [show ac9V sealA none 0 = .agg #[.int .i64 1, .int .i64 1, .int .i64 0, .slice none 0 0] from rfl] at HKD
  go_wp2_with fail
  refine HKD.out.mono ?_
  rintro e w9 ⟨rfl, us9, hs9, h9⟩
  have H9 := Zh (HBK.out _ _ us9 w9 [] hs9 h9)
  clear h9 HBK HKD
  have hres : M.add room = ((doS ⟨U.new, 0, false⟩ (newD room) sealA).1, (M.grow (newU room)).put M.us.length ⟨(doS ⟨U.new, 0, false⟩ (newD room) sealA).2.2.2, some (doS ⟨U.new, 0, false⟩ (newD room) sealA).2.2.1⟩) := by rw [HA2.out, HDO.out]
  have HRES := Lib.hid' hres
  clear hres
  go_wp2_with fail
  go_ret
  rw [HRES.out]
  refine ⟨rfl, ?_⟩
  have h10 := H9.out
  rw [hUM] at h10
  exact h10
end SL
end Go.Proofs.YtcpkeddgkpjioaaGreatDoor
