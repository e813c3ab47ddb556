/- Proved here: a part of the proof (30 of 31). -/
import Derived.Test.YtcdeoofeofjdnaaGreatDoorV27
import Derived.Test.YtcdeoofeofjdnaaGreatDoorV2
namespace Go.Proofs.YtcdeoofeofjdnaaGreatDoor
open Go.RowKit
set_option linter.unusedSimpArgs false
set_option linter.unusedVariables false
set_option maxRecDepth 100000
/-- an append of one element, wherever that one lies -/
theorem sep_appendAny {P : Program} {t e size bytes : Nat} (T : ElemT P t e size bytes) {w0 w : World} {F : Nat → Prop} {L : List Asn} {ops : Array Oper} {o : Oper} {a : Act} {K : Act → World → Prop} {Q : Exit → Act → World → Prop} {Z : Prop} (hgd : o.guard = none) (s x : Operand)
    (ho : o.op = .call { callee := .builtin .append, args := #[s, x], argTypes := #[t, t] })
    (cs : List Value) {vx : Value} (hX : SlV w vx 1 cs) (hx : a.eval x = vx) (H : Sep w0 F L w) (i : Nat) {v : Value} {n : Nat} {xs : List Value} (hi : L[i]? = some (.row e size v n xs)) (hs : a.eval s = v)
    (hl : cs.length = size) (h1 : ∀ u ∈ cs, u.oneCell' = true) (hbytes : (n + 1) * bytes ≤ 140737488355328)
    (h : ∀ a' c' w', Sep w0 F (.row e size (.slice a' (n + 1) c') (n + 1) (xs ++ cs) :: L.eraseIdx i) w' → K (a.put o.dst (.slice a' (n + 1) c')) w') :
    if Region.wanted o (yielded ops a.tmps) = true then Oper.wp P o a w K Q else Z := by
  have hw : Region.wanted o (yielded ops a.tmps) = true := by simp [Region.wanted, hgd]
  rw [if_pos hw]
  exact wp_append_sep T s x ho H i hi hs 1 cs _ hx hX (by omega) h1 hbytes h
theorem slv_box {w0 w : World} {F : Nat → Prop} {L : List Asn} (H : Sep w0 F L w) (i : Nat) {N t : Nat} {v : Value} (hi : L[i]? = some (.box N [v] t)) : SlV w (.slice (some ⟨N, 0, none⟩) 1 1) 1 [v] := by
  refine ⟨_, _, rfl, Nat.le_refl _, by unfold maxLen; decide, (fun h => by cases h), fun j u hj => ⟨_, rfl, ?_⟩⟩
  cases j with
  | zero => simp at hj; subst hj; exact H.cell i hi 0 rfl
  | succ j => simp at hj
namespace SL
open DK SH SQ
theorem etDisks : ElemT Tryz.prog 59 50 1 8 := ElemT.mk' (z := .pointer none) Tryz.underlying59 (by kernel_rfl) rfl (by decide) (by decide)
theorem etShelves : ElemT Tryz.prog 60 79 1 8 := ElemT.mk' (z := .pointer none) Tryz.underlying60 (by kernel_rfl) rfl (by decide) (by decide)
def newU (room : Int) : Un := ⟨newD room, some ⟨U.new, 0, false⟩⟩
def Cl.grow (M : Cl) (x : Un) : Cl := { M with us := M.us ++ [x] }
def sealA : Ac := ⟨1, 1, 0, []⟩
def Cl.add (M : Cl) (room : Int) : Nat × Cl := if room < 0 ∨ 1073741824 < room then (1, M) else (((M.grow (newU room)).do M.us.length sealA).1, ((M.grow (newU room)).do M.us.length sealA).2.2)
set_option maxHeartbeats 16000000 in
theorem add_any {c : Nat} {M : Cl} {J : CJ} {L : List Asn} {W : World} (room : Int) (w : World) (hp : Pow W) (h : ClAt c M J L W w) (hlen : M.us.length ≤ 8) :
    Calls Tryz.prog 57 #[ptrV c, .int .i64 room] w fun e w' => e = .returned (errV (M.add room).1) ∧ ClAt c (M.add room).2 J L W w' := by
  have HP := Lib.hid' hp
  have HH := Lib.hid' h
  have HA := Lib.hid' (show M.add room = if room < 0 ∨ 1073741824 < room then (1, M) else (((M.grow (newU room)).do M.us.length sealA).1, ((M.grow (newU room)).do M.us.length sealA).2.2) from rfl)
  by_cases hr : room < 0 ∨ 1073741824 < room
  · have HA2 := Lib.hid' (HA.out.trans (if_pos hr))
    have HB := Lib.hid' (dnew_bad room w hr)
    clear hr h hp
    go_enter Tryz.func57, Tryz.ntmps57
    go_wp2_with fail
    refine HB.out.mono ?_
    rintro e w1 ⟨rfl, rfl⟩
    rw [errV_pos (by decide)]
    go_wp2_with fail
    go_ret
    rw [HA2.out]
    exact ⟨rfl, HH.out⟩
  have HA2 := Lib.hid' (HA.out.trans (if_neg hr))
  have HR := Lib.hid' (show 0 ≤ room ∧ room ≤ 1073741824 by omega)
  have HDN := Lib.hid' (dnew_any room w HR.out)
  clear hr hp
  obtain ⟨⟨b, dv, sv, Us, J2, Z0, vs⟩, hJ, hP, H⟩ := h
  subst hJ
  have HPO := Lib.hid' hP
  have hUl : Us.length = M.us.length := by rw [← hP.us, List.length_map]
  have H0 := Lib.hid' (show Sep W NoF (.box c [dv, sv, .int .i64 M.p.e, .slice J2.a J2.Ks.length J2.c, ptrV b] 63 :: Asn.seq b M.q :: .row 50 1 dv Us.length (Us.map (fun y => ptrV y.N)) :: .row 79 1 sv Us.length (Us.map (fun y => optV y.Q)) :: .row 26 1 (.slice J2.a J2.Ks.length J2.c) J2.Ks.length (J2.Ks.map chV) :: Asn.all (J2.Ks.map chA) :: Asn.pool Z0 vs :: (Us.map (unA vs) ++ L)) w from H)
  clear H hP
  go_enter Tryz.func57, Tryz.ntmps57
  go_wp2_with fail
  refine HDN.out.mono ?_
  rintro e w1 ⟨N, G1, rfl, h1⟩
  have H1 := Lib.hid' h1
  clear h1
  go_wp2_with fail
  have hp1 := HP.out.below H0.out.toBelow
  refine (shopen_any (m := 0) w1 (H1.out.at 0 rfl) (hp1.below H1.out.toBelow) (Ok.new HR.out) (by decide) (by show ([] : List Chg).length ≤ _; simp) (pow_kept hp1 H1.out rfl)).mono ?_
  rintro e w2 hE
  have hE2 : ∃ q us, e = .returned (.tuple #[ptrV q, .nilIface]) ∧ ShAt q N ⟨U.new, 0, false⟩ (newD room) us [] G1 w1 w2 := by
    rcases hE with ⟨h0, _⟩ | ⟨_, q, us, he, hs⟩
    · rw [openS_new] at h0; exact absurd rfl h0
    · rw [openS_new] at hs; exact ⟨q, us, he, hs⟩
  clear hE hp1
  obtain ⟨q, us, rfl, G2, G3, Z, h2⟩ := hE2
  have h3 := H0.out.call0 (H1.out.call1 rfl h2)
  have H3 := Lib.hid' (show Sep W NoF (Asn.disk N (newD room) G2 :: Asn.shelf q N ⟨U.new, 0, false⟩ us G3 :: Asn.pool Z us :: .box c [dv, sv, .int .i64 M.p.e, .slice J2.a J2.Ks.length J2.c, ptrV b] 63 :: Asn.seq b M.q :: .row 50 1 dv Us.length (Us.map (fun y => ptrV y.N)) :: .row 79 1 sv Us.length (Us.map (fun y => optV y.Q)) :: .row 26 1 (.slice J2.a J2.Ks.length J2.c) J2.Ks.length (J2.Ks.map chV) :: Asn.all (J2.Ks.map chA) :: Asn.pool Z0 vs :: (Us.map (unA vs) ++ L)) w2 from h3)
  clear h2 h3 H1 H0
  go_upto_region 7 with fail
  obtain ⟨n, hn⟩ : ∃ n, Us.length = n := ⟨_, rfl⟩
  have hn8 : n ≤ 8 := by omega
  obtain ⟨xd, hxd⟩ : ∃ xd, Us.map (fun y => ptrV y.N) = xd := ⟨_, rfl⟩
  obtain ⟨xs, hxs⟩ : ∃ xs, Us.map (fun y => optV y.Q) = xs := ⟨_, rfl⟩
  obtain ⟨R, hR⟩ : ∃ R, Us.map (unA vs) ++ L = R := ⟨_, rfl⟩
  obtain ⟨e0, he0⟩ : ∃ e0, M.p.e = e0 := ⟨_, rfl⟩
  obtain ⟨j0, hj0⟩ : ∃ j0, Value.slice J2.a J2.Ks.length J2.c = j0 := ⟨_, rfl⟩
  rw [hn, hxd, hxs, hR, he0, hj0] at H3
  have HE := Lib.hid' (And.intro hn (And.intro hxd (And.intro hxs (And.intro hR (And.intro he0 hj0)))))
  clear hn hxd hxs hR he0 hj0 hUl
  go_cut [] (fun wc => Hid (∃ a5 c5 a6 c6, Sep W NoF (.box c [.slice a5 (n + 1) c5, .slice a6 (n + 1) c6, .int .i64 e0, j0, ptrV b] 63 :: Asn.seq b M.q :: .row 50 1 (.slice a5 (n + 1) c5) (n + 1) (xd ++ [ptrV N]) :: .row 79 1 (.slice a6 (n + 1) c6) (n + 1) (xs ++ [ptrV q]) :: .row 26 1 j0 J2.Ks.length (J2.Ks.map chV) :: Asn.all (J2.Ks.map chA) :: Asn.pool Z0 vs :: Asn.disk N (newD room) G2 :: Asn.shelf q N ⟨U.new, 0, false⟩ us G3 :: Asn.pool Z us :: R) wc))
  case first =>
    have K0 := H3.out.drew
    have k0c0 := K0.cell 3 rfl 0 rfl; have k0c1 := K0.cell 3 rfl 1 rfl; have k0f0 := K0.free 3 rfl 0; have k0f1 := K0.free 3 rfl 1; have k0l := K0.lt 3 rfl
    clear H3
    refine startD (S := (fun _ => True)) (by kernel_rfl) trivial (fun hH0 => ?_)
    simp only [List.length_cons, List.length_nil, Nat.reduceAdd, List.replicate_succ, List.replicate_zero]
    generalize w2.drew = wd at *
    refine takeD (i := 0) (d := 24) (v := .pointer (some ⟨c, 0, none⟩)) rfl rfl (by kernel_rfl) (by kernel_rfl) (by kernel_rfl) (fun _ _ _ h => h) (yldV [(0, .pointer (some ⟨c, 0, none⟩))] (by kernel_rfl) rfl (by kernel_rfl) ?_) hH0 ?_
    · intro w hSw; go_simp
    dsimp only [List.set_cons_zero, List.set_cons_succ]
    refine takeD (i := 1) (d := 25) (v := .pointer (some ⟨c, 0, none⟩)) rfl rfl (by kernel_rfl) (by kernel_rfl) (by kernel_rfl) (fun _ _ _ h => h) (yldV [(0, .pointer (some ⟨c, 0, none⟩))] (by kernel_rfl) rfl (by kernel_rfl) ?_) hH0 ?_
    · intro w hSw; go_simp
    dsimp only [List.set_cons_zero, List.set_cons_succ]
    refine takeD (i := 2) (d := 26) (v := .pointer (some ⟨c, 0, none⟩)) rfl rfl (by kernel_rfl) (by kernel_rfl) (by kernel_rfl) (fun _ _ _ h => h) (yldV [(0, .pointer (some ⟨c, 0, none⟩))] (by kernel_rfl) rfl (by kernel_rfl) ?_) hH0 ?_
    · intro w hSw; go_simp
    dsimp only [List.set_cons_zero, List.set_cons_succ]
    refine takeD (i := 3) (d := 27) (v := .pointer (some ⟨c, 0, none⟩)) rfl rfl (by kernel_rfl) (by kernel_rfl) (by kernel_rfl) (fun _ _ _ h => h) (yldV [(26, .pointer (some ⟨c, 0, none⟩))] (by kernel_rfl) rfl (by kernel_rfl) ?_) hH0 ?_
    · intro w hSw; go_simp
    dsimp only [List.set_cons_zero, List.set_cons_succ]
    refine takeD (i := 4) (d := 28) (v := .pointer (some ⟨c, 0, none⟩)) rfl rfl (by kernel_rfl) (by kernel_rfl) (by kernel_rfl) (fun _ _ _ h => h) (yldV [(27, .pointer (some ⟨c, 0, none⟩))] (by kernel_rfl) rfl (by kernel_rfl) ?_) hH0 ?_
    · intro w hSw; go_simp
    dsimp only [List.set_cons_zero, List.set_cons_succ]
    refine takeD (i := 6) (d := 30) (v := ptrV N) rfl rfl (by kernel_rfl) (by kernel_rfl) (by kernel_rfl) (fun _ _ _ h => h) (yldV [(5, ptrV N)] (by kernel_rfl) rfl (by kernel_rfl) ?_) hH0 ?_
    · intro w hSw; go_simp
    dsimp only [List.set_cons_zero, List.set_cons_succ]
    refine takeD (i := 9) (d := 33) (v := .pointer (some ⟨c, 0, none⟩)) rfl rfl (by kernel_rfl) (by kernel_rfl) (by kernel_rfl) (fun _ _ _ h => h) (yldV [(0, .pointer (some ⟨c, 0, none⟩))] (by kernel_rfl) rfl (by kernel_rfl) ?_) hH0 ?_
    · intro w hSw; go_simp
    dsimp only [List.set_cons_zero, List.set_cons_succ]
    refine takeD (i := 10) (d := 34) (v := .pointer (some ⟨c, 0, none⟩)) rfl rfl (by kernel_rfl) (by kernel_rfl) (by kernel_rfl) (fun _ _ _ h => h) (yldV [(33, .pointer (some ⟨c, 0, none⟩))] (by kernel_rfl) rfl (by kernel_rfl) ?_) hH0 ?_
    · intro w hSw; go_simp
    dsimp only [List.set_cons_zero, List.set_cons_succ]
    refine takeD (i := 11) (d := 35) (v := .pointer (some ⟨c, 1, none⟩)) rfl rfl (by kernel_rfl) (by kernel_rfl) (by kernel_rfl) (fun _ _ _ h => h) (yldV [(34, .pointer (some ⟨c, 0, none⟩))] (by kernel_rfl) rfl (by kernel_rfl) ?_) hH0 ?_
    · intro w hSw; go_simp
    dsimp only [List.set_cons_zero, List.set_cons_succ]
    refine takeD (i := 13) (d := 37) (v := ptrV q) rfl rfl (by kernel_rfl) (by kernel_rfl) (by kernel_rfl) (fun _ _ _ h => h) (yldV [(7, ptrV q)] (by kernel_rfl) rfl (by kernel_rfl) ?_) hH0 ?_
    · intro w hSw; go_simp
    dsimp only [List.set_cons_zero, List.set_cons_succ]
    refine wpAnyH_ready (rs := [5, 7, 12, 14]) (by kernel_rfl) (by simp) (AllReadyH.cons (o := _) rfl (fun K hK => ?_) (AllReadyH.cons (o := _) rfl (fun K hK => ?_) (AllReadyH.cons (o := _) rfl (fun K hK => ?_) (AllReadyH.cons (o := _) rfl (fun K hK => ?_) AllReadyH.nil))))
    · skip
      go_simp
      refine hK.out _ _ ?_ (fun hH1 => ?_)
      · trivial
      clear hK K
      try simp only [Act.put, List.getElem_toArray, List.getElem_cons_zero, List.getElem_cons_succ, List.setIfInBounds_toArray, List.set_cons_zero, List.set_cons_succ]
      refine wpAnyH_ready (rs := [7, 12, 14]) (by kernel_rfl) (by simp) (AllReadyH.cons (o := _) rfl (fun K hK => ?_) (AllReadyH.cons (o := _) rfl (fun K hK => ?_) (AllReadyH.cons (o := _) rfl (fun K hK => ?_) AllReadyH.nil)))
      · skip
        go_simp
        have K1 := K0.allocAt (wd.heap.size) [ptrV N] 50 (by simp)
        have k1c0 := K1.cell 4 rfl 0 rfl; have k1c1 := K1.cell 4 rfl 1 rfl; have k1f0 := K1.free 4 rfl 0; have k1f1 := K1.free 4 rfl 1; have k1l := K1.lt 4 rfl
        refine hK.out _ _ ?_ (fun hH2 => ?_)
        · trivial
        clear hK K
        try simp only [Act.put, List.getElem_toArray, List.getElem_cons_zero, List.getElem_cons_succ, List.setIfInBounds_toArray, List.set_cons_zero, List.set_cons_succ]
        refine wpAnyH_ready (rs := [8, 12, 14]) (by kernel_rfl) (by simp) (AllReadyH.cons (o := _) rfl (fun K hK => ?_) (AllReadyH.cons (o := _) rfl (fun K hK => ?_) (AllReadyH.cons (o := _) rfl (fun K hK => ?_) AllReadyH.nil)))
        · skip
          refine sep_appendAny etDisks rfl (.tmp 29) (.tmp 31) rfl [ptrV N] (slv_box K1 0 rfl) rfl K1 6 rfl rfl rfl (by intro x hx; simp only [List.mem_cons, List.not_mem_nil, or_false] at hx; subst hx; rfl) (by omega) ?_
          intro a5 c5 w5 K2
          have k2c0 := K2.cell 5 rfl 0 rfl; have k2c1 := K2.cell 5 rfl 1 rfl; have k2f0 := K2.free 5 rfl 0; have k2f1 := K2.free 5 rfl 1; have k2l := K2.lt 5 rfl
          refine hK.out _ _ ?_ (fun hH3 => ?_)
          · trivial
          clear hK K
          try simp only [Act.put, List.getElem_toArray, List.getElem_cons_zero, List.getElem_cons_succ, List.setIfInBounds_toArray, List.set_cons_zero, List.set_cons_succ]
          refine wpAnyH_ready (rs := [12, 14]) (by kernel_rfl) (by simp) (AllReadyH.cons (o := _) rfl (fun K hK => ?_) (AllReadyH.cons (o := _) rfl (fun K hK => ?_) AllReadyH.nil))
          · skip
            go_simp
            refine hK.out _ _ ?_ (fun hH4 => ?_)
            · trivial
            clear hK K
            try simp only [Act.put, List.getElem_toArray, List.getElem_cons_zero, List.getElem_cons_succ, List.setIfInBounds_toArray, List.set_cons_zero, List.set_cons_succ]
            refine wpAnyH_ready (rs := [14]) (by kernel_rfl) (by simp) (AllReadyH.cons (o := _) rfl (fun K hK => ?_) AllReadyH.nil)
            go_simp
            have K3 := K2.allocAt (w5.heap.size) [ptrV q] 79 (by simp)
            have k3c0 := K3.cell 6 rfl 0 rfl; have k3c1 := K3.cell 6 rfl 1 rfl; have k3f0 := K3.free 6 rfl 0; have k3f1 := K3.free 6 rfl 1; have k3l := K3.lt 6 rfl
            refine hK.out _ _ ?_ (fun hH5 => ?_)
            · trivial
            clear hK K
            try simp only [Act.put, List.getElem_toArray, List.getElem_cons_zero, List.getElem_cons_succ, List.setIfInBounds_toArray, List.set_cons_zero, List.set_cons_succ]
            refine wpAnyH_ready (rs := [15]) (by kernel_rfl) (by simp) (AllReadyH.cons (o := _) rfl (fun K hK => ?_) AllReadyH.nil)
            refine sep_appendAny etShelves rfl (.tmp 36) (.tmp 38) rfl [ptrV q] (slv_box K3 0 rfl) rfl K3 8 rfl rfl rfl (by intro x hx; simp only [List.mem_cons, List.not_mem_nil, or_false] at hx; subst hx; rfl) (by omega) ?_
            intro a6 c6 w6 K4
            have k4c0 := K4.cell 7 rfl 0 rfl; have k4c1 := K4.cell 7 rfl 1 rfl; have k4f0 := K4.free 7 rfl 0; have k4f1 := K4.free 7 rfl 1; have k4l := K4.lt 7 rfl
            refine hK.out _ _ ?_ (fun hH6 => ?_)
            · trivial
            clear hK K
            try simp only [Act.put, List.getElem_toArray, List.getElem_cons_zero, List.getElem_cons_succ, List.setIfInBounds_toArray, List.set_cons_zero, List.set_cons_succ]
            refine takeD (i := 16) (d := 40) (v := .pointer (some ⟨c, 0, none⟩)) rfl rfl (by kernel_rfl) (by kernel_rfl) (by kernel_rfl) (fun _ _ _ h => h) (yldV [(24, .pointer (some ⟨c, 0, none⟩))] (by kernel_rfl) rfl (by kernel_rfl) ?_) hH6 ?_
            · intro w hSw; go_simp
            dsimp only [List.set_cons_zero, List.set_cons_succ]
            refine takeD (i := 17) (d := 41) (v := .pointer (some ⟨c, 0, none⟩)) rfl rfl (by kernel_rfl) (by kernel_rfl) (by kernel_rfl) (fun _ _ _ h => h) (yldV [(40, .pointer (some ⟨c, 0, none⟩))] (by kernel_rfl) rfl (by kernel_rfl) ?_) hH6 ?_
            · intro w hSw; go_simp
            dsimp only [List.set_cons_zero, List.set_cons_succ]
            refine wpAnyH_ready (rs := [18]) (by kernel_rfl) (by simp) (AllReadyH.cons (o := _) rfl (fun K hK => ?_) AllReadyH.nil)
            go_simp
            have K5 := K4.set 7 rfl 0 (.slice a5 (n + 1) c5)
            have k5c0 := K5.cell 0 rfl 0 rfl; have k5c1 := K5.cell 0 rfl 1 rfl; have k5f0 := K5.free 0 rfl 0; have k5f1 := K5.free 0 rfl 1; have k5l := K5.lt 0 rfl
            refine hK.out _ _ ?_ (fun hH7 => ?_)
            · trivial
            clear hK K
            try simp only [Act.put, List.getElem_toArray, List.getElem_cons_zero, List.getElem_cons_succ, List.setIfInBounds_toArray, List.set_cons_zero, List.set_cons_succ]
            refine takeD (i := 19) (d := 42) (v := .pointer (some ⟨c, 0, none⟩)) rfl rfl (by kernel_rfl) (by kernel_rfl) (by kernel_rfl) (fun _ _ _ h => h) (yldV [(25, .pointer (some ⟨c, 0, none⟩))] (by kernel_rfl) rfl (by kernel_rfl) ?_) hH7 ?_
            · intro w hSw; go_simp
            dsimp only [List.set_cons_zero, List.set_cons_succ]
            refine takeD (i := 20) (d := 43) (v := .pointer (some ⟨c, 1, none⟩)) rfl rfl (by kernel_rfl) (by kernel_rfl) (by kernel_rfl) (fun _ _ _ h => h) (yldV [(42, .pointer (some ⟨c, 0, none⟩))] (by kernel_rfl) rfl (by kernel_rfl) ?_) hH7 ?_
            · intro w hSw; go_simp
            dsimp only [List.set_cons_zero, List.set_cons_succ]
            refine wpAnyH_ready (rs := [21]) (by kernel_rfl) (by simp) (AllReadyH.cons (o := _) rfl (fun K hK => ?_) AllReadyH.nil)
            go_simp
            have K6 := K5.set 0 rfl 1 (.slice a6 (n + 1) c6)
            have k6c0 := K6.cell 0 rfl 0 rfl; have k6c1 := K6.cell 0 rfl 1 rfl; have k6f0 := K6.free 0 rfl 0; have k6f1 := K6.free 0 rfl 1; have k6l := K6.lt 0 rfl
            refine hK.out _ _ ?_ (fun hH8 => ?_)
            · trivial
            clear hK K
            refine wpAnyH_done (by kernel_rfl) ?_ _
            go_wp2_with fail
            go_meet
            exact Lib.hid' ⟨a5, c5, a6, c6, ((((((((((((K6.drop 4).drop 2).focus 5 rfl).focus 5 rfl).focus 5 rfl).focus 9 rfl).focus 9 rfl).focus 9 rfl).focus 7 rfl).focus 8 rfl).focus 9 rfl).focus 9 rfl)⟩
          · skip
            go_simp
            have K3 := K2.allocAt (w5.heap.size) [ptrV q] 79 (by simp)
            have k3c0 := K3.cell 6 rfl 0 rfl; have k3c1 := K3.cell 6 rfl 1 rfl; have k3f0 := K3.free 6 rfl 0; have k3f1 := K3.free 6 rfl 1; have k3l := K3.lt 6 rfl
            refine hK.out _ _ ?_ (fun hH4 => ?_)
            · trivial
            clear hK K
            try simp only [Act.put, List.getElem_toArray, List.getElem_cons_zero, List.getElem_cons_succ, List.setIfInBounds_toArray, List.set_cons_zero, List.set_cons_succ]
            refine wpAnyH_ready (rs := [12]) (by kernel_rfl) (by simp) (AllReadyH.cons (o := _) rfl (fun K hK => ?_) AllReadyH.nil)
            go_simp
            refine hK.out _ _ ?_ (fun hH5 => ?_)
            · trivial
            clear hK K
            try simp only [Act.put, List.getElem_toArray, List.getElem_cons_zero, List.getElem_cons_succ, List.setIfInBounds_toArray, List.set_cons_zero, List.set_cons_succ]
            refine wpAnyH_ready (rs := [15]) (by kernel_rfl) (by simp) (AllReadyH.cons (o := _) rfl (fun K hK => ?_) AllReadyH.nil)
            refine sep_appendAny etShelves rfl (.tmp 36) (.tmp 38) rfl [ptrV q] (slv_box K3 0 rfl) rfl K3 8 rfl rfl rfl (by intro x hx; simp only [List.mem_cons, List.not_mem_nil, or_false] at hx; subst hx; rfl) (by omega) ?_
            intro a6 c6 w6 K4
            have k4c0 := K4.cell 7 rfl 0 rfl; have k4c1 := K4.cell 7 rfl 1 rfl; have k4f0 := K4.free 7 rfl 0; have k4f1 := K4.free 7 rfl 1; have k4l := K4.lt 7 rfl
            refine hK.out _ _ ?_ (fun hH6 => ?_)
            · trivial
            clear hK K
            try simp only [Act.put, List.getElem_toArray, List.getElem_cons_zero, List.getElem_cons_succ, List.setIfInBounds_toArray, List.set_cons_zero, List.set_cons_succ]
            refine takeD (i := 16) (d := 40) (v := .pointer (some ⟨c, 0, none⟩)) rfl rfl (by kernel_rfl) (by kernel_rfl) (by kernel_rfl) (fun _ _ _ h => h) (yldV [(24, .pointer (some ⟨c, 0, none⟩))] (by kernel_rfl) rfl (by kernel_rfl) ?_) hH6 ?_
            · intro w hSw; go_simp
            dsimp only [List.set_cons_zero, List.set_cons_succ]
            refine takeD (i := 17) (d := 41) (v := .pointer (some ⟨c, 0, none⟩)) rfl rfl (by kernel_rfl) (by kernel_rfl) (by kernel_rfl) (fun _ _ _ h => h) (yldV [(40, .pointer (some ⟨c, 0, none⟩))] (by kernel_rfl) rfl (by kernel_rfl) ?_) hH6 ?_
            · intro w hSw; go_simp
            dsimp only [List.set_cons_zero, List.set_cons_succ]
            refine wpAnyH_ready (rs := [18]) (by kernel_rfl) (by simp) (AllReadyH.cons (o := _) rfl (fun K hK => ?_) AllReadyH.nil)
            go_simp
            have K5 := K4.set 7 rfl 0 (.slice a5 (n + 1) c5)
            have k5c0 := K5.cell 0 rfl 0 rfl; have k5c1 := K5.cell 0 rfl 1 rfl; have k5f0 := K5.free 0 rfl 0; have k5f1 := K5.free 0 rfl 1; have k5l := K5.lt 0 rfl
            refine hK.out _ _ ?_ (fun hH7 => ?_)
            · trivial
            clear hK K
            try simp only [Act.put, List.getElem_toArray, List.getElem_cons_zero, List.getElem_cons_succ, List.setIfInBounds_toArray, List.set_cons_zero, List.set_cons_succ]
            refine takeD (i := 19) (d := 42) (v := .pointer (some ⟨c, 0, none⟩)) rfl rfl (by kernel_rfl) (by kernel_rfl) (by kernel_rfl) (fun _ _ _ h => h) (yldV [(25, .pointer (some ⟨c, 0, none⟩))] (by kernel_rfl) rfl (by kernel_rfl) ?_) hH7 ?_
            · intro w hSw; go_simp
            dsimp only [List.set_cons_zero, List.set_cons_succ]
            refine takeD (i := 20) (d := 43) (v := .pointer (some ⟨c, 1, none⟩)) rfl rfl (by kernel_rfl) (by kernel_rfl) (by kernel_rfl) (fun _ _ _ h => h) (yldV [(42, .pointer (some ⟨c, 0, none⟩))] (by kernel_rfl) rfl (by kernel_rfl) ?_) hH7 ?_
            · intro w hSw; go_simp
            dsimp only [List.set_cons_zero, List.set_cons_succ]
            refine wpAnyH_ready (rs := [21]) (by kernel_rfl) (by simp) (AllReadyH.cons (o := _) rfl (fun K hK => ?_) AllReadyH.nil)
            go_simp
            have K6 := K5.set 0 rfl 1 (.slice a6 (n + 1) c6)
            have k6c0 := K6.cell 0 rfl 0 rfl; have k6c1 := K6.cell 0 rfl 1 rfl; have k6f0 := K6.free 0 rfl 0; have k6f1 := K6.free 0 rfl 1; have k6l := K6.lt 0 rfl
            refine hK.out _ _ ?_ (fun hH8 => ?_)
            · trivial
            clear hK K
            refine wpAnyH_done (by kernel_rfl) ?_ _
            go_wp2_with fail
            go_meet
            exact Lib.hid' ⟨a5, c5, a6, c6, ((((((((((((K6.drop 4).drop 2).focus 5 rfl).focus 5 rfl).focus 5 rfl).focus 9 rfl).focus 9 rfl).focus 9 rfl).focus 7 rfl).focus 8 rfl).focus 9 rfl).focus 9 rfl)⟩
        · skip
          go_simp
          refine hK.out _ _ ?_ (fun hH3 => ?_)
          · trivial
          clear hK K
          try simp only [Act.put, List.getElem_toArray, List.getElem_cons_zero, List.getElem_cons_succ, List.setIfInBounds_toArray, List.set_cons_zero, List.set_cons_succ]
          refine wpAnyH_ready (rs := [8, 14]) (by kernel_rfl) (by simp) (AllReadyH.cons (o := _) rfl (fun K hK => ?_) (AllReadyH.cons (o := _) rfl (fun K hK => ?_) AllReadyH.nil))
          · skip
            refine sep_appendAny etDisks rfl (.tmp 29) (.tmp 31) rfl [ptrV N] (slv_box K1 0 rfl) rfl K1 6 rfl rfl rfl (by intro x hx; simp only [List.mem_cons, List.not_mem_nil, or_false] at hx; subst hx; rfl) (by omega) ?_
            intro a5 c5 w5 K2
            have k2c0 := K2.cell 5 rfl 0 rfl; have k2c1 := K2.cell 5 rfl 1 rfl; have k2f0 := K2.free 5 rfl 0; have k2f1 := K2.free 5 rfl 1; have k2l := K2.lt 5 rfl
            refine hK.out _ _ ?_ (fun hH4 => ?_)
            · trivial
            clear hK K
            try simp only [Act.put, List.getElem_toArray, List.getElem_cons_zero, List.getElem_cons_succ, List.setIfInBounds_toArray, List.set_cons_zero, List.set_cons_succ]
            refine wpAnyH_ready (rs := [14]) (by kernel_rfl) (by simp) (AllReadyH.cons (o := _) rfl (fun K hK => ?_) AllReadyH.nil)
            go_simp
            have K3 := K2.allocAt (w5.heap.size) [ptrV q] 79 (by simp)
            have k3c0 := K3.cell 6 rfl 0 rfl; have k3c1 := K3.cell 6 rfl 1 rfl; have k3f0 := K3.free 6 rfl 0; have k3f1 := K3.free 6 rfl 1; have k3l := K3.lt 6 rfl
            refine hK.out _ _ ?_ (fun hH5 => ?_)
            · trivial
            clear hK K
            try simp only [Act.put, List.getElem_toArray, List.getElem_cons_zero, List.getElem_cons_succ, List.setIfInBounds_toArray, List.set_cons_zero, List.set_cons_succ]
            refine wpAnyH_ready (rs := [15]) (by kernel_rfl) (by simp) (AllReadyH.cons (o := _) rfl (fun K hK => ?_) AllReadyH.nil)
            refine sep_appendAny etShelves rfl (.tmp 36) (.tmp 38) rfl [ptrV q] (slv_box K3 0 rfl) rfl K3 8 rfl rfl rfl (by intro x hx; simp only [List.mem_cons, List.not_mem_nil, or_false] at hx; subst hx; rfl) (by omega) ?_
            intro a6 c6 w6 K4
            have k4c0 := K4.cell 7 rfl 0 rfl; have k4c1 := K4.cell 7 rfl 1 rfl; have k4f0 := K4.free 7 rfl 0; have k4f1 := K4.free 7 rfl 1; have k4l := K4.lt 7 rfl
            refine hK.out _ _ ?_ (fun hH6 => ?_)
            · trivial
            clear hK K
            try simp only [Act.put, List.getElem_toArray, List.getElem_cons_zero, List.getElem_cons_succ, List.setIfInBounds_toArray, List.set_cons_zero, List.set_cons_succ]
            refine takeD (i := 16) (d := 40) (v := .pointer (some ⟨c, 0, none⟩)) rfl rfl (by kernel_rfl) (by kernel_rfl) (by kernel_rfl) (fun _ _ _ h => h) (yldV [(24, .pointer (some ⟨c, 0, none⟩))] (by kernel_rfl) rfl (by kernel_rfl) ?_) hH6 ?_
            · intro w hSw; go_simp
            dsimp only [List.set_cons_zero, List.set_cons_succ]
            refine takeD (i := 17) (d := 41) (v := .pointer (some ⟨c, 0, none⟩)) rfl rfl (by kernel_rfl) (by kernel_rfl) (by kernel_rfl) (fun _ _ _ h => h) (yldV [(40, .pointer (some ⟨c, 0, none⟩))] (by kernel_rfl) rfl (by kernel_rfl) ?_) hH6 ?_
            · intro w hSw; go_simp
            dsimp only [List.set_cons_zero, List.set_cons_succ]
            refine wpAnyH_ready (rs := [18]) (by kernel_rfl) (by simp) (AllReadyH.cons (o := _) rfl (fun K hK => ?_) AllReadyH.nil)
            go_simp
            have K5 := K4.set 7 rfl 0 (.slice a5 (n + 1) c5)
            have k5c0 := K5.cell 0 rfl 0 rfl; have k5c1 := K5.cell 0 rfl 1 rfl; have k5f0 := K5.free 0 rfl 0; have k5f1 := K5.free 0 rfl 1; have k5l := K5.lt 0 rfl
            refine hK.out _ _ ?_ (fun hH7 => ?_)
            · trivial
            clear hK K
            try simp only [Act.put, List.getElem_toArray, List.getElem_cons_zero, List.getElem_cons_succ, List.setIfInBounds_toArray, List.set_cons_zero, List.set_cons_succ]
            refine takeD (i := 19) (d := 42) (v := .pointer (some ⟨c, 0, none⟩)) rfl rfl (by kernel_rfl) (by kernel_rfl) (by kernel_rfl) (fun _ _ _ h => h) (yldV [(25, .pointer (some ⟨c, 0, none⟩))] (by kernel_rfl) rfl (by kernel_rfl) ?_) hH7 ?_
            · intro w hSw; go_simp
            dsimp only [List.set_cons_zero, List.set_cons_succ]
            refine takeD (i := 20) (d := 43) (v := .pointer (some ⟨c, 1, none⟩)) rfl rfl (by kernel_rfl) (by kernel_rfl) (by kernel_rfl) (fun _ _ _ h => h) (yldV [(42, .pointer (some ⟨c, 0, none⟩))] (by kernel_rfl) rfl (by kernel_rfl) ?_) hH7 ?_
            · intro w hSw; go_simp
            dsimp only [List.set_cons_zero, List.set_cons_succ]
            refine wpAnyH_ready (rs := [21]) (by kernel_rfl) (by simp) (AllReadyH.cons (o := _) rfl (fun K hK => ?_) AllReadyH.nil)
            go_simp
            have K6 := K5.set 0 rfl 1 (.slice a6 (n + 1) c6)
            have k6c0 := K6.cell 0 rfl 0 rfl; have k6c1 := K6.cell 0 rfl 1 rfl; have k6f0 := K6.free 0 rfl 0; have k6f1 := K6.free 0 rfl 1; have k6l := K6.lt 0 rfl
            refine hK.out _ _ ?_ (fun hH8 => ?_)
            · trivial
            clear hK K
            refine wpAnyH_done (by kernel_rfl) ?_ _
            go_wp2_with fail
            go_meet
            exact Lib.hid' ⟨a5, c5, a6, c6, ((((((((((((K6.drop 4).drop 2).focus 5 rfl).focus 5 rfl).focus 5 rfl).focus 9 rfl).focus 9 rfl).focus 9 rfl).focus 7 rfl).focus 8 rfl).focus 9 rfl).focus 9 rfl)⟩
          · skip
            go_simp
            have K2 := K1.allocAt (wd.heap.size + 1) [ptrV q] 79 (by simp)
            have k2c0 := K2.cell 5 rfl 0 rfl; have k2c1 := K2.cell 5 rfl 1 rfl; have k2f0 := K2.free 5 rfl 0; have k2f1 := K2.free 5 rfl 1; have k2l := K2.lt 5 rfl
            refine hK.out _ _ ?_ (fun hH4 => ?_)
            · trivial
            clear hK K
            try simp only [Act.put, List.getElem_toArray, List.getElem_cons_zero, List.getElem_cons_succ, List.setIfInBounds_toArray, List.set_cons_zero, List.set_cons_succ]
            refine wpAnyH_ready (rs := [8]) (by kernel_rfl) (by simp) (AllReadyH.cons (o := _) rfl (fun K hK => ?_) AllReadyH.nil)
            refine sep_appendAny etDisks rfl (.tmp 29) (.tmp 31) rfl [ptrV N] (slv_box K2 1 rfl) rfl K2 7 rfl rfl rfl (by intro x hx; simp only [List.mem_cons, List.not_mem_nil, or_false] at hx; subst hx; rfl) (by omega) ?_
            intro a5 c5 w5 K3
            have k3c0 := K3.cell 6 rfl 0 rfl; have k3c1 := K3.cell 6 rfl 1 rfl; have k3f0 := K3.free 6 rfl 0; have k3f1 := K3.free 6 rfl 1; have k3l := K3.lt 6 rfl
            refine hK.out _ _ ?_ (fun hH5 => ?_)
            · trivial
            clear hK K
            try simp only [Act.put, List.getElem_toArray, List.getElem_cons_zero, List.getElem_cons_succ, List.setIfInBounds_toArray, List.set_cons_zero, List.set_cons_succ]
            refine wpAnyH_ready (rs := [15]) (by kernel_rfl) (by simp) (AllReadyH.cons (o := _) rfl (fun K hK => ?_) AllReadyH.nil)
            refine sep_appendAny etShelves rfl (.tmp 36) (.tmp 38) rfl [ptrV q] (slv_box K3 1 rfl) rfl K3 8 rfl rfl rfl (by intro x hx; simp only [List.mem_cons, List.not_mem_nil, or_false] at hx; subst hx; rfl) (by omega) ?_
            intro a6 c6 w6 K4
            have k4c0 := K4.cell 7 rfl 0 rfl; have k4c1 := K4.cell 7 rfl 1 rfl; have k4f0 := K4.free 7 rfl 0; have k4f1 := K4.free 7 rfl 1; have k4l := K4.lt 7 rfl
            refine hK.out _ _ ?_ (fun hH6 => ?_)
            · trivial
            clear hK K
            try simp only [Act.put, List.getElem_toArray, List.getElem_cons_zero, List.getElem_cons_succ, List.setIfInBounds_toArray, List.set_cons_zero, List.set_cons_succ]
            refine takeD (i := 16) (d := 40) (v := .pointer (some ⟨c, 0, none⟩)) rfl rfl (by kernel_rfl) (by kernel_rfl) (by kernel_rfl) (fun _ _ _ h => h) (yldV [(24, .pointer (some ⟨c, 0, none⟩))] (by kernel_rfl) rfl (by kernel_rfl) ?_) hH6 ?_
            · intro w hSw; go_simp
            dsimp only [List.set_cons_zero, List.set_cons_succ]
            refine takeD (i := 17) (d := 41) (v := .pointer (some ⟨c, 0, none⟩)) rfl rfl (by kernel_rfl) (by kernel_rfl) (by kernel_rfl) (fun _ _ _ h => h) (yldV [(40, .pointer (some ⟨c, 0, none⟩))] (by kernel_rfl) rfl (by kernel_rfl) ?_) hH6 ?_
            · intro w hSw; go_simp
            dsimp only [List.set_cons_zero, List.set_cons_succ]
            refine wpAnyH_ready (rs := [18]) (by kernel_rfl) (by simp) (AllReadyH.cons (o := _) rfl (fun K hK => ?_) AllReadyH.nil)
            go_simp
            have K5 := K4.set 7 rfl 0 (.slice a5 (n + 1) c5)
            have k5c0 := K5.cell 0 rfl 0 rfl; have k5c1 := K5.cell 0 rfl 1 rfl; have k5f0 := K5.free 0 rfl 0; have k5f1 := K5.free 0 rfl 1; have k5l := K5.lt 0 rfl
            refine hK.out _ _ ?_ (fun hH7 => ?_)
            · trivial
            clear hK K
            try simp only [Act.put, List.getElem_toArray, List.getElem_cons_zero, List.getElem_cons_succ, List.setIfInBounds_toArray, List.set_cons_zero, List.set_cons_succ]
            refine takeD (i := 19) (d := 42) (v := .pointer (some ⟨c, 0, none⟩)) rfl rfl (by kernel_rfl) (by kernel_rfl) (by kernel_rfl) (fun _ _ _ h => h) (yldV [(25, .pointer (some ⟨c, 0, none⟩))] (by kernel_rfl) rfl (by kernel_rfl) ?_) hH7 ?_
            · intro w hSw; go_simp
            dsimp only [List.set_cons_zero, List.set_cons_succ]
            refine takeD (i := 20) (d := 43) (v := .pointer (some ⟨c, 1, none⟩)) rfl rfl (by kernel_rfl) (by kernel_rfl) (by kernel_rfl) (fun _ _ _ h => h) (yldV [(42, .pointer (some ⟨c, 0, none⟩))] (by kernel_rfl) rfl (by kernel_rfl) ?_) hH7 ?_
            · intro w hSw; go_simp
            dsimp only [List.set_cons_zero, List.set_cons_succ]
            refine wpAnyH_ready (rs := [21]) (by kernel_rfl) (by simp) (AllReadyH.cons (o := _) rfl (fun K hK => ?_) AllReadyH.nil)
            go_simp
            have K6 := K5.set 0 rfl 1 (.slice a6 (n + 1) c6)
            have k6c0 := K6.cell 0 rfl 0 rfl; have k6c1 := K6.cell 0 rfl 1 rfl; have k6f0 := K6.free 0 rfl 0; have k6f1 := K6.free 0 rfl 1; have k6l := K6.lt 0 rfl
            refine hK.out _ _ ?_ (fun hH8 => ?_)
            · trivial
            clear hK K
            refine wpAnyH_done (by kernel_rfl) ?_ _
            go_wp2_with fail
            go_meet
            exact Lib.hid' ⟨a5, c5, a6, c6, ((((((((((((K6.drop 4).drop 3).focus 5 rfl).focus 5 rfl).focus 5 rfl).focus 9 rfl).focus 9 rfl).focus 9 rfl).focus 7 rfl).focus 8 rfl).focus 9 rfl).focus 9 rfl)⟩
        · skip
          go_simp
          have K2 := K1.allocAt (wd.heap.size + 1) [ptrV q] 79 (by simp)
          have k2c0 := K2.cell 5 rfl 0 rfl; have k2c1 := K2.cell 5 rfl 1 rfl; have k2f0 := K2.free 5 rfl 0; have k2f1 := K2.free 5 rfl 1; have k2l := K2.lt 5 rfl
          refine hK.out _ _ ?_ (fun hH3 => ?_)
          · trivial
          clear hK K
          try simp only [Act.put, List.getElem_toArray, List.getElem_cons_zero, List.getElem_cons_succ, List.setIfInBounds_toArray, List.set_cons_zero, List.set_cons_succ]
          refine wpAnyH_ready (rs := [8, 12]) (by kernel_rfl) (by simp) (AllReadyH.cons (o := _) rfl (fun K hK => ?_) (AllReadyH.cons (o := _) rfl (fun K hK => ?_) AllReadyH.nil))
          · skip
            refine sep_appendAny etDisks rfl (.tmp 29) (.tmp 31) rfl [ptrV N] (slv_box K2 1 rfl) rfl K2 7 rfl rfl rfl (by intro x hx; simp only [List.mem_cons, List.not_mem_nil, or_false] at hx; subst hx; rfl) (by omega) ?_
            intro a5 c5 w5 K3
            have k3c0 := K3.cell 6 rfl 0 rfl; have k3c1 := K3.cell 6 rfl 1 rfl; have k3f0 := K3.free 6 rfl 0; have k3f1 := K3.free 6 rfl 1; have k3l := K3.lt 6 rfl
            refine hK.out _ _ ?_ (fun hH4 => ?_)
            · trivial
            clear hK K
            try simp only [Act.put, List.getElem_toArray, List.getElem_cons_zero, List.getElem_cons_succ, List.setIfInBounds_toArray, List.set_cons_zero, List.set_cons_succ]
            refine wpAnyH_ready (rs := [12]) (by kernel_rfl) (by simp) (AllReadyH.cons (o := _) rfl (fun K hK => ?_) AllReadyH.nil)
            go_simp
            refine hK.out _ _ ?_ (fun hH5 => ?_)
            · trivial
            clear hK K
            try simp only [Act.put, List.getElem_toArray, List.getElem_cons_zero, List.getElem_cons_succ, List.setIfInBounds_toArray, List.set_cons_zero, List.set_cons_succ]
            refine wpAnyH_ready (rs := [15]) (by kernel_rfl) (by simp) (AllReadyH.cons (o := _) rfl (fun K hK => ?_) AllReadyH.nil)
            refine sep_appendAny etShelves rfl (.tmp 36) (.tmp 38) rfl [ptrV q] (slv_box K3 1 rfl) rfl K3 8 rfl rfl rfl (by intro x hx; simp only [List.mem_cons, List.not_mem_nil, or_false] at hx; subst hx; rfl) (by omega) ?_
            intro a6 c6 w6 K4
            have k4c0 := K4.cell 7 rfl 0 rfl; have k4c1 := K4.cell 7 rfl 1 rfl; have k4f0 := K4.free 7 rfl 0; have k4f1 := K4.free 7 rfl 1; have k4l := K4.lt 7 rfl
            refine hK.out _ _ ?_ (fun hH6 => ?_)
            · trivial
            clear hK K
            try simp only [Act.put, List.getElem_toArray, List.getElem_cons_zero, List.getElem_cons_succ, List.setIfInBounds_toArray, List.set_cons_zero, List.set_cons_succ]
            refine takeD (i := 16) (d := 40) (v := .pointer (some ⟨c, 0, none⟩)) rfl rfl (by kernel_rfl) (by kernel_rfl) (by kernel_rfl) (fun _ _ _ h => h) (yldV [(24, .pointer (some ⟨c, 0, none⟩))] (by kernel_rfl) rfl (by kernel_rfl) ?_) hH6 ?_
            · intro w hSw; go_simp
            dsimp only [List.set_cons_zero, List.set_cons_succ]
            refine takeD (i := 17) (d := 41) (v := .pointer (some ⟨c, 0, none⟩)) rfl rfl (by kernel_rfl) (by kernel_rfl) (by kernel_rfl) (fun _ _ _ h => h) (yldV [(40, .pointer (some ⟨c, 0, none⟩))] (by kernel_rfl) rfl (by kernel_rfl) ?_) hH6 ?_
            · intro w hSw; go_simp
            dsimp only [List.set_cons_zero, List.set_cons_succ]
            refine wpAnyH_ready (rs := [18]) (by kernel_rfl) (by simp) (AllReadyH.cons (o := _) rfl (fun K hK => ?_) AllReadyH.nil)
            go_simp
            have K5 := K4.set 7 rfl 0 (.slice a5 (n + 1) c5)
            have k5c0 := K5.cell 0 rfl 0 rfl; have k5c1 := K5.cell 0 rfl 1 rfl; have k5f0 := K5.free 0 rfl 0; have k5f1 := K5.free 0 rfl 1; have k5l := K5.lt 0 rfl
            refine hK.out _ _ ?_ (fun hH7 => ?_)
            · trivial
            clear hK K
            try simp only [Act.put, List.getElem_toArray, List.getElem_cons_zero, List.getElem_cons_succ, List.setIfInBounds_toArray, List.set_cons_zero, List.set_cons_succ]
            refine takeD (i := 19) (d := 42) (v := .pointer (some ⟨c, 0, none⟩)) rfl rfl (by kernel_rfl) (by kernel_rfl) (by kernel_rfl) (fun _ _ _ h => h) (yldV [(25, .pointer (some ⟨c, 0, none⟩))] (by kernel_rfl) rfl (by kernel_rfl) ?_) hH7 ?_
            · intro w hSw; go_simp
            dsimp only [List.set_cons_zero, List.set_cons_succ]
            refine takeD (i := 20) (d := 43) (v := .pointer (some ⟨c, 1, none⟩)) rfl rfl (by kernel_rfl) (by kernel_rfl) (by kernel_rfl) (fun _ _ _ h => h) (yldV [(42, .pointer (some ⟨c, 0, none⟩))] (by kernel_rfl) rfl (by kernel_rfl) ?_) hH7 ?_
            · intro w hSw; go_simp
            dsimp only [List.set_cons_zero, List.set_cons_succ]
            refine wpAnyH_ready (rs := [21]) (by kernel_rfl) (by simp) (AllReadyH.cons (o := _) rfl (fun K hK => ?_) AllReadyH.nil)
            go_simp
            have K6 := K5.set 0 rfl 1 (.slice a6 (n + 1) c6)
            have k6c0 := K6.cell 0 rfl 0 rfl; have k6c1 := K6.cell 0 rfl 1 rfl; have k6f0 := K6.free 0 rfl 0; have k6f1 := K6.free 0 rfl 1; have k6l := K6.lt 0 rfl
            refine hK.out _ _ ?_ (fun hH8 => ?_)
            · trivial
            clear hK K
            refine wpAnyH_done (by kernel_rfl) ?_ _
            go_wp2_with fail
            go_meet
            exact Lib.hid' ⟨a5, c5, a6, c6, ((((((((((((K6.drop 4).drop 3).focus 5 rfl).focus 5 rfl).focus 5 rfl).focus 9 rfl).focus 9 rfl).focus 9 rfl).focus 7 rfl).focus 8 rfl).focus 9 rfl).focus 9 rfl)⟩
          · skip
            go_simp
            refine hK.out _ _ ?_ (fun hH4 => ?_)
            · trivial
            clear hK K
            try simp only [Act.put, List.getElem_toArray, List.getElem_cons_zero, List.getElem_cons_succ, List.setIfInBounds_toArray, List.set_cons_zero, List.set_cons_succ]
            refine wpAnyH_ready (rs := [8]) (by kernel_rfl) (by simp) (AllReadyH.cons (o := _) rfl (fun K hK => ?_) AllReadyH.nil)
            refine sep_appendAny etDisks rfl (.tmp 29) (.tmp 31) rfl [ptrV N] (slv_box K2 1 rfl) rfl K2 7 rfl rfl rfl (by intro x hx; simp only [List.mem_cons, List.not_mem_nil, or_false] at hx; subst hx; rfl) (by omega) ?_
            intro a5 c5 w5 K3
            have k3c0 := K3.cell 6 rfl 0 rfl; have k3c1 := K3.cell 6 rfl 1 rfl; have k3f0 := K3.free 6 rfl 0; have k3f1 := K3.free 6 rfl 1; have k3l := K3.lt 6 rfl
            refine hK.out _ _ ?_ (fun hH5 => ?_)
            · trivial
            clear hK K
            try simp only [Act.put, List.getElem_toArray, List.getElem_cons_zero, List.getElem_cons_succ, List.setIfInBounds_toArray, List.set_cons_zero, List.set_cons_succ]
            refine wpAnyH_ready (rs := [15]) (by kernel_rfl) (by simp) (AllReadyH.cons (o := _) rfl (fun K hK => ?_) AllReadyH.nil)
            refine sep_appendAny etShelves rfl (.tmp 36) (.tmp 38) rfl [ptrV q] (slv_box K3 1 rfl) rfl K3 8 rfl rfl rfl (by intro x hx; simp only [List.mem_cons, List.not_mem_nil, or_false] at hx; subst hx; rfl) (by omega) ?_
            intro a6 c6 w6 K4
            have k4c0 := K4.cell 7 rfl 0 rfl; have k4c1 := K4.cell 7 rfl 1 rfl; have k4f0 := K4.free 7 rfl 0; have k4f1 := K4.free 7 rfl 1; have k4l := K4.lt 7 rfl
            refine hK.out _ _ ?_ (fun hH6 => ?_)
            · trivial
            clear hK K
            try simp only [Act.put, List.getElem_toArray, List.getElem_cons_zero, List.getElem_cons_succ, List.setIfInBounds_toArray, List.set_cons_zero, List.set_cons_succ]
            refine takeD (i := 16) (d := 40) (v := .pointer (some ⟨c, 0, none⟩)) rfl rfl (by kernel_rfl) (by kernel_rfl) (by kernel_rfl) (fun _ _ _ h => h) (yldV [(24, .pointer (some ⟨c, 0, none⟩))] (by kernel_rfl) rfl (by kernel_rfl) ?_) hH6 ?_
            · intro w hSw; go_simp
            dsimp only [List.set_cons_zero, List.set_cons_succ]
            refine takeD (i := 17) (d := 41) (v := .pointer (some ⟨c, 0, none⟩)) rfl rfl (by kernel_rfl) (by kernel_rfl) (by kernel_rfl) (fun _ _ _ h => h) (yldV [(40, .pointer (some ⟨c, 0, none⟩))] (by kernel_rfl) rfl (by kernel_rfl) ?_) hH6 ?_
            · intro w hSw; go_simp
            dsimp only [List.set_cons_zero, List.set_cons_succ]
            refine wpAnyH_ready (rs := [18]) (by kernel_rfl) (by simp) (AllReadyH.cons (o := _) rfl (fun K hK => ?_) AllReadyH.nil)
            go_simp
            have K5 := K4.set 7 rfl 0 (.slice a5 (n + 1) c5)
            have k5c0 := K5.cell 0 rfl 0 rfl; have k5c1 := K5.cell 0 rfl 1 rfl; have k5f0 := K5.free 0 rfl 0; have k5f1 := K5.free 0 rfl 1; have k5l := K5.lt 0 rfl
            refine hK.out _ _ ?_ (fun hH7 => ?_)
            · trivial
            clear hK K
            try simp only [Act.put, List.getElem_toArray, List.getElem_cons_zero, List.getElem_cons_succ, List.setIfInBounds_toArray, List.set_cons_zero, List.set_cons_succ]
            refine takeD (i := 19) (d := 42) (v := .pointer (some ⟨c, 0, none⟩)) rfl rfl (by kernel_rfl) (by kernel_rfl) (by kernel_rfl) (fun _ _ _ h => h) (yldV [(25, .pointer (some ⟨c, 0, none⟩))] (by kernel_rfl) rfl (by kernel_rfl) ?_) hH7 ?_
            · intro w hSw; go_simp
            dsimp only [List.set_cons_zero, List.set_cons_succ]
            refine takeD (i := 20) (d := 43) (v := .pointer (some ⟨c, 1, none⟩)) rfl rfl (by kernel_rfl) (by kernel_rfl) (by kernel_rfl) (fun _ _ _ h => h) (yldV [(42, .pointer (some ⟨c, 0, none⟩))] (by kernel_rfl) rfl (by kernel_rfl) ?_) hH7 ?_
            · intro w hSw; go_simp
            dsimp only [List.set_cons_zero, List.set_cons_succ]
            refine wpAnyH_ready (rs := [21]) (by kernel_rfl) (by simp) (AllReadyH.cons (o := _) rfl (fun K hK => ?_) AllReadyH.nil)
            go_simp
            have K6 := K5.set 0 rfl 1 (.slice a6 (n + 1) c6)
            have k6c0 := K6.cell 0 rfl 0 rfl; have k6c1 := K6.cell 0 rfl 1 rfl; have k6f0 := K6.free 0 rfl 0; have k6f1 := K6.free 0 rfl 1; have k6l := K6.lt 0 rfl
            refine hK.out _ _ ?_ (fun hH8 => ?_)
            · trivial
            clear hK K
            refine wpAnyH_done (by kernel_rfl) ?_ _
            go_wp2_with fail
            go_meet
            exact Lib.hid' ⟨a5, c5, a6, c6, ((((((((((((K6.drop 4).drop 3).focus 5 rfl).focus 5 rfl).focus 5 rfl).focus 9 rfl).focus 9 rfl).focus 9 rfl).focus 7 rfl).focus 8 rfl).focus 9 rfl).focus 9 rfl)⟩
      · skip
        go_simp
        refine hK.out _ _ ?_ (fun hH2 => ?_)
        · trivial
        clear hK K
        try simp only [Act.put, List.getElem_toArray, List.getElem_cons_zero, List.getElem_cons_succ, List.setIfInBounds_toArray, List.set_cons_zero, List.set_cons_succ]
        refine wpAnyH_ready (rs := [7, 14]) (by kernel_rfl) (by simp) (AllReadyH.cons (o := _) rfl (fun K hK => ?_) (AllReadyH.cons (o := _) rfl (fun K hK => ?_) AllReadyH.nil))
        · skip
          go_simp
          have K1 := K0.allocAt (wd.heap.size) [ptrV N] 50 (by simp)
          have k1c0 := K1.cell 4 rfl 0 rfl; have k1c1 := K1.cell 4 rfl 1 rfl; have k1f0 := K1.free 4 rfl 0; have k1f1 := K1.free 4 rfl 1; have k1l := K1.lt 4 rfl
          refine hK.out _ _ ?_ (fun hH3 => ?_)
          · trivial
          clear hK K
          try simp only [Act.put, List.getElem_toArray, List.getElem_cons_zero, List.getElem_cons_succ, List.setIfInBounds_toArray, List.set_cons_zero, List.set_cons_succ]
          refine wpAnyH_ready (rs := [8, 14]) (by kernel_rfl) (by simp) (AllReadyH.cons (o := _) rfl (fun K hK => ?_) (AllReadyH.cons (o := _) rfl (fun K hK => ?_) AllReadyH.nil))
          · skip
            refine sep_appendAny etDisks rfl (.tmp 29) (.tmp 31) rfl [ptrV N] (slv_box K1 0 rfl) rfl K1 6 rfl rfl rfl (by intro x hx; simp only [List.mem_cons, List.not_mem_nil, or_false] at hx; subst hx; rfl) (by omega) ?_
            intro a5 c5 w5 K2
            have k2c0 := K2.cell 5 rfl 0 rfl; have k2c1 := K2.cell 5 rfl 1 rfl; have k2f0 := K2.free 5 rfl 0; have k2f1 := K2.free 5 rfl 1; have k2l := K2.lt 5 rfl
            refine hK.out _ _ ?_ (fun hH4 => ?_)
            · trivial
            clear hK K
            try simp only [Act.put, List.getElem_toArray, List.getElem_cons_zero, List.getElem_cons_succ, List.setIfInBounds_toArray, List.set_cons_zero, List.set_cons_succ]
            refine wpAnyH_ready (rs := [14]) (by kernel_rfl) (by simp) (AllReadyH.cons (o := _) rfl (fun K hK => ?_) AllReadyH.nil)
            go_simp
            have K3 := K2.allocAt (w5.heap.size) [ptrV q] 79 (by simp)
            have k3c0 := K3.cell 6 rfl 0 rfl; have k3c1 := K3.cell 6 rfl 1 rfl; have k3f0 := K3.free 6 rfl 0; have k3f1 := K3.free 6 rfl 1; have k3l := K3.lt 6 rfl
            refine hK.out _ _ ?_ (fun hH5 => ?_)
            · trivial
            clear hK K
            try simp only [Act.put, List.getElem_toArray, List.getElem_cons_zero, List.getElem_cons_succ, List.setIfInBounds_toArray, List.set_cons_zero, List.set_cons_succ]
            refine wpAnyH_ready (rs := [15]) (by kernel_rfl) (by simp) (AllReadyH.cons (o := _) rfl (fun K hK => ?_) AllReadyH.nil)
            refine sep_appendAny etShelves rfl (.tmp 36) (.tmp 38) rfl [ptrV q] (slv_box K3 0 rfl) rfl K3 8 rfl rfl rfl (by intro x hx; simp only [List.mem_cons, List.not_mem_nil, or_false] at hx; subst hx; rfl) (by omega) ?_
            intro a6 c6 w6 K4
            have k4c0 := K4.cell 7 rfl 0 rfl; have k4c1 := K4.cell 7 rfl 1 rfl; have k4f0 := K4.free 7 rfl 0; have k4f1 := K4.free 7 rfl 1; have k4l := K4.lt 7 rfl
            refine hK.out _ _ ?_ (fun hH6 => ?_)
            · trivial
            clear hK K
            try simp only [Act.put, List.getElem_toArray, List.getElem_cons_zero, List.getElem_cons_succ, List.setIfInBounds_toArray, List.set_cons_zero, List.set_cons_succ]
            refine takeD (i := 16) (d := 40) (v := .pointer (some ⟨c, 0, none⟩)) rfl rfl (by kernel_rfl) (by kernel_rfl) (by kernel_rfl) (fun _ _ _ h => h) (yldV [(24, .pointer (some ⟨c, 0, none⟩))] (by kernel_rfl) rfl (by kernel_rfl) ?_) hH6 ?_
            · intro w hSw; go_simp
            dsimp only [List.set_cons_zero, List.set_cons_succ]
            refine takeD (i := 17) (d := 41) (v := .pointer (some ⟨c, 0, none⟩)) rfl rfl (by kernel_rfl) (by kernel_rfl) (by kernel_rfl) (fun _ _ _ h => h) (yldV [(40, .pointer (some ⟨c, 0, none⟩))] (by kernel_rfl) rfl (by kernel_rfl) ?_) hH6 ?_
            · intro w hSw; go_simp
            dsimp only [List.set_cons_zero, List.set_cons_succ]
            refine wpAnyH_ready (rs := [18]) (by kernel_rfl) (by simp) (AllReadyH.cons (o := _) rfl (fun K hK => ?_) AllReadyH.nil)
            go_simp
            have K5 := K4.set 7 rfl 0 (.slice a5 (n + 1) c5)
            have k5c0 := K5.cell 0 rfl 0 rfl; have k5c1 := K5.cell 0 rfl 1 rfl; have k5f0 := K5.free 0 rfl 0; have k5f1 := K5.free 0 rfl 1; have k5l := K5.lt 0 rfl
            refine hK.out _ _ ?_ (fun hH7 => ?_)
            · trivial
            clear hK K
            try simp only [Act.put, List.getElem_toArray, List.getElem_cons_zero, List.getElem_cons_succ, List.setIfInBounds_toArray, List.set_cons_zero, List.set_cons_succ]
            refine takeD (i := 19) (d := 42) (v := .pointer (some ⟨c, 0, none⟩)) rfl rfl (by kernel_rfl) (by kernel_rfl) (by kernel_rfl) (fun _ _ _ h => h) (yldV [(25, .pointer (some ⟨c, 0, none⟩))] (by kernel_rfl) rfl (by kernel_rfl) ?_) hH7 ?_
            · intro w hSw; go_simp
            dsimp only [List.set_cons_zero, List.set_cons_succ]
            refine takeD (i := 20) (d := 43) (v := .pointer (some ⟨c, 1, none⟩)) rfl rfl (by kernel_rfl) (by kernel_rfl) (by kernel_rfl) (fun _ _ _ h => h) (yldV [(42, .pointer (some ⟨c, 0, none⟩))] (by kernel_rfl) rfl (by kernel_rfl) ?_) hH7 ?_
            · intro w hSw; go_simp
            dsimp only [List.set_cons_zero, List.set_cons_succ]
            refine wpAnyH_ready (rs := [21]) (by kernel_rfl) (by simp) (AllReadyH.cons (o := _) rfl (fun K hK => ?_) AllReadyH.nil)
            go_simp
            have K6 := K5.set 0 rfl 1 (.slice a6 (n + 1) c6)
            have k6c0 := K6.cell 0 rfl 0 rfl; have k6c1 := K6.cell 0 rfl 1 rfl; have k6f0 := K6.free 0 rfl 0; have k6f1 := K6.free 0 rfl 1; have k6l := K6.lt 0 rfl
            refine hK.out _ _ ?_ (fun hH8 => ?_)
            · trivial
            clear hK K
            refine wpAnyH_done (by kernel_rfl) ?_ _
            go_wp2_with fail
            go_meet
            exact Lib.hid' ⟨a5, c5, a6, c6, ((((((((((((K6.drop 4).drop 2).focus 5 rfl).focus 5 rfl).focus 5 rfl).focus 9 rfl).focus 9 rfl).focus 9 rfl).focus 7 rfl).focus 8 rfl).focus 9 rfl).focus 9 rfl)⟩
          · skip
            go_simp
            have K2 := K1.allocAt (wd.heap.size + 1) [ptrV q] 79 (by simp)
            have k2c0 := K2.cell 5 rfl 0 rfl; have k2c1 := K2.cell 5 rfl 1 rfl; have k2f0 := K2.free 5 rfl 0; have k2f1 := K2.free 5 rfl 1; have k2l := K2.lt 5 rfl
            refine hK.out _ _ ?_ (fun hH4 => ?_)
            · trivial
            clear hK K
            try simp only [Act.put, List.getElem_toArray, List.getElem_cons_zero, List.getElem_cons_succ, List.setIfInBounds_toArray, List.set_cons_zero, List.set_cons_succ]
            refine wpAnyH_ready (rs := [8]) (by kernel_rfl) (by simp) (AllReadyH.cons (o := _) rfl (fun K hK => ?_) AllReadyH.nil)
            refine sep_appendAny etDisks rfl (.tmp 29) (.tmp 31) rfl [ptrV N] (slv_box K2 1 rfl) rfl K2 7 rfl rfl rfl (by intro x hx; simp only [List.mem_cons, List.not_mem_nil, or_false] at hx; subst hx; rfl) (by omega) ?_
            intro a5 c5 w5 K3
            have k3c0 := K3.cell 6 rfl 0 rfl; have k3c1 := K3.cell 6 rfl 1 rfl; have k3f0 := K3.free 6 rfl 0; have k3f1 := K3.free 6 rfl 1; have k3l := K3.lt 6 rfl
            refine hK.out _ _ ?_ (fun hH5 => ?_)
            · trivial
            clear hK K
            try simp only [Act.put, List.getElem_toArray, List.getElem_cons_zero, List.getElem_cons_succ, List.setIfInBounds_toArray, List.set_cons_zero, List.set_cons_succ]
            refine wpAnyH_ready (rs := [15]) (by kernel_rfl) (by simp) (AllReadyH.cons (o := _) rfl (fun K hK => ?_) AllReadyH.nil)
            refine sep_appendAny etShelves rfl (.tmp 36) (.tmp 38) rfl [ptrV q] (slv_box K3 1 rfl) rfl K3 8 rfl rfl rfl (by intro x hx; simp only [List.mem_cons, List.not_mem_nil, or_false] at hx; subst hx; rfl) (by omega) ?_
            intro a6 c6 w6 K4
            have k4c0 := K4.cell 7 rfl 0 rfl; have k4c1 := K4.cell 7 rfl 1 rfl; have k4f0 := K4.free 7 rfl 0; have k4f1 := K4.free 7 rfl 1; have k4l := K4.lt 7 rfl
            refine hK.out _ _ ?_ (fun hH6 => ?_)
            · trivial
            clear hK K
            try simp only [Act.put, List.getElem_toArray, List.getElem_cons_zero, List.getElem_cons_succ, List.setIfInBounds_toArray, List.set_cons_zero, List.set_cons_succ]
            refine takeD (i := 16) (d := 40) (v := .pointer (some ⟨c, 0, none⟩)) rfl rfl (by kernel_rfl) (by kernel_rfl) (by kernel_rfl) (fun _ _ _ h => h) (yldV [(24, .pointer (some ⟨c, 0, none⟩))] (by kernel_rfl) rfl (by kernel_rfl) ?_) hH6 ?_
            · intro w hSw; go_simp
            dsimp only [List.set_cons_zero, List.set_cons_succ]
            refine takeD (i := 17) (d := 41) (v := .pointer (some ⟨c, 0, none⟩)) rfl rfl (by kernel_rfl) (by kernel_rfl) (by kernel_rfl) (fun _ _ _ h => h) (yldV [(40, .pointer (some ⟨c, 0, none⟩))] (by kernel_rfl) rfl (by kernel_rfl) ?_) hH6 ?_
            · intro w hSw; go_simp
            dsimp only [List.set_cons_zero, List.set_cons_succ]
            refine wpAnyH_ready (rs := [18]) (by kernel_rfl) (by simp) (AllReadyH.cons (o := _) rfl (fun K hK => ?_) AllReadyH.nil)
            go_simp
            have K5 := K4.set 7 rfl 0 (.slice a5 (n + 1) c5)
            have k5c0 := K5.cell 0 rfl 0 rfl; have k5c1 := K5.cell 0 rfl 1 rfl; have k5f0 := K5.free 0 rfl 0; have k5f1 := K5.free 0 rfl 1; have k5l := K5.lt 0 rfl
            refine hK.out _ _ ?_ (fun hH7 => ?_)
            · trivial
            clear hK K
            try simp only [Act.put, List.getElem_toArray, List.getElem_cons_zero, List.getElem_cons_succ, List.setIfInBounds_toArray, List.set_cons_zero, List.set_cons_succ]
            refine takeD (i := 19) (d := 42) (v := .pointer (some ⟨c, 0, none⟩)) rfl rfl (by kernel_rfl) (by kernel_rfl) (by kernel_rfl) (fun _ _ _ h => h) (yldV [(25, .pointer (some ⟨c, 0, none⟩))] (by kernel_rfl) rfl (by kernel_rfl) ?_) hH7 ?_
            · intro w hSw; go_simp
            dsimp only [List.set_cons_zero, List.set_cons_succ]
            refine takeD (i := 20) (d := 43) (v := .pointer (some ⟨c, 1, none⟩)) rfl rfl (by kernel_rfl) (by kernel_rfl) (by kernel_rfl) (fun _ _ _ h => h) (yldV [(42, .pointer (some ⟨c, 0, none⟩))] (by kernel_rfl) rfl (by kernel_rfl) ?_) hH7 ?_
            · intro w hSw; go_simp
            dsimp only [List.set_cons_zero, List.set_cons_succ]
            refine wpAnyH_ready (rs := [21]) (by kernel_rfl) (by simp) (AllReadyH.cons (o := _) rfl (fun K hK => ?_) AllReadyH.nil)
            go_simp
            have K6 := K5.set 0 rfl 1 (.slice a6 (n + 1) c6)
            have k6c0 := K6.cell 0 rfl 0 rfl; have k6c1 := K6.cell 0 rfl 1 rfl; have k6f0 := K6.free 0 rfl 0; have k6f1 := K6.free 0 rfl 1; have k6l := K6.lt 0 rfl
            refine hK.out _ _ ?_ (fun hH8 => ?_)
            · trivial
            clear hK K
            refine wpAnyH_done (by kernel_rfl) ?_ _
            go_wp2_with fail
            go_meet
            exact Lib.hid' ⟨a5, c5, a6, c6, ((((((((((((K6.drop 4).drop 3).focus 5 rfl).focus 5 rfl).focus 5 rfl).focus 9 rfl).focus 9 rfl).focus 9 rfl).focus 7 rfl).focus 8 rfl).focus 9 rfl).focus 9 rfl)⟩
        · skip
          go_simp
          have K1 := K0.allocAt (wd.heap.size) [ptrV q] 79 (by simp)
          have k1c0 := K1.cell 4 rfl 0 rfl; have k1c1 := K1.cell 4 rfl 1 rfl; have k1f0 := K1.free 4 rfl 0; have k1f1 := K1.free 4 rfl 1; have k1l := K1.lt 4 rfl
          refine hK.out _ _ ?_ (fun hH3 => ?_)
          · trivial
          clear hK K
          try simp only [Act.put, List.getElem_toArray, List.getElem_cons_zero, List.getElem_cons_succ, List.setIfInBounds_toArray, List.set_cons_zero, List.set_cons_succ]
          refine wpAnyH_ready (rs := [7]) (by kernel_rfl) (by simp) (AllReadyH.cons (o := _) rfl (fun K hK => ?_) AllReadyH.nil)
          go_simp
          have K2 := K1.allocAt (wd.heap.size + 1) [ptrV N] 50 (by simp)
          have k2c0 := K2.cell 5 rfl 0 rfl; have k2c1 := K2.cell 5 rfl 1 rfl; have k2f0 := K2.free 5 rfl 0; have k2f1 := K2.free 5 rfl 1; have k2l := K2.lt 5 rfl
          refine hK.out _ _ ?_ (fun hH4 => ?_)
          · trivial
          clear hK K
          try simp only [Act.put, List.getElem_toArray, List.getElem_cons_zero, List.getElem_cons_succ, List.setIfInBounds_toArray, List.set_cons_zero, List.set_cons_succ]
          refine wpAnyH_ready (rs := [8]) (by kernel_rfl) (by simp) (AllReadyH.cons (o := _) rfl (fun K hK => ?_) AllReadyH.nil)
          refine sep_appendAny etDisks rfl (.tmp 29) (.tmp 31) rfl [ptrV N] (slv_box K2 0 rfl) rfl K2 7 rfl rfl rfl (by intro x hx; simp only [List.mem_cons, List.not_mem_nil, or_false] at hx; subst hx; rfl) (by omega) ?_
          intro a5 c5 w5 K3
          have k3c0 := K3.cell 6 rfl 0 rfl; have k3c1 := K3.cell 6 rfl 1 rfl; have k3f0 := K3.free 6 rfl 0; have k3f1 := K3.free 6 rfl 1; have k3l := K3.lt 6 rfl
          refine hK.out _ _ ?_ (fun hH5 => ?_)
          · trivial
          clear hK K
          try simp only [Act.put, List.getElem_toArray, List.getElem_cons_zero, List.getElem_cons_succ, List.setIfInBounds_toArray, List.set_cons_zero, List.set_cons_succ]
          refine wpAnyH_ready (rs := [15]) (by kernel_rfl) (by simp) (AllReadyH.cons (o := _) rfl (fun K hK => ?_) AllReadyH.nil)
          refine sep_appendAny etShelves rfl (.tmp 36) (.tmp 38) rfl [ptrV q] (slv_box K3 2 rfl) rfl K3 8 rfl rfl rfl (by intro x hx; simp only [List.mem_cons, List.not_mem_nil, or_false] at hx; subst hx; rfl) (by omega) ?_
          intro a6 c6 w6 K4
          have k4c0 := K4.cell 7 rfl 0 rfl; have k4c1 := K4.cell 7 rfl 1 rfl; have k4f0 := K4.free 7 rfl 0; have k4f1 := K4.free 7 rfl 1; have k4l := K4.lt 7 rfl
          refine hK.out _ _ ?_ (fun hH6 => ?_)
          · trivial
          clear hK K
          try simp only [Act.put, List.getElem_toArray, List.getElem_cons_zero, List.getElem_cons_succ, List.setIfInBounds_toArray, List.set_cons_zero, List.set_cons_succ]
          refine takeD (i := 16) (d := 40) (v := .pointer (some ⟨c, 0, none⟩)) rfl rfl (by kernel_rfl) (by kernel_rfl) (by kernel_rfl) (fun _ _ _ h => h) (yldV [(24, .pointer (some ⟨c, 0, none⟩))] (by kernel_rfl) rfl (by kernel_rfl) ?_) hH6 ?_
          · intro w hSw; go_simp
          dsimp only [List.set_cons_zero, List.set_cons_succ]
          refine takeD (i := 17) (d := 41) (v := .pointer (some ⟨c, 0, none⟩)) rfl rfl (by kernel_rfl) (by kernel_rfl) (by kernel_rfl) (fun _ _ _ h => h) (yldV [(40, .pointer (some ⟨c, 0, none⟩))] (by kernel_rfl) rfl (by kernel_rfl) ?_) hH6 ?_
          · intro w hSw; go_simp
          dsimp only [List.set_cons_zero, List.set_cons_succ]
          refine wpAnyH_ready (rs := [18]) (by kernel_rfl) (by simp) (AllReadyH.cons (o := _) rfl (fun K hK => ?_) AllReadyH.nil)
          go_simp
          have K5 := K4.set 7 rfl 0 (.slice a5 (n + 1) c5)
          have k5c0 := K5.cell 0 rfl 0 rfl; have k5c1 := K5.cell 0 rfl 1 rfl; have k5f0 := K5.free 0 rfl 0; have k5f1 := K5.free 0 rfl 1; have k5l := K5.lt 0 rfl
          refine hK.out _ _ ?_ (fun hH7 => ?_)
          · trivial
          clear hK K
          try simp only [Act.put, List.getElem_toArray, List.getElem_cons_zero, List.getElem_cons_succ, List.setIfInBounds_toArray, List.set_cons_zero, List.set_cons_succ]
          refine takeD (i := 19) (d := 42) (v := .pointer (some ⟨c, 0, none⟩)) rfl rfl (by kernel_rfl) (by kernel_rfl) (by kernel_rfl) (fun _ _ _ h => h) (yldV [(25, .pointer (some ⟨c, 0, none⟩))] (by kernel_rfl) rfl (by kernel_rfl) ?_) hH7 ?_
          · intro w hSw; go_simp
          dsimp only [List.set_cons_zero, List.set_cons_succ]
          refine takeD (i := 20) (d := 43) (v := .pointer (some ⟨c, 1, none⟩)) rfl rfl (by kernel_rfl) (by kernel_rfl) (by kernel_rfl) (fun _ _ _ h => h) (yldV [(42, .pointer (some ⟨c, 0, none⟩))] (by kernel_rfl) rfl (by kernel_rfl) ?_) hH7 ?_
          · intro w hSw; go_simp
          dsimp only [List.set_cons_zero, List.set_cons_succ]
          refine wpAnyH_ready (rs := [21]) (by kernel_rfl) (by simp) (AllReadyH.cons (o := _) rfl (fun K hK => ?_) AllReadyH.nil)
          go_simp
          have K6 := K5.set 0 rfl 1 (.slice a6 (n + 1) c6)
          have k6c0 := K6.cell 0 rfl 0 rfl; have k6c1 := K6.cell 0 rfl 1 rfl; have k6f0 := K6.free 0 rfl 0; have k6f1 := K6.free 0 rfl 1; have k6l := K6.lt 0 rfl
          refine hK.out _ _ ?_ (fun hH8 => ?_)
          · trivial
          clear hK K
          refine wpAnyH_done (by kernel_rfl) ?_ _
          go_wp2_with fail
          go_meet
          exact Lib.hid' ⟨a5, c5, a6, c6, ((((((((((((K6.drop 3).drop 3).focus 5 rfl).focus 5 rfl).focus 5 rfl).focus 9 rfl).focus 9 rfl).focus 9 rfl).focus 7 rfl).focus 8 rfl).focus 9 rfl).focus 9 rfl)⟩
      · skip
        go_simp
        have K1 := K0.allocAt (wd.heap.size) [ptrV q] 79 (by simp)
        have k1c0 := K1.cell 4 rfl 0 rfl; have k1c1 := K1.cell 4 rfl 1 rfl; have k1f0 := K1.free 4 rfl 0; have k1f1 := K1.free 4 rfl 1; have k1l := K1.lt 4 rfl
        refine hK.out _ _ ?_ (fun hH2 => ?_)
        · trivial
        clear hK K
        try simp only [Act.put, List.getElem_toArray, List.getElem_cons_zero, List.getElem_cons_succ, List.setIfInBounds_toArray, List.set_cons_zero, List.set_cons_succ]
        refine wpAnyH_ready (rs := [7, 12]) (by kernel_rfl) (by simp) (AllReadyH.cons (o := _) rfl (fun K hK => ?_) (AllReadyH.cons (o := _) rfl (fun K hK => ?_) AllReadyH.nil))
        · skip
          go_simp
          have K2 := K1.allocAt (wd.heap.size + 1) [ptrV N] 50 (by simp)
          have k2c0 := K2.cell 5 rfl 0 rfl; have k2c1 := K2.cell 5 rfl 1 rfl; have k2f0 := K2.free 5 rfl 0; have k2f1 := K2.free 5 rfl 1; have k2l := K2.lt 5 rfl
          refine hK.out _ _ ?_ (fun hH3 => ?_)
          · trivial
          clear hK K
          try simp only [Act.put, List.getElem_toArray, List.getElem_cons_zero, List.getElem_cons_succ, List.setIfInBounds_toArray, List.set_cons_zero, List.set_cons_succ]
          refine wpAnyH_ready (rs := [8, 12]) (by kernel_rfl) (by simp) (AllReadyH.cons (o := _) rfl (fun K hK => ?_) (AllReadyH.cons (o := _) rfl (fun K hK => ?_) AllReadyH.nil))
          · skip
            refine sep_appendAny etDisks rfl (.tmp 29) (.tmp 31) rfl [ptrV N] (slv_box K2 0 rfl) rfl K2 7 rfl rfl rfl (by intro x hx; simp only [List.mem_cons, List.not_mem_nil, or_false] at hx; subst hx; rfl) (by omega) ?_
            intro a5 c5 w5 K3
            have k3c0 := K3.cell 6 rfl 0 rfl; have k3c1 := K3.cell 6 rfl 1 rfl; have k3f0 := K3.free 6 rfl 0; have k3f1 := K3.free 6 rfl 1; have k3l := K3.lt 6 rfl
            refine hK.out _ _ ?_ (fun hH4 => ?_)
            · trivial
            clear hK K
            try simp only [Act.put, List.getElem_toArray, List.getElem_cons_zero, List.getElem_cons_succ, List.setIfInBounds_toArray, List.set_cons_zero, List.set_cons_succ]
            refine wpAnyH_ready (rs := [12]) (by kernel_rfl) (by simp) (AllReadyH.cons (o := _) rfl (fun K hK => ?_) AllReadyH.nil)
            go_simp
            refine hK.out _ _ ?_ (fun hH5 => ?_)
            · trivial
            clear hK K
            try simp only [Act.put, List.getElem_toArray, List.getElem_cons_zero, List.getElem_cons_succ, List.setIfInBounds_toArray, List.set_cons_zero, List.set_cons_succ]
            refine wpAnyH_ready (rs := [15]) (by kernel_rfl) (by simp) (AllReadyH.cons (o := _) rfl (fun K hK => ?_) AllReadyH.nil)
            refine sep_appendAny etShelves rfl (.tmp 36) (.tmp 38) rfl [ptrV q] (slv_box K3 2 rfl) rfl K3 8 rfl rfl rfl (by intro x hx; simp only [List.mem_cons, List.not_mem_nil, or_false] at hx; subst hx; rfl) (by omega) ?_
            intro a6 c6 w6 K4
            have k4c0 := K4.cell 7 rfl 0 rfl; have k4c1 := K4.cell 7 rfl 1 rfl; have k4f0 := K4.free 7 rfl 0; have k4f1 := K4.free 7 rfl 1; have k4l := K4.lt 7 rfl
            refine hK.out _ _ ?_ (fun hH6 => ?_)
            · trivial
            clear hK K
            try simp only [Act.put, List.getElem_toArray, List.getElem_cons_zero, List.getElem_cons_succ, List.setIfInBounds_toArray, List.set_cons_zero, List.set_cons_succ]
            refine takeD (i := 16) (d := 40) (v := .pointer (some ⟨c, 0, none⟩)) rfl rfl (by kernel_rfl) (by kernel_rfl) (by kernel_rfl) (fun _ _ _ h => h) (yldV [(24, .pointer (some ⟨c, 0, none⟩))] (by kernel_rfl) rfl (by kernel_rfl) ?_) hH6 ?_
            · intro w hSw; go_simp
            dsimp only [List.set_cons_zero, List.set_cons_succ]
            refine takeD (i := 17) (d := 41) (v := .pointer (some ⟨c, 0, none⟩)) rfl rfl (by kernel_rfl) (by kernel_rfl) (by kernel_rfl) (fun _ _ _ h => h) (yldV [(40, .pointer (some ⟨c, 0, none⟩))] (by kernel_rfl) rfl (by kernel_rfl) ?_) hH6 ?_
            · intro w hSw; go_simp
            dsimp only [List.set_cons_zero, List.set_cons_succ]
            refine wpAnyH_ready (rs := [18]) (by kernel_rfl) (by simp) (AllReadyH.cons (o := _) rfl (fun K hK => ?_) AllReadyH.nil)
            go_simp
            have K5 := K4.set 7 rfl 0 (.slice a5 (n + 1) c5)
            have k5c0 := K5.cell 0 rfl 0 rfl; have k5c1 := K5.cell 0 rfl 1 rfl; have k5f0 := K5.free 0 rfl 0; have k5f1 := K5.free 0 rfl 1; have k5l := K5.lt 0 rfl
            refine hK.out _ _ ?_ (fun hH7 => ?_)
            · trivial
            clear hK K
            try simp only [Act.put, List.getElem_toArray, List.getElem_cons_zero, List.getElem_cons_succ, List.setIfInBounds_toArray, List.set_cons_zero, List.set_cons_succ]
            refine takeD (i := 19) (d := 42) (v := .pointer (some ⟨c, 0, none⟩)) rfl rfl (by kernel_rfl) (by kernel_rfl) (by kernel_rfl) (fun _ _ _ h => h) (yldV [(25, .pointer (some ⟨c, 0, none⟩))] (by kernel_rfl) rfl (by kernel_rfl) ?_) hH7 ?_
            · intro w hSw; go_simp
            dsimp only [List.set_cons_zero, List.set_cons_succ]
            refine takeD (i := 20) (d := 43) (v := .pointer (some ⟨c, 1, none⟩)) rfl rfl (by kernel_rfl) (by kernel_rfl) (by kernel_rfl) (fun _ _ _ h => h) (yldV [(42, .pointer (some ⟨c, 0, none⟩))] (by kernel_rfl) rfl (by kernel_rfl) ?_) hH7 ?_
            · intro w hSw; go_simp
            dsimp only [List.set_cons_zero, List.set_cons_succ]
            refine wpAnyH_ready (rs := [21]) (by kernel_rfl) (by simp) (AllReadyH.cons (o := _) rfl (fun K hK => ?_) AllReadyH.nil)
            go_simp
            have K6 := K5.set 0 rfl 1 (.slice a6 (n + 1) c6)
            have k6c0 := K6.cell 0 rfl 0 rfl; have k6c1 := K6.cell 0 rfl 1 rfl; have k6f0 := K6.free 0 rfl 0; have k6f1 := K6.free 0 rfl 1; have k6l := K6.lt 0 rfl
            refine hK.out _ _ ?_ (fun hH8 => ?_)
            · trivial
            clear hK K
            refine wpAnyH_done (by kernel_rfl) ?_ _
            go_wp2_with fail
            go_meet
            exact Lib.hid' ⟨a5, c5, a6, c6, ((((((((((((K6.drop 3).drop 3).focus 5 rfl).focus 5 rfl).focus 5 rfl).focus 9 rfl).focus 9 rfl).focus 9 rfl).focus 7 rfl).focus 8 rfl).focus 9 rfl).focus 9 rfl)⟩
          · skip
            go_simp
            refine hK.out _ _ ?_ (fun hH4 => ?_)
            · trivial
            clear hK K
            try simp only [Act.put, List.getElem_toArray, List.getElem_cons_zero, List.getElem_cons_succ, List.setIfInBounds_toArray, List.set_cons_zero, List.set_cons_succ]
            refine wpAnyH_ready (rs := [8]) (by kernel_rfl) (by simp) (AllReadyH.cons (o := _) rfl (fun K hK => ?_) AllReadyH.nil)
            refine sep_appendAny etDisks rfl (.tmp 29) (.tmp 31) rfl [ptrV N] (slv_box K2 0 rfl) rfl K2 7 rfl rfl rfl (by intro x hx; simp only [List.mem_cons, List.not_mem_nil, or_false] at hx; subst hx; rfl) (by omega) ?_
            intro a5 c5 w5 K3
            have k3c0 := K3.cell 6 rfl 0 rfl; have k3c1 := K3.cell 6 rfl 1 rfl; have k3f0 := K3.free 6 rfl 0; have k3f1 := K3.free 6 rfl 1; have k3l := K3.lt 6 rfl
            refine hK.out _ _ ?_ (fun hH5 => ?_)
            · trivial
            clear hK K
            try simp only [Act.put, List.getElem_toArray, List.getElem_cons_zero, List.getElem_cons_succ, List.setIfInBounds_toArray, List.set_cons_zero, List.set_cons_succ]
            refine wpAnyH_ready (rs := [15]) (by kernel_rfl) (by simp) (AllReadyH.cons (o := _) rfl (fun K hK => ?_) AllReadyH.nil)
            refine sep_appendAny etShelves rfl (.tmp 36) (.tmp 38) rfl [ptrV q] (slv_box K3 2 rfl) rfl K3 8 rfl rfl rfl (by intro x hx; simp only [List.mem_cons, List.not_mem_nil, or_false] at hx; subst hx; rfl) (by omega) ?_
            intro a6 c6 w6 K4
            have k4c0 := K4.cell 7 rfl 0 rfl; have k4c1 := K4.cell 7 rfl 1 rfl; have k4f0 := K4.free 7 rfl 0; have k4f1 := K4.free 7 rfl 1; have k4l := K4.lt 7 rfl
            refine hK.out _ _ ?_ (fun hH6 => ?_)
            · trivial
            clear hK K
            try simp only [Act.put, List.getElem_toArray, List.getElem_cons_zero, List.getElem_cons_succ, List.setIfInBounds_toArray, List.set_cons_zero, List.set_cons_succ]
            refine takeD (i := 16) (d := 40) (v := .pointer (some ⟨c, 0, none⟩)) rfl rfl (by kernel_rfl) (by kernel_rfl) (by kernel_rfl) (fun _ _ _ h => h) (yldV [(24, .pointer (some ⟨c, 0, none⟩))] (by kernel_rfl) rfl (by kernel_rfl) ?_) hH6 ?_
            · intro w hSw; go_simp
            dsimp only [List.set_cons_zero, List.set_cons_succ]
            refine takeD (i := 17) (d := 41) (v := .pointer (some ⟨c, 0, none⟩)) rfl rfl (by kernel_rfl) (by kernel_rfl) (by kernel_rfl) (fun _ _ _ h => h) (yldV [(40, .pointer (some ⟨c, 0, none⟩))] (by kernel_rfl) rfl (by kernel_rfl) ?_) hH6 ?_
            · intro w hSw; go_simp
            dsimp only [List.set_cons_zero, List.set_cons_succ]
            refine wpAnyH_ready (rs := [18]) (by kernel_rfl) (by simp) (AllReadyH.cons (o := _) rfl (fun K hK => ?_) AllReadyH.nil)
            go_simp
            have K5 := K4.set 7 rfl 0 (.slice a5 (n + 1) c5)
            have k5c0 := K5.cell 0 rfl 0 rfl; have k5c1 := K5.cell 0 rfl 1 rfl; have k5f0 := K5.free 0 rfl 0; have k5f1 := K5.free 0 rfl 1; have k5l := K5.lt 0 rfl
            refine hK.out _ _ ?_ (fun hH7 => ?_)
            · trivial
            clear hK K
            try simp only [Act.put, List.getElem_toArray, List.getElem_cons_zero, List.getElem_cons_succ, List.setIfInBounds_toArray, List.set_cons_zero, List.set_cons_succ]
            refine takeD (i := 19) (d := 42) (v := .pointer (some ⟨c, 0, none⟩)) rfl rfl (by kernel_rfl) (by kernel_rfl) (by kernel_rfl) (fun _ _ _ h => h) (yldV [(25, .pointer (some ⟨c, 0, none⟩))] (by kernel_rfl) rfl (by kernel_rfl) ?_) hH7 ?_
            · intro w hSw; go_simp
            dsimp only [List.set_cons_zero, List.set_cons_succ]
            refine takeD (i := 20) (d := 43) (v := .pointer (some ⟨c, 1, none⟩)) rfl rfl (by kernel_rfl) (by kernel_rfl) (by kernel_rfl) (fun _ _ _ h => h) (yldV [(42, .pointer (some ⟨c, 0, none⟩))] (by kernel_rfl) rfl (by kernel_rfl) ?_) hH7 ?_
            · intro w hSw; go_simp
            dsimp only [List.set_cons_zero, List.set_cons_succ]
            refine wpAnyH_ready (rs := [21]) (by kernel_rfl) (by simp) (AllReadyH.cons (o := _) rfl (fun K hK => ?_) AllReadyH.nil)
            go_simp
            have K6 := K5.set 0 rfl 1 (.slice a6 (n + 1) c6)
            have k6c0 := K6.cell 0 rfl 0 rfl; have k6c1 := K6.cell 0 rfl 1 rfl; have k6f0 := K6.free 0 rfl 0; have k6f1 := K6.free 0 rfl 1; have k6l := K6.lt 0 rfl
            refine hK.out _ _ ?_ (fun hH8 => ?_)
            · trivial
            clear hK K
            refine wpAnyH_done (by kernel_rfl) ?_ _
            go_wp2_with fail
            go_meet
            exact Lib.hid' ⟨a5, c5, a6, c6, ((((((((((((K6.drop 3).drop 3).focus 5 rfl).focus 5 rfl).focus 5 rfl).focus 9 rfl).focus 9 rfl).focus 9 rfl).focus 7 rfl).focus 8 rfl).focus 9 rfl).focus 9 rfl)⟩
        · skip
          go_simp
          refine hK.out _ _ ?_ (fun hH3 => ?_)
          · trivial
          clear hK K
          try simp only [Act.put, List.getElem_toArray, List.getElem_cons_zero, List.getElem_cons_succ, List.setIfInBounds_toArray, List.set_cons_zero, List.set_cons_succ]
          refine wpAnyH_ready (rs := [7]) (by kernel_rfl) (by simp) (AllReadyH.cons (o := _) rfl (fun K hK => ?_) AllReadyH.nil)
          go_simp
          have K2 := K1.allocAt (wd.heap.size + 1) [ptrV N] 50 (by simp)
          have k2c0 := K2.cell 5 rfl 0 rfl; have k2c1 := K2.cell 5 rfl 1 rfl; have k2f0 := K2.free 5 rfl 0; have k2f1 := K2.free 5 rfl 1; have k2l := K2.lt 5 rfl
          refine hK.out _ _ ?_ (fun hH4 => ?_)
          · trivial
          clear hK K
          try simp only [Act.put, List.getElem_toArray, List.getElem_cons_zero, List.getElem_cons_succ, List.setIfInBounds_toArray, List.set_cons_zero, List.set_cons_succ]
          refine wpAnyH_ready (rs := [8]) (by kernel_rfl) (by simp) (AllReadyH.cons (o := _) rfl (fun K hK => ?_) AllReadyH.nil)
          refine sep_appendAny etDisks rfl (.tmp 29) (.tmp 31) rfl [ptrV N] (slv_box K2 0 rfl) rfl K2 7 rfl rfl rfl (by intro x hx; simp only [List.mem_cons, List.not_mem_nil, or_false] at hx; subst hx; rfl) (by omega) ?_
          intro a5 c5 w5 K3
          have k3c0 := K3.cell 6 rfl 0 rfl; have k3c1 := K3.cell 6 rfl 1 rfl; have k3f0 := K3.free 6 rfl 0; have k3f1 := K3.free 6 rfl 1; have k3l := K3.lt 6 rfl
          refine hK.out _ _ ?_ (fun hH5 => ?_)
          · trivial
          clear hK K
          try simp only [Act.put, List.getElem_toArray, List.getElem_cons_zero, List.getElem_cons_succ, List.setIfInBounds_toArray, List.set_cons_zero, List.set_cons_succ]
          refine wpAnyH_ready (rs := [15]) (by kernel_rfl) (by simp) (AllReadyH.cons (o := _) rfl (fun K hK => ?_) AllReadyH.nil)
          refine sep_appendAny etShelves rfl (.tmp 36) (.tmp 38) rfl [ptrV q] (slv_box K3 2 rfl) rfl K3 8 rfl rfl rfl (by intro x hx; simp only [List.mem_cons, List.not_mem_nil, or_false] at hx; subst hx; rfl) (by omega) ?_
          intro a6 c6 w6 K4
          have k4c0 := K4.cell 7 rfl 0 rfl; have k4c1 := K4.cell 7 rfl 1 rfl; have k4f0 := K4.free 7 rfl 0; have k4f1 := K4.free 7 rfl 1; have k4l := K4.lt 7 rfl
          refine hK.out _ _ ?_ (fun hH6 => ?_)
          · trivial
          clear hK K
          try simp only [Act.put, List.getElem_toArray, List.getElem_cons_zero, List.getElem_cons_succ, List.setIfInBounds_toArray, List.set_cons_zero, List.set_cons_succ]
          refine takeD (i := 16) (d := 40) (v := .pointer (some ⟨c, 0, none⟩)) rfl rfl (by kernel_rfl) (by kernel_rfl) (by kernel_rfl) (fun _ _ _ h => h) (yldV [(24, .pointer (some ⟨c, 0, none⟩))] (by kernel_rfl) rfl (by kernel_rfl) ?_) hH6 ?_
          · intro w hSw; go_simp
          dsimp only [List.set_cons_zero, List.set_cons_succ]
          refine takeD (i := 17) (d := 41) (v := .pointer (some ⟨c, 0, none⟩)) rfl rfl (by kernel_rfl) (by kernel_rfl) (by kernel_rfl) (fun _ _ _ h => h) (yldV [(40, .pointer (some ⟨c, 0, none⟩))] (by kernel_rfl) rfl (by kernel_rfl) ?_) hH6 ?_
          · intro w hSw; go_simp
          dsimp only [List.set_cons_zero, List.set_cons_succ]
          refine wpAnyH_ready (rs := [18]) (by kernel_rfl) (by simp) (AllReadyH.cons (o := _) rfl (fun K hK => ?_) AllReadyH.nil)
          go_simp
          have K5 := K4.set 7 rfl 0 (.slice a5 (n + 1) c5)
          have k5c0 := K5.cell 0 rfl 0 rfl; have k5c1 := K5.cell 0 rfl 1 rfl; have k5f0 := K5.free 0 rfl 0; have k5f1 := K5.free 0 rfl 1; have k5l := K5.lt 0 rfl
          refine hK.out _ _ ?_ (fun hH7 => ?_)
          · trivial
          clear hK K
          try simp only [Act.put, List.getElem_toArray, List.getElem_cons_zero, List.getElem_cons_succ, List.setIfInBounds_toArray, List.set_cons_zero, List.set_cons_succ]
          refine takeD (i := 19) (d := 42) (v := .pointer (some ⟨c, 0, none⟩)) rfl rfl (by kernel_rfl) (by kernel_rfl) (by kernel_rfl) (fun _ _ _ h => h) (yldV [(25, .pointer (some ⟨c, 0, none⟩))] (by kernel_rfl) rfl (by kernel_rfl) ?_) hH7 ?_
          · intro w hSw; go_simp
          dsimp only [List.set_cons_zero, List.set_cons_succ]
          refine takeD (i := 20) (d := 43) (v := .pointer (some ⟨c, 1, none⟩)) rfl rfl (by kernel_rfl) (by kernel_rfl) (by kernel_rfl) (fun _ _ _ h => h) (yldV [(42, .pointer (some ⟨c, 0, none⟩))] (by kernel_rfl) rfl (by kernel_rfl) ?_) hH7 ?_
          · intro w hSw; go_simp
          dsimp only [List.set_cons_zero, List.set_cons_succ]
          refine wpAnyH_ready (rs := [21]) (by kernel_rfl) (by simp) (AllReadyH.cons (o := _) rfl (fun K hK => ?_) AllReadyH.nil)
          go_simp
          have K6 := K5.set 0 rfl 1 (.slice a6 (n + 1) c6)
          have k6c0 := K6.cell 0 rfl 0 rfl; have k6c1 := K6.cell 0 rfl 1 rfl; have k6f0 := K6.free 0 rfl 0; have k6f1 := K6.free 0 rfl 1; have k6l := K6.lt 0 rfl
          refine hK.out _ _ ?_ (fun hH8 => ?_)
          · trivial
          clear hK K
          refine wpAnyH_done (by kernel_rfl) ?_ _
          go_wp2_with fail
          go_meet
          exact Lib.hid' ⟨a5, c5, a6, c6, ((((((((((((K6.drop 3).drop 3).focus 5 rfl).focus 5 rfl).focus 5 rfl).focus 9 rfl).focus 9 rfl).focus 9 rfl).focus 7 rfl).focus 8 rfl).focus 9 rfl).focus 9 rfl)⟩
    · skip
      go_simp
      have K1 := K0.allocAt (wd.heap.size) [ptrV N] 50 (by simp)
      have k1c0 := K1.cell 4 rfl 0 rfl; have k1c1 := K1.cell 4 rfl 1 rfl; have k1f0 := K1.free 4 rfl 0; have k1f1 := K1.free 4 rfl 1; have k1l := K1.lt 4 rfl
      refine hK.out _ _ ?_ (fun hH1 => ?_)
      · trivial
      clear hK K
      try simp only [Act.put, List.getElem_toArray, List.getElem_cons_zero, List.getElem_cons_succ, List.setIfInBounds_toArray, List.set_cons_zero, List.set_cons_succ]
      refine wpAnyH_ready (rs := [5, 12, 14]) (by kernel_rfl) (by simp) (AllReadyH.cons (o := _) rfl (fun K hK => ?_) (AllReadyH.cons (o := _) rfl (fun K hK => ?_) (AllReadyH.cons (o := _) rfl (fun K hK => ?_) AllReadyH.nil)))
      · skip
        go_simp
        refine hK.out _ _ ?_ (fun hH2 => ?_)
        · trivial
        clear hK K
        try simp only [Act.put, List.getElem_toArray, List.getElem_cons_zero, List.getElem_cons_succ, List.setIfInBounds_toArray, List.set_cons_zero, List.set_cons_succ]
        refine wpAnyH_ready (rs := [8, 12, 14]) (by kernel_rfl) (by simp) (AllReadyH.cons (o := _) rfl (fun K hK => ?_) (AllReadyH.cons (o := _) rfl (fun K hK => ?_) (AllReadyH.cons (o := _) rfl (fun K hK => ?_) AllReadyH.nil)))
        · skip
          refine sep_appendAny etDisks rfl (.tmp 29) (.tmp 31) rfl [ptrV N] (slv_box K1 0 rfl) rfl K1 6 rfl rfl rfl (by intro x hx; simp only [List.mem_cons, List.not_mem_nil, or_false] at hx; subst hx; rfl) (by omega) ?_
          intro a5 c5 w5 K2
          have k2c0 := K2.cell 5 rfl 0 rfl; have k2c1 := K2.cell 5 rfl 1 rfl; have k2f0 := K2.free 5 rfl 0; have k2f1 := K2.free 5 rfl 1; have k2l := K2.lt 5 rfl
          refine hK.out _ _ ?_ (fun hH3 => ?_)
          · trivial
          clear hK K
          try simp only [Act.put, List.getElem_toArray, List.getElem_cons_zero, List.getElem_cons_succ, List.setIfInBounds_toArray, List.set_cons_zero, List.set_cons_succ]
          refine wpAnyH_ready (rs := [12, 14]) (by kernel_rfl) (by simp) (AllReadyH.cons (o := _) rfl (fun K hK => ?_) (AllReadyH.cons (o := _) rfl (fun K hK => ?_) AllReadyH.nil))
          · skip
            go_simp
            refine hK.out _ _ ?_ (fun hH4 => ?_)
            · trivial
            clear hK K
            try simp only [Act.put, List.getElem_toArray, List.getElem_cons_zero, List.getElem_cons_succ, List.setIfInBounds_toArray, List.set_cons_zero, List.set_cons_succ]
            refine wpAnyH_ready (rs := [14]) (by kernel_rfl) (by simp) (AllReadyH.cons (o := _) rfl (fun K hK => ?_) AllReadyH.nil)
            go_simp
            have K3 := K2.allocAt (w5.heap.size) [ptrV q] 79 (by simp)
            have k3c0 := K3.cell 6 rfl 0 rfl; have k3c1 := K3.cell 6 rfl 1 rfl; have k3f0 := K3.free 6 rfl 0; have k3f1 := K3.free 6 rfl 1; have k3l := K3.lt 6 rfl
            refine hK.out _ _ ?_ (fun hH5 => ?_)
            · trivial
            clear hK K
            try simp only [Act.put, List.getElem_toArray, List.getElem_cons_zero, List.getElem_cons_succ, List.setIfInBounds_toArray, List.set_cons_zero, List.set_cons_succ]
            refine wpAnyH_ready (rs := [15]) (by kernel_rfl) (by simp) (AllReadyH.cons (o := _) rfl (fun K hK => ?_) AllReadyH.nil)
            refine sep_appendAny etShelves rfl (.tmp 36) (.tmp 38) rfl [ptrV q] (slv_box K3 0 rfl) rfl K3 8 rfl rfl rfl (by intro x hx; simp only [List.mem_cons, List.not_mem_nil, or_false] at hx; subst hx; rfl) (by omega) ?_
            intro a6 c6 w6 K4
            have k4c0 := K4.cell 7 rfl 0 rfl; have k4c1 := K4.cell 7 rfl 1 rfl; have k4f0 := K4.free 7 rfl 0; have k4f1 := K4.free 7 rfl 1; have k4l := K4.lt 7 rfl
            refine hK.out _ _ ?_ (fun hH6 => ?_)
            · trivial
            clear hK K
            try simp only [Act.put, List.getElem_toArray, List.getElem_cons_zero, List.getElem_cons_succ, List.setIfInBounds_toArray, List.set_cons_zero, List.set_cons_succ]
            refine takeD (i := 16) (d := 40) (v := .pointer (some ⟨c, 0, none⟩)) rfl rfl (by kernel_rfl) (by kernel_rfl) (by kernel_rfl) (fun _ _ _ h => h) (yldV [(24, .pointer (some ⟨c, 0, none⟩))] (by kernel_rfl) rfl (by kernel_rfl) ?_) hH6 ?_
            · intro w hSw; go_simp
            dsimp only [List.set_cons_zero, List.set_cons_succ]
            refine takeD (i := 17) (d := 41) (v := .pointer (some ⟨c, 0, none⟩)) rfl rfl (by kernel_rfl) (by kernel_rfl) (by kernel_rfl) (fun _ _ _ h => h) (yldV [(40, .pointer (some ⟨c, 0, none⟩))] (by kernel_rfl) rfl (by kernel_rfl) ?_) hH6 ?_
            · intro w hSw; go_simp
            dsimp only [List.set_cons_zero, List.set_cons_succ]
            refine wpAnyH_ready (rs := [18]) (by kernel_rfl) (by simp) (AllReadyH.cons (o := _) rfl (fun K hK => ?_) AllReadyH.nil)
            go_simp
            have K5 := K4.set 7 rfl 0 (.slice a5 (n + 1) c5)
            have k5c0 := K5.cell 0 rfl 0 rfl; have k5c1 := K5.cell 0 rfl 1 rfl; have k5f0 := K5.free 0 rfl 0; have k5f1 := K5.free 0 rfl 1; have k5l := K5.lt 0 rfl
            refine hK.out _ _ ?_ (fun hH7 => ?_)
            · trivial
            clear hK K
            try simp only [Act.put, List.getElem_toArray, List.getElem_cons_zero, List.getElem_cons_succ, List.setIfInBounds_toArray, List.set_cons_zero, List.set_cons_succ]
            refine takeD (i := 19) (d := 42) (v := .pointer (some ⟨c, 0, none⟩)) rfl rfl (by kernel_rfl) (by kernel_rfl) (by kernel_rfl) (fun _ _ _ h => h) (yldV [(25, .pointer (some ⟨c, 0, none⟩))] (by kernel_rfl) rfl (by kernel_rfl) ?_) hH7 ?_
            · intro w hSw; go_simp
            dsimp only [List.set_cons_zero, List.set_cons_succ]
            refine takeD (i := 20) (d := 43) (v := .pointer (some ⟨c, 1, none⟩)) rfl rfl (by kernel_rfl) (by kernel_rfl) (by kernel_rfl) (fun _ _ _ h => h) (yldV [(42, .pointer (some ⟨c, 0, none⟩))] (by kernel_rfl) rfl (by kernel_rfl) ?_) hH7 ?_
            · intro w hSw; go_simp
            dsimp only [List.set_cons_zero, List.set_cons_succ]
            refine wpAnyH_ready (rs := [21]) (by kernel_rfl) (by simp) (AllReadyH.cons (o := _) rfl (fun K hK => ?_) AllReadyH.nil)
            go_simp
            have K6 := K5.set 0 rfl 1 (.slice a6 (n + 1) c6)
            have k6c0 := K6.cell 0 rfl 0 rfl; have k6c1 := K6.cell 0 rfl 1 rfl; have k6f0 := K6.free 0 rfl 0; have k6f1 := K6.free 0 rfl 1; have k6l := K6.lt 0 rfl
            refine hK.out _ _ ?_ (fun hH8 => ?_)
            · trivial
            clear hK K
            refine wpAnyH_done (by kernel_rfl) ?_ _
            go_wp2_with fail
            go_meet
            exact Lib.hid' ⟨a5, c5, a6, c6, ((((((((((((K6.drop 4).drop 2).focus 5 rfl).focus 5 rfl).focus 5 rfl).focus 9 rfl).focus 9 rfl).focus 9 rfl).focus 7 rfl).focus 8 rfl).focus 9 rfl).focus 9 rfl)⟩
          · skip
            go_simp
            have K3 := K2.allocAt (w5.heap.size) [ptrV q] 79 (by simp)
            have k3c0 := K3.cell 6 rfl 0 rfl; have k3c1 := K3.cell 6 rfl 1 rfl; have k3f0 := K3.free 6 rfl 0; have k3f1 := K3.free 6 rfl 1; have k3l := K3.lt 6 rfl
            refine hK.out _ _ ?_ (fun hH4 => ?_)
            · trivial
            clear hK K
            try simp only [Act.put, List.getElem_toArray, List.getElem_cons_zero, List.getElem_cons_succ, List.setIfInBounds_toArray, List.set_cons_zero, List.set_cons_succ]
            refine wpAnyH_ready (rs := [12]) (by kernel_rfl) (by simp) (AllReadyH.cons (o := _) rfl (fun K hK => ?_) AllReadyH.nil)
            go_simp
            refine hK.out _ _ ?_ (fun hH5 => ?_)
            · trivial
            clear hK K
            try simp only [Act.put, List.getElem_toArray, List.getElem_cons_zero, List.getElem_cons_succ, List.setIfInBounds_toArray, List.set_cons_zero, List.set_cons_succ]
            refine wpAnyH_ready (rs := [15]) (by kernel_rfl) (by simp) (AllReadyH.cons (o := _) rfl (fun K hK => ?_) AllReadyH.nil)
            refine sep_appendAny etShelves rfl (.tmp 36) (.tmp 38) rfl [ptrV q] (slv_box K3 0 rfl) rfl K3 8 rfl rfl rfl (by intro x hx; simp only [List.mem_cons, List.not_mem_nil, or_false] at hx; subst hx; rfl) (by omega) ?_
            intro a6 c6 w6 K4
            have k4c0 := K4.cell 7 rfl 0 rfl; have k4c1 := K4.cell 7 rfl 1 rfl; have k4f0 := K4.free 7 rfl 0; have k4f1 := K4.free 7 rfl 1; have k4l := K4.lt 7 rfl
            refine hK.out _ _ ?_ (fun hH6 => ?_)
            · trivial
            clear hK K
            try simp only [Act.put, List.getElem_toArray, List.getElem_cons_zero, List.getElem_cons_succ, List.setIfInBounds_toArray, List.set_cons_zero, List.set_cons_succ]
            refine takeD (i := 16) (d := 40) (v := .pointer (some ⟨c, 0, none⟩)) rfl rfl (by kernel_rfl) (by kernel_rfl) (by kernel_rfl) (fun _ _ _ h => h) (yldV [(24, .pointer (some ⟨c, 0, none⟩))] (by kernel_rfl) rfl (by kernel_rfl) ?_) hH6 ?_
            · intro w hSw; go_simp
            dsimp only [List.set_cons_zero, List.set_cons_succ]
            refine takeD (i := 17) (d := 41) (v := .pointer (some ⟨c, 0, none⟩)) rfl rfl (by kernel_rfl) (by kernel_rfl) (by kernel_rfl) (fun _ _ _ h => h) (yldV [(40, .pointer (some ⟨c, 0, none⟩))] (by kernel_rfl) rfl (by kernel_rfl) ?_) hH6 ?_
            · intro w hSw; go_simp
            dsimp only [List.set_cons_zero, List.set_cons_succ]
            refine wpAnyH_ready (rs := [18]) (by kernel_rfl) (by simp) (AllReadyH.cons (o := _) rfl (fun K hK => ?_) AllReadyH.nil)
            go_simp
            have K5 := K4.set 7 rfl 0 (.slice a5 (n + 1) c5)
            have k5c0 := K5.cell 0 rfl 0 rfl; have k5c1 := K5.cell 0 rfl 1 rfl; have k5f0 := K5.free 0 rfl 0; have k5f1 := K5.free 0 rfl 1; have k5l := K5.lt 0 rfl
            refine hK.out _ _ ?_ (fun hH7 => ?_)
            · trivial
            clear hK K
            try simp only [Act.put, List.getElem_toArray, List.getElem_cons_zero, List.getElem_cons_succ, List.setIfInBounds_toArray, List.set_cons_zero, List.set_cons_succ]
            refine takeD (i := 19) (d := 42) (v := .pointer (some ⟨c, 0, none⟩)) rfl rfl (by kernel_rfl) (by kernel_rfl) (by kernel_rfl) (fun _ _ _ h => h) (yldV [(25, .pointer (some ⟨c, 0, none⟩))] (by kernel_rfl) rfl (by kernel_rfl) ?_) hH7 ?_
            · intro w hSw; go_simp
            dsimp only [List.set_cons_zero, List.set_cons_succ]
            refine takeD (i := 20) (d := 43) (v := .pointer (some ⟨c, 1, none⟩)) rfl rfl (by kernel_rfl) (by kernel_rfl) (by kernel_rfl) (fun _ _ _ h => h) (yldV [(42, .pointer (some ⟨c, 0, none⟩))] (by kernel_rfl) rfl (by kernel_rfl) ?_) hH7 ?_
            · intro w hSw; go_simp
            dsimp only [List.set_cons_zero, List.set_cons_succ]
            refine wpAnyH_ready (rs := [21]) (by kernel_rfl) (by simp) (AllReadyH.cons (o := _) rfl (fun K hK => ?_) AllReadyH.nil)
            go_simp
            have K6 := K5.set 0 rfl 1 (.slice a6 (n + 1) c6)
            have k6c0 := K6.cell 0 rfl 0 rfl; have k6c1 := K6.cell 0 rfl 1 rfl; have k6f0 := K6.free 0 rfl 0; have k6f1 := K6.free 0 rfl 1; have k6l := K6.lt 0 rfl
            refine hK.out _ _ ?_ (fun hH8 => ?_)
            · trivial
            clear hK K
            refine wpAnyH_done (by kernel_rfl) ?_ _
            go_wp2_with fail
            go_meet
            exact Lib.hid' ⟨a5, c5, a6, c6, ((((((((((((K6.drop 4).drop 2).focus 5 rfl).focus 5 rfl).focus 5 rfl).focus 9 rfl).focus 9 rfl).focus 9 rfl).focus 7 rfl).focus 8 rfl).focus 9 rfl).focus 9 rfl)⟩
        · skip
          go_simp
          refine hK.out _ _ ?_ (fun hH3 => ?_)
          · trivial
          clear hK K
          try simp only [Act.put, List.getElem_toArray, List.getElem_cons_zero, List.getElem_cons_succ, List.setIfInBounds_toArray, List.set_cons_zero, List.set_cons_succ]
          refine wpAnyH_ready (rs := [8, 14]) (by kernel_rfl) (by simp) (AllReadyH.cons (o := _) rfl (fun K hK => ?_) (AllReadyH.cons (o := _) rfl (fun K hK => ?_) AllReadyH.nil))
          · skip
            refine sep_appendAny etDisks rfl (.tmp 29) (.tmp 31) rfl [ptrV N] (slv_box K1 0 rfl) rfl K1 6 rfl rfl rfl (by intro x hx; simp only [List.mem_cons, List.not_mem_nil, or_false] at hx; subst hx; rfl) (by omega) ?_
            intro a5 c5 w5 K2
            have k2c0 := K2.cell 5 rfl 0 rfl; have k2c1 := K2.cell 5 rfl 1 rfl; have k2f0 := K2.free 5 rfl 0; have k2f1 := K2.free 5 rfl 1; have k2l := K2.lt 5 rfl
            refine hK.out _ _ ?_ (fun hH4 => ?_)
            · trivial
            clear hK K
            try simp only [Act.put, List.getElem_toArray, List.getElem_cons_zero, List.getElem_cons_succ, List.setIfInBounds_toArray, List.set_cons_zero, List.set_cons_succ]
            refine wpAnyH_ready (rs := [14]) (by kernel_rfl) (by simp) (AllReadyH.cons (o := _) rfl (fun K hK => ?_) AllReadyH.nil)
            go_simp
            have K3 := K2.allocAt (w5.heap.size) [ptrV q] 79 (by simp)
            have k3c0 := K3.cell 6 rfl 0 rfl; have k3c1 := K3.cell 6 rfl 1 rfl; have k3f0 := K3.free 6 rfl 0; have k3f1 := K3.free 6 rfl 1; have k3l := K3.lt 6 rfl
            refine hK.out _ _ ?_ (fun hH5 => ?_)
            · trivial
            clear hK K
            try simp only [Act.put, List.getElem_toArray, List.getElem_cons_zero, List.getElem_cons_succ, List.setIfInBounds_toArray, List.set_cons_zero, List.set_cons_succ]
            refine wpAnyH_ready (rs := [15]) (by kernel_rfl) (by simp) (AllReadyH.cons (o := _) rfl (fun K hK => ?_) AllReadyH.nil)
            refine sep_appendAny etShelves rfl (.tmp 36) (.tmp 38) rfl [ptrV q] (slv_box K3 0 rfl) rfl K3 8 rfl rfl rfl (by intro x hx; simp only [List.mem_cons, List.not_mem_nil, or_false] at hx; subst hx; rfl) (by omega) ?_
            intro a6 c6 w6 K4
            have k4c0 := K4.cell 7 rfl 0 rfl; have k4c1 := K4.cell 7 rfl 1 rfl; have k4f0 := K4.free 7 rfl 0; have k4f1 := K4.free 7 rfl 1; have k4l := K4.lt 7 rfl
            refine hK.out _ _ ?_ (fun hH6 => ?_)
            · trivial
            clear hK K
            try simp only [Act.put, List.getElem_toArray, List.getElem_cons_zero, List.getElem_cons_succ, List.setIfInBounds_toArray, List.set_cons_zero, List.set_cons_succ]
            refine takeD (i := 16) (d := 40) (v := .pointer (some ⟨c, 0, none⟩)) rfl rfl (by kernel_rfl) (by kernel_rfl) (by kernel_rfl) (fun _ _ _ h => h) (yldV [(24, .pointer (some ⟨c, 0, none⟩))] (by kernel_rfl) rfl (by kernel_rfl) ?_) hH6 ?_
            · intro w hSw; go_simp
            dsimp only [List.set_cons_zero, List.set_cons_succ]
            refine takeD (i := 17) (d := 41) (v := .pointer (some ⟨c, 0, none⟩)) rfl rfl (by kernel_rfl) (by kernel_rfl) (by kernel_rfl) (fun _ _ _ h => h) (yldV [(40, .pointer (some ⟨c, 0, none⟩))] (by kernel_rfl) rfl (by kernel_rfl) ?_) hH6 ?_
            · intro w hSw; go_simp
            dsimp only [List.set_cons_zero, List.set_cons_succ]
            refine wpAnyH_ready (rs := [18]) (by kernel_rfl) (by simp) (AllReadyH.cons (o := _) rfl (fun K hK => ?_) AllReadyH.nil)
            go_simp
            have K5 := K4.set 7 rfl 0 (.slice a5 (n + 1) c5)
            have k5c0 := K5.cell 0 rfl 0 rfl; have k5c1 := K5.cell 0 rfl 1 rfl; have k5f0 := K5.free 0 rfl 0; have k5f1 := K5.free 0 rfl 1; have k5l := K5.lt 0 rfl
            refine hK.out _ _ ?_ (fun hH7 => ?_)
            · trivial
            clear hK K
            try simp only [Act.put, List.getElem_toArray, List.getElem_cons_zero, List.getElem_cons_succ, List.setIfInBounds_toArray, List.set_cons_zero, List.set_cons_succ]
            refine takeD (i := 19) (d := 42) (v := .pointer (some ⟨c, 0, none⟩)) rfl rfl (by kernel_rfl) (by kernel_rfl) (by kernel_rfl) (fun _ _ _ h => h) (yldV [(25, .pointer (some ⟨c, 0, none⟩))] (by kernel_rfl) rfl (by kernel_rfl) ?_) hH7 ?_
            · intro w hSw; go_simp
            dsimp only [List.set_cons_zero, List.set_cons_succ]
            refine takeD (i := 20) (d := 43) (v := .pointer (some ⟨c, 1, none⟩)) rfl rfl (by kernel_rfl) (by kernel_rfl) (by kernel_rfl) (fun _ _ _ h => h) (yldV [(42, .pointer (some ⟨c, 0, none⟩))] (by kernel_rfl) rfl (by kernel_rfl) ?_) hH7 ?_
            · intro w hSw; go_simp
            dsimp only [List.set_cons_zero, List.set_cons_succ]
            refine wpAnyH_ready (rs := [21]) (by kernel_rfl) (by simp) (AllReadyH.cons (o := _) rfl (fun K hK => ?_) AllReadyH.nil)
            go_simp
            have K6 := K5.set 0 rfl 1 (.slice a6 (n + 1) c6)
            have k6c0 := K6.cell 0 rfl 0 rfl; have k6c1 := K6.cell 0 rfl 1 rfl; have k6f0 := K6.free 0 rfl 0; have k6f1 := K6.free 0 rfl 1; have k6l := K6.lt 0 rfl
            refine hK.out _ _ ?_ (fun hH8 => ?_)
            · trivial
            clear hK K
            refine wpAnyH_done (by kernel_rfl) ?_ _
            go_wp2_with fail
            go_meet
            exact Lib.hid' ⟨a5, c5, a6, c6, ((((((((((((K6.drop 4).drop 2).focus 5 rfl).focus 5 rfl).focus 5 rfl).focus 9 rfl).focus 9 rfl).focus 9 rfl).focus 7 rfl).focus 8 rfl).focus 9 rfl).focus 9 rfl)⟩
          · skip
            go_simp
            have K2 := K1.allocAt (wd.heap.size + 1) [ptrV q] 79 (by simp)
            have k2c0 := K2.cell 5 rfl 0 rfl; have k2c1 := K2.cell 5 rfl 1 rfl; have k2f0 := K2.free 5 rfl 0; have k2f1 := K2.free 5 rfl 1; have k2l := K2.lt 5 rfl
            refine hK.out _ _ ?_ (fun hH4 => ?_)
            · trivial
            clear hK K
            try simp only [Act.put, List.getElem_toArray, List.getElem_cons_zero, List.getElem_cons_succ, List.setIfInBounds_toArray, List.set_cons_zero, List.set_cons_succ]
            refine wpAnyH_ready (rs := [8]) (by kernel_rfl) (by simp) (AllReadyH.cons (o := _) rfl (fun K hK => ?_) AllReadyH.nil)
            refine sep_appendAny etDisks rfl (.tmp 29) (.tmp 31) rfl [ptrV N] (slv_box K2 1 rfl) rfl K2 7 rfl rfl rfl (by intro x hx; simp only [List.mem_cons, List.not_mem_nil, or_false] at hx; subst hx; rfl) (by omega) ?_
            intro a5 c5 w5 K3
            have k3c0 := K3.cell 6 rfl 0 rfl; have k3c1 := K3.cell 6 rfl 1 rfl; have k3f0 := K3.free 6 rfl 0; have k3f1 := K3.free 6 rfl 1; have k3l := K3.lt 6 rfl
            refine hK.out _ _ ?_ (fun hH5 => ?_)
            · trivial
            clear hK K
            try simp only [Act.put, List.getElem_toArray, List.getElem_cons_zero, List.getElem_cons_succ, List.setIfInBounds_toArray, List.set_cons_zero, List.set_cons_succ]
            refine wpAnyH_ready (rs := [15]) (by kernel_rfl) (by simp) (AllReadyH.cons (o := _) rfl (fun K hK => ?_) AllReadyH.nil)
            refine sep_appendAny etShelves rfl (.tmp 36) (.tmp 38) rfl [ptrV q] (slv_box K3 1 rfl) rfl K3 8 rfl rfl rfl (by intro x hx; simp only [List.mem_cons, List.not_mem_nil, or_false] at hx; subst hx; rfl) (by omega) ?_
            intro a6 c6 w6 K4
            have k4c0 := K4.cell 7 rfl 0 rfl; have k4c1 := K4.cell 7 rfl 1 rfl; have k4f0 := K4.free 7 rfl 0; have k4f1 := K4.free 7 rfl 1; have k4l := K4.lt 7 rfl
            refine hK.out _ _ ?_ (fun hH6 => ?_)
            · trivial
            clear hK K
            try simp only [Act.put, List.getElem_toArray, List.getElem_cons_zero, List.getElem_cons_succ, List.setIfInBounds_toArray, List.set_cons_zero, List.set_cons_succ]
            refine takeD (i := 16) (d := 40) (v := .pointer (some ⟨c, 0, none⟩)) rfl rfl (by kernel_rfl) (by kernel_rfl) (by kernel_rfl) (fun _ _ _ h => h) (yldV [(24, .pointer (some ⟨c, 0, none⟩))] (by kernel_rfl) rfl (by kernel_rfl) ?_) hH6 ?_
            · intro w hSw; go_simp
            dsimp only [List.set_cons_zero, List.set_cons_succ]
            refine takeD (i := 17) (d := 41) (v := .pointer (some ⟨c, 0, none⟩)) rfl rfl (by kernel_rfl) (by kernel_rfl) (by kernel_rfl) (fun _ _ _ h => h) (yldV [(40, .pointer (some ⟨c, 0, none⟩))] (by kernel_rfl) rfl (by kernel_rfl) ?_) hH6 ?_
            · intro w hSw; go_simp
            dsimp only [List.set_cons_zero, List.set_cons_succ]
            refine wpAnyH_ready (rs := [18]) (by kernel_rfl) (by simp) (AllReadyH.cons (o := _) rfl (fun K hK => ?_) AllReadyH.nil)
            go_simp
            have K5 := K4.set 7 rfl 0 (.slice a5 (n + 1) c5)
            have k5c0 := K5.cell 0 rfl 0 rfl; have k5c1 := K5.cell 0 rfl 1 rfl; have k5f0 := K5.free 0 rfl 0; have k5f1 := K5.free 0 rfl 1; have k5l := K5.lt 0 rfl
            refine hK.out _ _ ?_ (fun hH7 => ?_)
            · trivial
            clear hK K
            try simp only [Act.put, List.getElem_toArray, List.getElem_cons_zero, List.getElem_cons_succ, List.setIfInBounds_toArray, List.set_cons_zero, List.set_cons_succ]
            refine takeD (i := 19) (d := 42) (v := .pointer (some ⟨c, 0, none⟩)) rfl rfl (by kernel_rfl) (by kernel_rfl) (by kernel_rfl) (fun _ _ _ h => h) (yldV [(25, .pointer (some ⟨c, 0, none⟩))] (by kernel_rfl) rfl (by kernel_rfl) ?_) hH7 ?_
            · intro w hSw; go_simp
            dsimp only [List.set_cons_zero, List.set_cons_succ]
            refine takeD (i := 20) (d := 43) (v := .pointer (some ⟨c, 1, none⟩)) rfl rfl (by kernel_rfl) (by kernel_rfl) (by kernel_rfl) (fun _ _ _ h => h) (yldV [(42, .pointer (some ⟨c, 0, none⟩))] (by kernel_rfl) rfl (by kernel_rfl) ?_) hH7 ?_
            · intro w hSw; go_simp
            dsimp only [List.set_cons_zero, List.set_cons_succ]
            refine wpAnyH_ready (rs := [21]) (by kernel_rfl) (by simp) (AllReadyH.cons (o := _) rfl (fun K hK => ?_) AllReadyH.nil)
            go_simp
            have K6 := K5.set 0 rfl 1 (.slice a6 (n + 1) c6)
            have k6c0 := K6.cell 0 rfl 0 rfl; have k6c1 := K6.cell 0 rfl 1 rfl; have k6f0 := K6.free 0 rfl 0; have k6f1 := K6.free 0 rfl 1; have k6l := K6.lt 0 rfl
            refine hK.out _ _ ?_ (fun hH8 => ?_)
            · trivial
            clear hK K
            refine wpAnyH_done (by kernel_rfl) ?_ _
            go_wp2_with fail
            go_meet
            exact Lib.hid' ⟨a5, c5, a6, c6, ((((((((((((K6.drop 4).drop 3).focus 5 rfl).focus 5 rfl).focus 5 rfl).focus 9 rfl).focus 9 rfl).focus 9 rfl).focus 7 rfl).focus 8 rfl).focus 9 rfl).focus 9 rfl)⟩
        · skip
          go_simp
          have K2 := K1.allocAt (wd.heap.size + 1) [ptrV q] 79 (by simp)
          have k2c0 := K2.cell 5 rfl 0 rfl; have k2c1 := K2.cell 5 rfl 1 rfl; have k2f0 := K2.free 5 rfl 0; have k2f1 := K2.free 5 rfl 1; have k2l := K2.lt 5 rfl
          refine hK.out _ _ ?_ (fun hH3 => ?_)
          · trivial
          clear hK K
          try simp only [Act.put, List.getElem_toArray, List.getElem_cons_zero, List.getElem_cons_succ, List.setIfInBounds_toArray, List.set_cons_zero, List.set_cons_succ]
          refine wpAnyH_ready (rs := [8, 12]) (by kernel_rfl) (by simp) (AllReadyH.cons (o := _) rfl (fun K hK => ?_) (AllReadyH.cons (o := _) rfl (fun K hK => ?_) AllReadyH.nil))
          · skip
            refine sep_appendAny etDisks rfl (.tmp 29) (.tmp 31) rfl [ptrV N] (slv_box K2 1 rfl) rfl K2 7 rfl rfl rfl (by intro x hx; simp only [List.mem_cons, List.not_mem_nil, or_false] at hx; subst hx; rfl) (by omega) ?_
            intro a5 c5 w5 K3
            have k3c0 := K3.cell 6 rfl 0 rfl; have k3c1 := K3.cell 6 rfl 1 rfl; have k3f0 := K3.free 6 rfl 0; have k3f1 := K3.free 6 rfl 1; have k3l := K3.lt 6 rfl
            refine hK.out _ _ ?_ (fun hH4 => ?_)
            · trivial
            clear hK K
            try simp only [Act.put, List.getElem_toArray, List.getElem_cons_zero, List.getElem_cons_succ, List.setIfInBounds_toArray, List.set_cons_zero, List.set_cons_succ]
            refine wpAnyH_ready (rs := [12]) (by kernel_rfl) (by simp) (AllReadyH.cons (o := _) rfl (fun K hK => ?_) AllReadyH.nil)
            go_simp
            refine hK.out _ _ ?_ (fun hH5 => ?_)
            · trivial
            clear hK K
            try simp only [Act.put, List.getElem_toArray, List.getElem_cons_zero, List.getElem_cons_succ, List.setIfInBounds_toArray, List.set_cons_zero, List.set_cons_succ]
            refine wpAnyH_ready (rs := [15]) (by kernel_rfl) (by simp) (AllReadyH.cons (o := _) rfl (fun K hK => ?_) AllReadyH.nil)
            refine sep_appendAny etShelves rfl (.tmp 36) (.tmp 38) rfl [ptrV q] (slv_box K3 1 rfl) rfl K3 8 rfl rfl rfl (by intro x hx; simp only [List.mem_cons, List.not_mem_nil, or_false] at hx; subst hx; rfl) (by omega) ?_
            intro a6 c6 w6 K4
            have k4c0 := K4.cell 7 rfl 0 rfl; have k4c1 := K4.cell 7 rfl 1 rfl; have k4f0 := K4.free 7 rfl 0; have k4f1 := K4.free 7 rfl 1; have k4l := K4.lt 7 rfl
            refine hK.out _ _ ?_ (fun hH6 => ?_)
            · trivial
            clear hK K
            try simp only [Act.put, List.getElem_toArray, List.getElem_cons_zero, List.getElem_cons_succ, List.setIfInBounds_toArray, List.set_cons_zero, List.set_cons_succ]
            refine takeD (i := 16) (d := 40) (v := .pointer (some ⟨c, 0, none⟩)) rfl rfl (by kernel_rfl) (by kernel_rfl) (by kernel_rfl) (fun _ _ _ h => h) (yldV [(24, .pointer (some ⟨c, 0, none⟩))] (by kernel_rfl) rfl (by kernel_rfl) ?_) hH6 ?_
            · intro w hSw; go_simp
            dsimp only [List.set_cons_zero, List.set_cons_succ]
            refine takeD (i := 17) (d := 41) (v := .pointer (some ⟨c, 0, none⟩)) rfl rfl (by kernel_rfl) (by kernel_rfl) (by kernel_rfl) (fun _ _ _ h => h) (yldV [(40, .pointer (some ⟨c, 0, none⟩))] (by kernel_rfl) rfl (by kernel_rfl) ?_) hH6 ?_
            · intro w hSw; go_simp
            dsimp only [List.set_cons_zero, List.set_cons_succ]
            refine wpAnyH_ready (rs := [18]) (by kernel_rfl) (by simp) (AllReadyH.cons (o := _) rfl (fun K hK => ?_) AllReadyH.nil)
            go_simp
            have K5 := K4.set 7 rfl 0 (.slice a5 (n + 1) c5)
            have k5c0 := K5.cell 0 rfl 0 rfl; have k5c1 := K5.cell 0 rfl 1 rfl; have k5f0 := K5.free 0 rfl 0; have k5f1 := K5.free 0 rfl 1; have k5l := K5.lt 0 rfl
            refine hK.out _ _ ?_ (fun hH7 => ?_)
            · trivial
            clear hK K
            try simp only [Act.put, List.getElem_toArray, List.getElem_cons_zero, List.getElem_cons_succ, List.setIfInBounds_toArray, List.set_cons_zero, List.set_cons_succ]
            refine takeD (i := 19) (d := 42) (v := .pointer (some ⟨c, 0, none⟩)) rfl rfl (by kernel_rfl) (by kernel_rfl) (by kernel_rfl) (fun _ _ _ h => h) (yldV [(25, .pointer (some ⟨c, 0, none⟩))] (by kernel_rfl) rfl (by kernel_rfl) ?_) hH7 ?_
            · intro w hSw; go_simp
            dsimp only [List.set_cons_zero, List.set_cons_succ]
            refine takeD (i := 20) (d := 43) (v := .pointer (some ⟨c, 1, none⟩)) rfl rfl (by kernel_rfl) (by kernel_rfl) (by kernel_rfl) (fun _ _ _ h => h) (yldV [(42, .pointer (some ⟨c, 0, none⟩))] (by kernel_rfl) rfl (by kernel_rfl) ?_) hH7 ?_
            · intro w hSw; go_simp
            dsimp only [List.set_cons_zero, List.set_cons_succ]
            refine wpAnyH_ready (rs := [21]) (by kernel_rfl) (by simp) (AllReadyH.cons (o := _) rfl (fun K hK => ?_) AllReadyH.nil)
            go_simp
            have K6 := K5.set 0 rfl 1 (.slice a6 (n + 1) c6)
            have k6c0 := K6.cell 0 rfl 0 rfl; have k6c1 := K6.cell 0 rfl 1 rfl; have k6f0 := K6.free 0 rfl 0; have k6f1 := K6.free 0 rfl 1; have k6l := K6.lt 0 rfl
            refine hK.out _ _ ?_ (fun hH8 => ?_)
            · trivial
            clear hK K
            refine wpAnyH_done (by kernel_rfl) ?_ _
            go_wp2_with fail
            go_meet
            exact Lib.hid' ⟨a5, c5, a6, c6, ((((((((((((K6.drop 4).drop 3).focus 5 rfl).focus 5 rfl).focus 5 rfl).focus 9 rfl).focus 9 rfl).focus 9 rfl).focus 7 rfl).focus 8 rfl).focus 9 rfl).focus 9 rfl)⟩
          · skip
            go_simp
            refine hK.out _ _ ?_ (fun hH4 => ?_)
            · trivial
            clear hK K
            try simp only [Act.put, List.getElem_toArray, List.getElem_cons_zero, List.getElem_cons_succ, List.setIfInBounds_toArray, List.set_cons_zero, List.set_cons_succ]
            refine wpAnyH_ready (rs := [8]) (by kernel_rfl) (by simp) (AllReadyH.cons (o := _) rfl (fun K hK => ?_) AllReadyH.nil)
            refine sep_appendAny etDisks rfl (.tmp 29) (.tmp 31) rfl [ptrV N] (slv_box K2 1 rfl) rfl K2 7 rfl rfl rfl (by intro x hx; simp only [List.mem_cons, List.not_mem_nil, or_false] at hx; subst hx; rfl) (by omega) ?_
            intro a5 c5 w5 K3
            have k3c0 := K3.cell 6 rfl 0 rfl; have k3c1 := K3.cell 6 rfl 1 rfl; have k3f0 := K3.free 6 rfl 0; have k3f1 := K3.free 6 rfl 1; have k3l := K3.lt 6 rfl
            refine hK.out _ _ ?_ (fun hH5 => ?_)
            · trivial
            clear hK K
            try simp only [Act.put, List.getElem_toArray, List.getElem_cons_zero, List.getElem_cons_succ, List.setIfInBounds_toArray, List.set_cons_zero, List.set_cons_succ]
            refine wpAnyH_ready (rs := [15]) (by kernel_rfl) (by simp) (AllReadyH.cons (o := _) rfl (fun K hK => ?_) AllReadyH.nil)
            refine sep_appendAny etShelves rfl (.tmp 36) (.tmp 38) rfl [ptrV q] (slv_box K3 1 rfl) rfl K3 8 rfl rfl rfl (by intro x hx; simp only [List.mem_cons, List.not_mem_nil, or_false] at hx; subst hx; rfl) (by omega) ?_
            intro a6 c6 w6 K4
            have k4c0 := K4.cell 7 rfl 0 rfl; have k4c1 := K4.cell 7 rfl 1 rfl; have k4f0 := K4.free 7 rfl 0; have k4f1 := K4.free 7 rfl 1; have k4l := K4.lt 7 rfl
            refine hK.out _ _ ?_ (fun hH6 => ?_)
            · trivial
            clear hK K
            try simp only [Act.put, List.getElem_toArray, List.getElem_cons_zero, List.getElem_cons_succ, List.setIfInBounds_toArray, List.set_cons_zero, List.set_cons_succ]
            refine takeD (i := 16) (d := 40) (v := .pointer (some ⟨c, 0, none⟩)) rfl rfl (by kernel_rfl) (by kernel_rfl) (by kernel_rfl) (fun _ _ _ h => h) (yldV [(24, .pointer (some ⟨c, 0, none⟩))] (by kernel_rfl) rfl (by kernel_rfl) ?_) hH6 ?_
            · intro w hSw; go_simp
            dsimp only [List.set_cons_zero, List.set_cons_succ]
            refine takeD (i := 17) (d := 41) (v := .pointer (some ⟨c, 0, none⟩)) rfl rfl (by kernel_rfl) (by kernel_rfl) (by kernel_rfl) (fun _ _ _ h => h) (yldV [(40, .pointer (some ⟨c, 0, none⟩))] (by kernel_rfl) rfl (by kernel_rfl) ?_) hH6 ?_
            · intro w hSw; go_simp
            dsimp only [List.set_cons_zero, List.set_cons_succ]
            refine wpAnyH_ready (rs := [18]) (by kernel_rfl) (by simp) (AllReadyH.cons (o := _) rfl (fun K hK => ?_) AllReadyH.nil)
            go_simp
            have K5 := K4.set 7 rfl 0 (.slice a5 (n + 1) c5)
            have k5c0 := K5.cell 0 rfl 0 rfl; have k5c1 := K5.cell 0 rfl 1 rfl; have k5f0 := K5.free 0 rfl 0; have k5f1 := K5.free 0 rfl 1; have k5l := K5.lt 0 rfl
            refine hK.out _ _ ?_ (fun hH7 => ?_)
            · trivial
            clear hK K
            try simp only [Act.put, List.getElem_toArray, List.getElem_cons_zero, List.getElem_cons_succ, List.setIfInBounds_toArray, List.set_cons_zero, List.set_cons_succ]
            refine takeD (i := 19) (d := 42) (v := .pointer (some ⟨c, 0, none⟩)) rfl rfl (by kernel_rfl) (by kernel_rfl) (by kernel_rfl) (fun _ _ _ h => h) (yldV [(25, .pointer (some ⟨c, 0, none⟩))] (by kernel_rfl) rfl (by kernel_rfl) ?_) hH7 ?_
            · intro w hSw; go_simp
            dsimp only [List.set_cons_zero, List.set_cons_succ]
            refine takeD (i := 20) (d := 43) (v := .pointer (some ⟨c, 1, none⟩)) rfl rfl (by kernel_rfl) (by kernel_rfl) (by kernel_rfl) (fun _ _ _ h => h) (yldV [(42, .pointer (some ⟨c, 0, none⟩))] (by kernel_rfl) rfl (by kernel_rfl) ?_) hH7 ?_
            · intro w hSw; go_simp
            dsimp only [List.set_cons_zero, List.set_cons_succ]
            refine wpAnyH_ready (rs := [21]) (by kernel_rfl) (by simp) (AllReadyH.cons (o := _) rfl (fun K hK => ?_) AllReadyH.nil)
            go_simp
            have K6 := K5.set 0 rfl 1 (.slice a6 (n + 1) c6)
            have k6c0 := K6.cell 0 rfl 0 rfl; have k6c1 := K6.cell 0 rfl 1 rfl; have k6f0 := K6.free 0 rfl 0; have k6f1 := K6.free 0 rfl 1; have k6l := K6.lt 0 rfl
            refine hK.out _ _ ?_ (fun hH8 => ?_)
            · trivial
            clear hK K
            refine wpAnyH_done (by kernel_rfl) ?_ _
            go_wp2_with fail
            go_meet
            exact Lib.hid' ⟨a5, c5, a6, c6, ((((((((((((K6.drop 4).drop 3).focus 5 rfl).focus 5 rfl).focus 5 rfl).focus 9 rfl).focus 9 rfl).focus 9 rfl).focus 7 rfl).focus 8 rfl).focus 9 rfl).focus 9 rfl)⟩
      · skip
        go_simp
        refine hK.out _ _ ?_ (fun hH2 => ?_)
        · trivial
        clear hK K
        try simp only [Act.put, List.getElem_toArray, List.getElem_cons_zero, List.getElem_cons_succ, List.setIfInBounds_toArray, List.set_cons_zero, List.set_cons_succ]
        refine wpAnyH_ready (rs := [5, 14]) (by kernel_rfl) (by simp) (AllReadyH.cons (o := _) rfl (fun K hK => ?_) (AllReadyH.cons (o := _) rfl (fun K hK => ?_) AllReadyH.nil))
        · skip
          go_simp
          refine hK.out _ _ ?_ (fun hH3 => ?_)
          · trivial
          clear hK K
          try simp only [Act.put, List.getElem_toArray, List.getElem_cons_zero, List.getElem_cons_succ, List.setIfInBounds_toArray, List.set_cons_zero, List.set_cons_succ]
          refine wpAnyH_ready (rs := [8, 14]) (by kernel_rfl) (by simp) (AllReadyH.cons (o := _) rfl (fun K hK => ?_) (AllReadyH.cons (o := _) rfl (fun K hK => ?_) AllReadyH.nil))
          · skip
            refine sep_appendAny etDisks rfl (.tmp 29) (.tmp 31) rfl [ptrV N] (slv_box K1 0 rfl) rfl K1 6 rfl rfl rfl (by intro x hx; simp only [List.mem_cons, List.not_mem_nil, or_false] at hx; subst hx; rfl) (by omega) ?_
            intro a5 c5 w5 K2
            have k2c0 := K2.cell 5 rfl 0 rfl; have k2c1 := K2.cell 5 rfl 1 rfl; have k2f0 := K2.free 5 rfl 0; have k2f1 := K2.free 5 rfl 1; have k2l := K2.lt 5 rfl
            refine hK.out _ _ ?_ (fun hH4 => ?_)
            · trivial
            clear hK K
            try simp only [Act.put, List.getElem_toArray, List.getElem_cons_zero, List.getElem_cons_succ, List.setIfInBounds_toArray, List.set_cons_zero, List.set_cons_succ]
            refine wpAnyH_ready (rs := [14]) (by kernel_rfl) (by simp) (AllReadyH.cons (o := _) rfl (fun K hK => ?_) AllReadyH.nil)
            go_simp
            have K3 := K2.allocAt (w5.heap.size) [ptrV q] 79 (by simp)
            have k3c0 := K3.cell 6 rfl 0 rfl; have k3c1 := K3.cell 6 rfl 1 rfl; have k3f0 := K3.free 6 rfl 0; have k3f1 := K3.free 6 rfl 1; have k3l := K3.lt 6 rfl
            refine hK.out _ _ ?_ (fun hH5 => ?_)
            · trivial
            clear hK K
            try simp only [Act.put, List.getElem_toArray, List.getElem_cons_zero, List.getElem_cons_succ, List.setIfInBounds_toArray, List.set_cons_zero, List.set_cons_succ]
            refine wpAnyH_ready (rs := [15]) (by kernel_rfl) (by simp) (AllReadyH.cons (o := _) rfl (fun K hK => ?_) AllReadyH.nil)
            refine sep_appendAny etShelves rfl (.tmp 36) (.tmp 38) rfl [ptrV q] (slv_box K3 0 rfl) rfl K3 8 rfl rfl rfl (by intro x hx; simp only [List.mem_cons, List.not_mem_nil, or_false] at hx; subst hx; rfl) (by omega) ?_
            intro a6 c6 w6 K4
            have k4c0 := K4.cell 7 rfl 0 rfl; have k4c1 := K4.cell 7 rfl 1 rfl; have k4f0 := K4.free 7 rfl 0; have k4f1 := K4.free 7 rfl 1; have k4l := K4.lt 7 rfl
            refine hK.out _ _ ?_ (fun hH6 => ?_)
            · trivial
            clear hK K
            try simp only [Act.put, List.getElem_toArray, List.getElem_cons_zero, List.getElem_cons_succ, List.setIfInBounds_toArray, List.set_cons_zero, List.set_cons_succ]
            refine takeD (i := 16) (d := 40) (v := .pointer (some ⟨c, 0, none⟩)) rfl rfl (by kernel_rfl) (by kernel_rfl) (by kernel_rfl) (fun _ _ _ h => h) (yldV [(24, .pointer (some ⟨c, 0, none⟩))] (by kernel_rfl) rfl (by kernel_rfl) ?_) hH6 ?_
            · intro w hSw; go_simp
            dsimp only [List.set_cons_zero, List.set_cons_succ]
            refine takeD (i := 17) (d := 41) (v := .pointer (some ⟨c, 0, none⟩)) rfl rfl (by kernel_rfl) (by kernel_rfl) (by kernel_rfl) (fun _ _ _ h => h) (yldV [(40, .pointer (some ⟨c, 0, none⟩))] (by kernel_rfl) rfl (by kernel_rfl) ?_) hH6 ?_
            · intro w hSw; go_simp
            dsimp only [List.set_cons_zero, List.set_cons_succ]
            refine wpAnyH_ready (rs := [18]) (by kernel_rfl) (by simp) (AllReadyH.cons (o := _) rfl (fun K hK => ?_) AllReadyH.nil)
            go_simp
            have K5 := K4.set 7 rfl 0 (.slice a5 (n + 1) c5)
            have k5c0 := K5.cell 0 rfl 0 rfl; have k5c1 := K5.cell 0 rfl 1 rfl; have k5f0 := K5.free 0 rfl 0; have k5f1 := K5.free 0 rfl 1; have k5l := K5.lt 0 rfl
            refine hK.out _ _ ?_ (fun hH7 => ?_)
            · trivial
            clear hK K
            try simp only [Act.put, List.getElem_toArray, List.getElem_cons_zero, List.getElem_cons_succ, List.setIfInBounds_toArray, List.set_cons_zero, List.set_cons_succ]
            refine takeD (i := 19) (d := 42) (v := .pointer (some ⟨c, 0, none⟩)) rfl rfl (by kernel_rfl) (by kernel_rfl) (by kernel_rfl) (fun _ _ _ h => h) (yldV [(25, .pointer (some ⟨c, 0, none⟩))] (by kernel_rfl) rfl (by kernel_rfl) ?_) hH7 ?_
            · intro w hSw; go_simp
            dsimp only [List.set_cons_zero, List.set_cons_succ]
            refine takeD (i := 20) (d := 43) (v := .pointer (some ⟨c, 1, none⟩)) rfl rfl (by kernel_rfl) (by kernel_rfl) (by kernel_rfl) (fun _ _ _ h => h) (yldV [(42, .pointer (some ⟨c, 0, none⟩))] (by kernel_rfl) rfl (by kernel_rfl) ?_) hH7 ?_
            · intro w hSw; go_simp
            dsimp only [List.set_cons_zero, List.set_cons_succ]
            refine wpAnyH_ready (rs := [21]) (by kernel_rfl) (by simp) (AllReadyH.cons (o := _) rfl (fun K hK => ?_) AllReadyH.nil)
            go_simp
            have K6 := K5.set 0 rfl 1 (.slice a6 (n + 1) c6)
            have k6c0 := K6.cell 0 rfl 0 rfl; have k6c1 := K6.cell 0 rfl 1 rfl; have k6f0 := K6.free 0 rfl 0; have k6f1 := K6.free 0 rfl 1; have k6l := K6.lt 0 rfl
            refine hK.out _ _ ?_ (fun hH8 => ?_)
            · trivial
            clear hK K
            refine wpAnyH_done (by kernel_rfl) ?_ _
            go_wp2_with fail
            go_meet
            exact Lib.hid' ⟨a5, c5, a6, c6, ((((((((((((K6.drop 4).drop 2).focus 5 rfl).focus 5 rfl).focus 5 rfl).focus 9 rfl).focus 9 rfl).focus 9 rfl).focus 7 rfl).focus 8 rfl).focus 9 rfl).focus 9 rfl)⟩
          · skip
            go_simp
            have K2 := K1.allocAt (wd.heap.size + 1) [ptrV q] 79 (by simp)
            have k2c0 := K2.cell 5 rfl 0 rfl; have k2c1 := K2.cell 5 rfl 1 rfl; have k2f0 := K2.free 5 rfl 0; have k2f1 := K2.free 5 rfl 1; have k2l := K2.lt 5 rfl
            refine hK.out _ _ ?_ (fun hH4 => ?_)
            · trivial
            clear hK K
            try simp only [Act.put, List.getElem_toArray, List.getElem_cons_zero, List.getElem_cons_succ, List.setIfInBounds_toArray, List.set_cons_zero, List.set_cons_succ]
            refine wpAnyH_ready (rs := [8]) (by kernel_rfl) (by simp) (AllReadyH.cons (o := _) rfl (fun K hK => ?_) AllReadyH.nil)
            refine sep_appendAny etDisks rfl (.tmp 29) (.tmp 31) rfl [ptrV N] (slv_box K2 1 rfl) rfl K2 7 rfl rfl rfl (by intro x hx; simp only [List.mem_cons, List.not_mem_nil, or_false] at hx; subst hx; rfl) (by omega) ?_
            intro a5 c5 w5 K3
            have k3c0 := K3.cell 6 rfl 0 rfl; have k3c1 := K3.cell 6 rfl 1 rfl; have k3f0 := K3.free 6 rfl 0; have k3f1 := K3.free 6 rfl 1; have k3l := K3.lt 6 rfl
            refine hK.out _ _ ?_ (fun hH5 => ?_)
            · trivial
            clear hK K
            try simp only [Act.put, List.getElem_toArray, List.getElem_cons_zero, List.getElem_cons_succ, List.setIfInBounds_toArray, List.set_cons_zero, List.set_cons_succ]
            refine wpAnyH_ready (rs := [15]) (by kernel_rfl) (by simp) (AllReadyH.cons (o := _) rfl (fun K hK => ?_) AllReadyH.nil)
            refine sep_appendAny etShelves rfl (.tmp 36) (.tmp 38) rfl [ptrV q] (slv_box K3 1 rfl) rfl K3 8 rfl rfl rfl (by intro x hx; simp only [List.mem_cons, List.not_mem_nil, or_false] at hx; subst hx; rfl) (by omega) ?_
            intro a6 c6 w6 K4
            have k4c0 := K4.cell 7 rfl 0 rfl; have k4c1 := K4.cell 7 rfl 1 rfl; have k4f0 := K4.free 7 rfl 0; have k4f1 := K4.free 7 rfl 1; have k4l := K4.lt 7 rfl
            refine hK.out _ _ ?_ (fun hH6 => ?_)
            · trivial
            clear hK K
            try simp only [Act.put, List.getElem_toArray, List.getElem_cons_zero, List.getElem_cons_succ, List.setIfInBounds_toArray, List.set_cons_zero, List.set_cons_succ]
            refine takeD (i := 16) (d := 40) (v := .pointer (some ⟨c, 0, none⟩)) rfl rfl (by kernel_rfl) (by kernel_rfl) (by kernel_rfl) (fun _ _ _ h => h) (yldV [(24, .pointer (some ⟨c, 0, none⟩))] (by kernel_rfl) rfl (by kernel_rfl) ?_) hH6 ?_
            · intro w hSw; go_simp
            dsimp only [List.set_cons_zero, List.set_cons_succ]
            refine takeD (i := 17) (d := 41) (v := .pointer (some ⟨c, 0, none⟩)) rfl rfl (by kernel_rfl) (by kernel_rfl) (by kernel_rfl) (fun _ _ _ h => h) (yldV [(40, .pointer (some ⟨c, 0, none⟩))] (by kernel_rfl) rfl (by kernel_rfl) ?_) hH6 ?_
            · intro w hSw; go_simp
            dsimp only [List.set_cons_zero, List.set_cons_succ]
            refine wpAnyH_ready (rs := [18]) (by kernel_rfl) (by simp) (AllReadyH.cons (o := _) rfl (fun K hK => ?_) AllReadyH.nil)
            go_simp
            have K5 := K4.set 7 rfl 0 (.slice a5 (n + 1) c5)
            have k5c0 := K5.cell 0 rfl 0 rfl; have k5c1 := K5.cell 0 rfl 1 rfl; have k5f0 := K5.free 0 rfl 0; have k5f1 := K5.free 0 rfl 1; have k5l := K5.lt 0 rfl
            refine hK.out _ _ ?_ (fun hH7 => ?_)
            · trivial
            clear hK K
            try simp only [Act.put, List.getElem_toArray, List.getElem_cons_zero, List.getElem_cons_succ, List.setIfInBounds_toArray, List.set_cons_zero, List.set_cons_succ]
            refine takeD (i := 19) (d := 42) (v := .pointer (some ⟨c, 0, none⟩)) rfl rfl (by kernel_rfl) (by kernel_rfl) (by kernel_rfl) (fun _ _ _ h => h) (yldV [(25, .pointer (some ⟨c, 0, none⟩))] (by kernel_rfl) rfl (by kernel_rfl) ?_) hH7 ?_
            · intro w hSw; go_simp
            dsimp only [List.set_cons_zero, List.set_cons_succ]
            refine takeD (i := 20) (d := 43) (v := .pointer (some ⟨c, 1, none⟩)) rfl rfl (by kernel_rfl) (by kernel_rfl) (by kernel_rfl) (fun _ _ _ h => h) (yldV [(42, .pointer (some ⟨c, 0, none⟩))] (by kernel_rfl) rfl (by kernel_rfl) ?_) hH7 ?_
            · intro w hSw; go_simp
            dsimp only [List.set_cons_zero, List.set_cons_succ]
            refine wpAnyH_ready (rs := [21]) (by kernel_rfl) (by simp) (AllReadyH.cons (o := _) rfl (fun K hK => ?_) AllReadyH.nil)
            go_simp
            have K6 := K5.set 0 rfl 1 (.slice a6 (n + 1) c6)
            have k6c0 := K6.cell 0 rfl 0 rfl; have k6c1 := K6.cell 0 rfl 1 rfl; have k6f0 := K6.free 0 rfl 0; have k6f1 := K6.free 0 rfl 1; have k6l := K6.lt 0 rfl
            refine hK.out _ _ ?_ (fun hH8 => ?_)
            · trivial
            clear hK K
            refine wpAnyH_done (by kernel_rfl) ?_ _
            go_wp2_with fail
            go_meet
            exact Lib.hid' ⟨a5, c5, a6, c6, ((((((((((((K6.drop 4).drop 3).focus 5 rfl).focus 5 rfl).focus 5 rfl).focus 9 rfl).focus 9 rfl).focus 9 rfl).focus 7 rfl).focus 8 rfl).focus 9 rfl).focus 9 rfl)⟩
        · skip
          go_simp
          have K2 := K1.allocAt (wd.heap.size + 1) [ptrV q] 79 (by simp)
          have k2c0 := K2.cell 5 rfl 0 rfl; have k2c1 := K2.cell 5 rfl 1 rfl; have k2f0 := K2.free 5 rfl 0; have k2f1 := K2.free 5 rfl 1; have k2l := K2.lt 5 rfl
          refine hK.out _ _ ?_ (fun hH3 => ?_)
          · trivial
          clear hK K
          try simp only [Act.put, List.getElem_toArray, List.getElem_cons_zero, List.getElem_cons_succ, List.setIfInBounds_toArray, List.set_cons_zero, List.set_cons_succ]
          refine wpAnyH_ready (rs := [5]) (by kernel_rfl) (by simp) (AllReadyH.cons (o := _) rfl (fun K hK => ?_) AllReadyH.nil)
          go_simp
          refine hK.out _ _ ?_ (fun hH4 => ?_)
          · trivial
          clear hK K
          try simp only [Act.put, List.getElem_toArray, List.getElem_cons_zero, List.getElem_cons_succ, List.setIfInBounds_toArray, List.set_cons_zero, List.set_cons_succ]
          refine wpAnyH_ready (rs := [8]) (by kernel_rfl) (by simp) (AllReadyH.cons (o := _) rfl (fun K hK => ?_) AllReadyH.nil)
          refine sep_appendAny etDisks rfl (.tmp 29) (.tmp 31) rfl [ptrV N] (slv_box K2 1 rfl) rfl K2 7 rfl rfl rfl (by intro x hx; simp only [List.mem_cons, List.not_mem_nil, or_false] at hx; subst hx; rfl) (by omega) ?_
          intro a5 c5 w5 K3
          have k3c0 := K3.cell 6 rfl 0 rfl; have k3c1 := K3.cell 6 rfl 1 rfl; have k3f0 := K3.free 6 rfl 0; have k3f1 := K3.free 6 rfl 1; have k3l := K3.lt 6 rfl
          refine hK.out _ _ ?_ (fun hH5 => ?_)
          · trivial
          clear hK K
          try simp only [Act.put, List.getElem_toArray, List.getElem_cons_zero, List.getElem_cons_succ, List.setIfInBounds_toArray, List.set_cons_zero, List.set_cons_succ]
          refine wpAnyH_ready (rs := [15]) (by kernel_rfl) (by simp) (AllReadyH.cons (o := _) rfl (fun K hK => ?_) AllReadyH.nil)
          refine sep_appendAny etShelves rfl (.tmp 36) (.tmp 38) rfl [ptrV q] (slv_box K3 1 rfl) rfl K3 8 rfl rfl rfl (by intro x hx; simp only [List.mem_cons, List.not_mem_nil, or_false] at hx; subst hx; rfl) (by omega) ?_
          intro a6 c6 w6 K4
          have k4c0 := K4.cell 7 rfl 0 rfl; have k4c1 := K4.cell 7 rfl 1 rfl; have k4f0 := K4.free 7 rfl 0; have k4f1 := K4.free 7 rfl 1; have k4l := K4.lt 7 rfl
          refine hK.out _ _ ?_ (fun hH6 => ?_)
          · trivial
          clear hK K
          try simp only [Act.put, List.getElem_toArray, List.getElem_cons_zero, List.getElem_cons_succ, List.setIfInBounds_toArray, List.set_cons_zero, List.set_cons_succ]
          refine takeD (i := 16) (d := 40) (v := .pointer (some ⟨c, 0, none⟩)) rfl rfl (by kernel_rfl) (by kernel_rfl) (by kernel_rfl) (fun _ _ _ h => h) (yldV [(24, .pointer (some ⟨c, 0, none⟩))] (by kernel_rfl) rfl (by kernel_rfl) ?_) hH6 ?_
          · intro w hSw; go_simp
          dsimp only [List.set_cons_zero, List.set_cons_succ]
          refine takeD (i := 17) (d := 41) (v := .pointer (some ⟨c, 0, none⟩)) rfl rfl (by kernel_rfl) (by kernel_rfl) (by kernel_rfl) (fun _ _ _ h => h) (yldV [(40, .pointer (some ⟨c, 0, none⟩))] (by kernel_rfl) rfl (by kernel_rfl) ?_) hH6 ?_
          · intro w hSw; go_simp
          dsimp only [List.set_cons_zero, List.set_cons_succ]
          refine wpAnyH_ready (rs := [18]) (by kernel_rfl) (by simp) (AllReadyH.cons (o := _) rfl (fun K hK => ?_) AllReadyH.nil)
          go_simp
          have K5 := K4.set 7 rfl 0 (.slice a5 (n + 1) c5)
          have k5c0 := K5.cell 0 rfl 0 rfl; have k5c1 := K5.cell 0 rfl 1 rfl; have k5f0 := K5.free 0 rfl 0; have k5f1 := K5.free 0 rfl 1; have k5l := K5.lt 0 rfl
          refine hK.out _ _ ?_ (fun hH7 => ?_)
          · trivial
          clear hK K
          try simp only [Act.put, List.getElem_toArray, List.getElem_cons_zero, List.getElem_cons_succ, List.setIfInBounds_toArray, List.set_cons_zero, List.set_cons_succ]
          refine takeD (i := 19) (d := 42) (v := .pointer (some ⟨c, 0, none⟩)) rfl rfl (by kernel_rfl) (by kernel_rfl) (by kernel_rfl) (fun _ _ _ h => h) (yldV [(25, .pointer (some ⟨c, 0, none⟩))] (by kernel_rfl) rfl (by kernel_rfl) ?_) hH7 ?_
          · intro w hSw; go_simp
          dsimp only [List.set_cons_zero, List.set_cons_succ]
          refine takeD (i := 20) (d := 43) (v := .pointer (some ⟨c, 1, none⟩)) rfl rfl (by kernel_rfl) (by kernel_rfl) (by kernel_rfl) (fun _ _ _ h => h) (yldV [(42, .pointer (some ⟨c, 0, none⟩))] (by kernel_rfl) rfl (by kernel_rfl) ?_) hH7 ?_
          · intro w hSw; go_simp
          dsimp only [List.set_cons_zero, List.set_cons_succ]
          refine wpAnyH_ready (rs := [21]) (by kernel_rfl) (by simp) (AllReadyH.cons (o := _) rfl (fun K hK => ?_) AllReadyH.nil)
          go_simp
          have K6 := K5.set 0 rfl 1 (.slice a6 (n + 1) c6)
          have k6c0 := K6.cell 0 rfl 0 rfl; have k6c1 := K6.cell 0 rfl 1 rfl; have k6f0 := K6.free 0 rfl 0; have k6f1 := K6.free 0 rfl 1; have k6l := K6.lt 0 rfl
          refine hK.out _ _ ?_ (fun hH8 => ?_)
          · trivial
          clear hK K
          refine wpAnyH_done (by kernel_rfl) ?_ _
          go_wp2_with fail
          go_meet
          exact Lib.hid' ⟨a5, c5, a6, c6, ((((((((((((K6.drop 4).drop 3).focus 5 rfl).focus 5 rfl).focus 5 rfl).focus 9 rfl).focus 9 rfl).focus 9 rfl).focus 7 rfl).focus 8 rfl).focus 9 rfl).focus 9 rfl)⟩
      · skip
        go_simp
        have K2 := K1.allocAt (wd.heap.size + 1) [ptrV q] 79 (by simp)
        have k2c0 := K2.cell 5 rfl 0 rfl; have k2c1 := K2.cell 5 rfl 1 rfl; have k2f0 := K2.free 5 rfl 0; have k2f1 := K2.free 5 rfl 1; have k2l := K2.lt 5 rfl
        refine hK.out _ _ ?_ (fun hH2 => ?_)
        · trivial
        clear hK K
        try simp only [Act.put, List.getElem_toArray, List.getElem_cons_zero, List.getElem_cons_succ, List.setIfInBounds_toArray, List.set_cons_zero, List.set_cons_succ]
        refine wpAnyH_ready (rs := [5, 12]) (by kernel_rfl) (by simp) (AllReadyH.cons (o := _) rfl (fun K hK => ?_) (AllReadyH.cons (o := _) rfl (fun K hK => ?_) AllReadyH.nil))
        · skip
          go_simp
          refine hK.out _ _ ?_ (fun hH3 => ?_)
          · trivial
          clear hK K
          try simp only [Act.put, List.getElem_toArray, List.getElem_cons_zero, List.getElem_cons_succ, List.setIfInBounds_toArray, List.set_cons_zero, List.set_cons_succ]
          refine wpAnyH_ready (rs := [8, 12]) (by kernel_rfl) (by simp) (AllReadyH.cons (o := _) rfl (fun K hK => ?_) (AllReadyH.cons (o := _) rfl (fun K hK => ?_) AllReadyH.nil))
          · skip
            refine sep_appendAny etDisks rfl (.tmp 29) (.tmp 31) rfl [ptrV N] (slv_box K2 1 rfl) rfl K2 7 rfl rfl rfl (by intro x hx; simp only [List.mem_cons, List.not_mem_nil, or_false] at hx; subst hx; rfl) (by omega) ?_
            intro a5 c5 w5 K3
            have k3c0 := K3.cell 6 rfl 0 rfl; have k3c1 := K3.cell 6 rfl 1 rfl; have k3f0 := K3.free 6 rfl 0; have k3f1 := K3.free 6 rfl 1; have k3l := K3.lt 6 rfl
            refine hK.out _ _ ?_ (fun hH4 => ?_)
            · trivial
            clear hK K
            try simp only [Act.put, List.getElem_toArray, List.getElem_cons_zero, List.getElem_cons_succ, List.setIfInBounds_toArray, List.set_cons_zero, List.set_cons_succ]
            refine wpAnyH_ready (rs := [12]) (by kernel_rfl) (by simp) (AllReadyH.cons (o := _) rfl (fun K hK => ?_) AllReadyH.nil)
            go_simp
            refine hK.out _ _ ?_ (fun hH5 => ?_)
            · trivial
            clear hK K
            try simp only [Act.put, List.getElem_toArray, List.getElem_cons_zero, List.getElem_cons_succ, List.setIfInBounds_toArray, List.set_cons_zero, List.set_cons_succ]
            refine wpAnyH_ready (rs := [15]) (by kernel_rfl) (by simp) (AllReadyH.cons (o := _) rfl (fun K hK => ?_) AllReadyH.nil)
            refine sep_appendAny etShelves rfl (.tmp 36) (.tmp 38) rfl [ptrV q] (slv_box K3 1 rfl) rfl K3 8 rfl rfl rfl (by intro x hx; simp only [List.mem_cons, List.not_mem_nil, or_false] at hx; subst hx; rfl) (by omega) ?_
            intro a6 c6 w6 K4
            have k4c0 := K4.cell 7 rfl 0 rfl; have k4c1 := K4.cell 7 rfl 1 rfl; have k4f0 := K4.free 7 rfl 0; have k4f1 := K4.free 7 rfl 1; have k4l := K4.lt 7 rfl
            refine hK.out _ _ ?_ (fun hH6 => ?_)
            · trivial
            clear hK K
            try simp only [Act.put, List.getElem_toArray, List.getElem_cons_zero, List.getElem_cons_succ, List.setIfInBounds_toArray, List.set_cons_zero, List.set_cons_succ]
            refine takeD (i := 16) (d := 40) (v := .pointer (some ⟨c, 0, none⟩)) rfl rfl (by kernel_rfl) (by kernel_rfl) (by kernel_rfl) (fun _ _ _ h => h) (yldV [(24, .pointer (some ⟨c, 0, none⟩))] (by kernel_rfl) rfl (by kernel_rfl) ?_) hH6 ?_
            · intro w hSw; go_simp
            dsimp only [List.set_cons_zero, List.set_cons_succ]
            refine takeD (i := 17) (d := 41) (v := .pointer (some ⟨c, 0, none⟩)) rfl rfl (by kernel_rfl) (by kernel_rfl) (by kernel_rfl) (fun _ _ _ h => h) (yldV [(40, .pointer (some ⟨c, 0, none⟩))] (by kernel_rfl) rfl (by kernel_rfl) ?_) hH6 ?_
            · intro w hSw; go_simp
            dsimp only [List.set_cons_zero, List.set_cons_succ]
            refine wpAnyH_ready (rs := [18]) (by kernel_rfl) (by simp) (AllReadyH.cons (o := _) rfl (fun K hK => ?_) AllReadyH.nil)
            go_simp
            have K5 := K4.set 7 rfl 0 (.slice a5 (n + 1) c5)
            have k5c0 := K5.cell 0 rfl 0 rfl; have k5c1 := K5.cell 0 rfl 1 rfl; have k5f0 := K5.free 0 rfl 0; have k5f1 := K5.free 0 rfl 1; have k5l := K5.lt 0 rfl
            refine hK.out _ _ ?_ (fun hH7 => ?_)
            · trivial
            clear hK K
            try simp only [Act.put, List.getElem_toArray, List.getElem_cons_zero, List.getElem_cons_succ, List.setIfInBounds_toArray, List.set_cons_zero, List.set_cons_succ]
            refine takeD (i := 19) (d := 42) (v := .pointer (some ⟨c, 0, none⟩)) rfl rfl (by kernel_rfl) (by kernel_rfl) (by kernel_rfl) (fun _ _ _ h => h) (yldV [(25, .pointer (some ⟨c, 0, none⟩))] (by kernel_rfl) rfl (by kernel_rfl) ?_) hH7 ?_
            · intro w hSw; go_simp
            dsimp only [List.set_cons_zero, List.set_cons_succ]
            refine takeD (i := 20) (d := 43) (v := .pointer (some ⟨c, 1, none⟩)) rfl rfl (by kernel_rfl) (by kernel_rfl) (by kernel_rfl) (fun _ _ _ h => h) (yldV [(42, .pointer (some ⟨c, 0, none⟩))] (by kernel_rfl) rfl (by kernel_rfl) ?_) hH7 ?_
            · intro w hSw; go_simp
            dsimp only [List.set_cons_zero, List.set_cons_succ]
            refine wpAnyH_ready (rs := [21]) (by kernel_rfl) (by simp) (AllReadyH.cons (o := _) rfl (fun K hK => ?_) AllReadyH.nil)
            go_simp
            have K6 := K5.set 0 rfl 1 (.slice a6 (n + 1) c6)
            have k6c0 := K6.cell 0 rfl 0 rfl; have k6c1 := K6.cell 0 rfl 1 rfl; have k6f0 := K6.free 0 rfl 0; have k6f1 := K6.free 0 rfl 1; have k6l := K6.lt 0 rfl
            refine hK.out _ _ ?_ (fun hH8 => ?_)
            · trivial
            clear hK K
            refine wpAnyH_done (by kernel_rfl) ?_ _
            go_wp2_with fail
            go_meet
            exact Lib.hid' ⟨a5, c5, a6, c6, ((((((((((((K6.drop 4).drop 3).focus 5 rfl).focus 5 rfl).focus 5 rfl).focus 9 rfl).focus 9 rfl).focus 9 rfl).focus 7 rfl).focus 8 rfl).focus 9 rfl).focus 9 rfl)⟩
          · skip
            go_simp
            refine hK.out _ _ ?_ (fun hH4 => ?_)
            · trivial
            clear hK K
            try simp only [Act.put, List.getElem_toArray, List.getElem_cons_zero, List.getElem_cons_succ, List.setIfInBounds_toArray, List.set_cons_zero, List.set_cons_succ]
            refine wpAnyH_ready (rs := [8]) (by kernel_rfl) (by simp) (AllReadyH.cons (o := _) rfl (fun K hK => ?_) AllReadyH.nil)
            refine sep_appendAny etDisks rfl (.tmp 29) (.tmp 31) rfl [ptrV N] (slv_box K2 1 rfl) rfl K2 7 rfl rfl rfl (by intro x hx; simp only [List.mem_cons, List.not_mem_nil, or_false] at hx; subst hx; rfl) (by omega) ?_
            intro a5 c5 w5 K3
            have k3c0 := K3.cell 6 rfl 0 rfl; have k3c1 := K3.cell 6 rfl 1 rfl; have k3f0 := K3.free 6 rfl 0; have k3f1 := K3.free 6 rfl 1; have k3l := K3.lt 6 rfl
            refine hK.out _ _ ?_ (fun hH5 => ?_)
            · trivial
            clear hK K
            try simp only [Act.put, List.getElem_toArray, List.getElem_cons_zero, List.getElem_cons_succ, List.setIfInBounds_toArray, List.set_cons_zero, List.set_cons_succ]
            refine wpAnyH_ready (rs := [15]) (by kernel_rfl) (by simp) (AllReadyH.cons (o := _) rfl (fun K hK => ?_) AllReadyH.nil)
            refine sep_appendAny etShelves rfl (.tmp 36) (.tmp 38) rfl [ptrV q] (slv_box K3 1 rfl) rfl K3 8 rfl rfl rfl (by intro x hx; simp only [List.mem_cons, List.not_mem_nil, or_false] at hx; subst hx; rfl) (by omega) ?_
            intro a6 c6 w6 K4
            have k4c0 := K4.cell 7 rfl 0 rfl; have k4c1 := K4.cell 7 rfl 1 rfl; have k4f0 := K4.free 7 rfl 0; have k4f1 := K4.free 7 rfl 1; have k4l := K4.lt 7 rfl
            refine hK.out _ _ ?_ (fun hH6 => ?_)
            · trivial
            clear hK K
            try simp only [Act.put, List.getElem_toArray, List.getElem_cons_zero, List.getElem_cons_succ, List.setIfInBounds_toArray, List.set_cons_zero, List.set_cons_succ]
            refine takeD (i := 16) (d := 40) (v := .pointer (some ⟨c, 0, none⟩)) rfl rfl (by kernel_rfl) (by kernel_rfl) (by kernel_rfl) (fun _ _ _ h => h) (yldV [(24, .pointer (some ⟨c, 0, none⟩))] (by kernel_rfl) rfl (by kernel_rfl) ?_) hH6 ?_
            · intro w hSw; go_simp
            dsimp only [List.set_cons_zero, List.set_cons_succ]
            refine takeD (i := 17) (d := 41) (v := .pointer (some ⟨c, 0, none⟩)) rfl rfl (by kernel_rfl) (by kernel_rfl) (by kernel_rfl) (fun _ _ _ h => h) (yldV [(40, .pointer (some ⟨c, 0, none⟩))] (by kernel_rfl) rfl (by kernel_rfl) ?_) hH6 ?_
            · intro w hSw; go_simp
            dsimp only [List.set_cons_zero, List.set_cons_succ]
            refine wpAnyH_ready (rs := [18]) (by kernel_rfl) (by simp) (AllReadyH.cons (o := _) rfl (fun K hK => ?_) AllReadyH.nil)
            go_simp
            have K5 := K4.set 7 rfl 0 (.slice a5 (n + 1) c5)
            have k5c0 := K5.cell 0 rfl 0 rfl; have k5c1 := K5.cell 0 rfl 1 rfl; have k5f0 := K5.free 0 rfl 0; have k5f1 := K5.free 0 rfl 1; have k5l := K5.lt 0 rfl
            refine hK.out _ _ ?_ (fun hH7 => ?_)
            · trivial
            clear hK K
            try simp only [Act.put, List.getElem_toArray, List.getElem_cons_zero, List.getElem_cons_succ, List.setIfInBounds_toArray, List.set_cons_zero, List.set_cons_succ]
            refine takeD (i := 19) (d := 42) (v := .pointer (some ⟨c, 0, none⟩)) rfl rfl (by kernel_rfl) (by kernel_rfl) (by kernel_rfl) (fun _ _ _ h => h) (yldV [(25, .pointer (some ⟨c, 0, none⟩))] (by kernel_rfl) rfl (by kernel_rfl) ?_) hH7 ?_
            · intro w hSw; go_simp
            dsimp only [List.set_cons_zero, List.set_cons_succ]
            refine takeD (i := 20) (d := 43) (v := .pointer (some ⟨c, 1, none⟩)) rfl rfl (by kernel_rfl) (by kernel_rfl) (by kernel_rfl) (fun _ _ _ h => h) (yldV [(42, .pointer (some ⟨c, 0, none⟩))] (by kernel_rfl) rfl (by kernel_rfl) ?_) hH7 ?_
            · intro w hSw; go_simp
            dsimp only [List.set_cons_zero, List.set_cons_succ]
            refine wpAnyH_ready (rs := [21]) (by kernel_rfl) (by simp) (AllReadyH.cons (o := _) rfl (fun K hK => ?_) AllReadyH.nil)
            go_simp
            have K6 := K5.set 0 rfl 1 (.slice a6 (n + 1) c6)
            have k6c0 := K6.cell 0 rfl 0 rfl; have k6c1 := K6.cell 0 rfl 1 rfl; have k6f0 := K6.free 0 rfl 0; have k6f1 := K6.free 0 rfl 1; have k6l := K6.lt 0 rfl
            refine hK.out _ _ ?_ (fun hH8 => ?_)
            · trivial
            clear hK K
            refine wpAnyH_done (by kernel_rfl) ?_ _
            go_wp2_with fail
            go_meet
            exact Lib.hid' ⟨a5, c5, a6, c6, ((((((((((((K6.drop 4).drop 3).focus 5 rfl).focus 5 rfl).focus 5 rfl).focus 9 rfl).focus 9 rfl).focus 9 rfl).focus 7 rfl).focus 8 rfl).focus 9 rfl).focus 9 rfl)⟩
        · skip
          go_simp
          refine hK.out _ _ ?_ (fun hH3 => ?_)
          · trivial
          clear hK K
          try simp only [Act.put, List.getElem_toArray, List.getElem_cons_zero, List.getElem_cons_succ, List.setIfInBounds_toArray, List.set_cons_zero, List.set_cons_succ]
          refine wpAnyH_ready (rs := [5]) (by kernel_rfl) (by simp) (AllReadyH.cons (o := _) rfl (fun K hK => ?_) AllReadyH.nil)
          go_simp
          refine hK.out _ _ ?_ (fun hH4 => ?_)
          · trivial
          clear hK K
          try simp only [Act.put, List.getElem_toArray, List.getElem_cons_zero, List.getElem_cons_succ, List.setIfInBounds_toArray, List.set_cons_zero, List.set_cons_succ]
          refine wpAnyH_ready (rs := [8]) (by kernel_rfl) (by simp) (AllReadyH.cons (o := _) rfl (fun K hK => ?_) AllReadyH.nil)
          refine sep_appendAny etDisks rfl (.tmp 29) (.tmp 31) rfl [ptrV N] (slv_box K2 1 rfl) rfl K2 7 rfl rfl rfl (by intro x hx; simp only [List.mem_cons, List.not_mem_nil, or_false] at hx; subst hx; rfl) (by omega) ?_
          intro a5 c5 w5 K3
          have k3c0 := K3.cell 6 rfl 0 rfl; have k3c1 := K3.cell 6 rfl 1 rfl; have k3f0 := K3.free 6 rfl 0; have k3f1 := K3.free 6 rfl 1; have k3l := K3.lt 6 rfl
          refine hK.out _ _ ?_ (fun hH5 => ?_)
          · trivial
          clear hK K
          try simp only [Act.put, List.getElem_toArray, List.getElem_cons_zero, List.getElem_cons_succ, List.setIfInBounds_toArray, List.set_cons_zero, List.set_cons_succ]
          refine wpAnyH_ready (rs := [15]) (by kernel_rfl) (by simp) (AllReadyH.cons (o := _) rfl (fun K hK => ?_) AllReadyH.nil)
          refine sep_appendAny etShelves rfl (.tmp 36) (.tmp 38) rfl [ptrV q] (slv_box K3 1 rfl) rfl K3 8 rfl rfl rfl (by intro x hx; simp only [List.mem_cons, List.not_mem_nil, or_false] at hx; subst hx; rfl) (by omega) ?_
          intro a6 c6 w6 K4
          have k4c0 := K4.cell 7 rfl 0 rfl; have k4c1 := K4.cell 7 rfl 1 rfl; have k4f0 := K4.free 7 rfl 0; have k4f1 := K4.free 7 rfl 1; have k4l := K4.lt 7 rfl
          refine hK.out _ _ ?_ (fun hH6 => ?_)
          · trivial
          clear hK K
          try simp only [Act.put, List.getElem_toArray, List.getElem_cons_zero, List.getElem_cons_succ, List.setIfInBounds_toArray, List.set_cons_zero, List.set_cons_succ]
          refine takeD (i := 16) (d := 40) (v := .pointer (some ⟨c, 0, none⟩)) rfl rfl (by kernel_rfl) (by kernel_rfl) (by kernel_rfl) (fun _ _ _ h => h) (yldV [(24, .pointer (some ⟨c, 0, none⟩))] (by kernel_rfl) rfl (by kernel_rfl) ?_) hH6 ?_
          · intro w hSw; go_simp
          dsimp only [List.set_cons_zero, List.set_cons_succ]
          refine takeD (i := 17) (d := 41) (v := .pointer (some ⟨c, 0, none⟩)) rfl rfl (by kernel_rfl) (by kernel_rfl) (by kernel_rfl) (fun _ _ _ h => h) (yldV [(40, .pointer (some ⟨c, 0, none⟩))] (by kernel_rfl) rfl (by kernel_rfl) ?_) hH6 ?_
          · intro w hSw; go_simp
          dsimp only [List.set_cons_zero, List.set_cons_succ]
          refine wpAnyH_ready (rs := [18]) (by kernel_rfl) (by simp) (AllReadyH.cons (o := _) rfl (fun K hK => ?_) AllReadyH.nil)
          go_simp
          have K5 := K4.set 7 rfl 0 (.slice a5 (n + 1) c5)
          have k5c0 := K5.cell 0 rfl 0 rfl; have k5c1 := K5.cell 0 rfl 1 rfl; have k5f0 := K5.free 0 rfl 0; have k5f1 := K5.free 0 rfl 1; have k5l := K5.lt 0 rfl
          refine hK.out _ _ ?_ (fun hH7 => ?_)
          · trivial
          clear hK K
          try simp only [Act.put, List.getElem_toArray, List.getElem_cons_zero, List.getElem_cons_succ, List.setIfInBounds_toArray, List.set_cons_zero, List.set_cons_succ]
          refine takeD (i := 19) (d := 42) (v := .pointer (some ⟨c, 0, none⟩)) rfl rfl (by kernel_rfl) (by kernel_rfl) (by kernel_rfl) (fun _ _ _ h => h) (yldV [(25, .pointer (some ⟨c, 0, none⟩))] (by kernel_rfl) rfl (by kernel_rfl) ?_) hH7 ?_
          · intro w hSw; go_simp
          dsimp only [List.set_cons_zero, List.set_cons_succ]
          refine takeD (i := 20) (d := 43) (v := .pointer (some ⟨c, 1, none⟩)) rfl rfl (by kernel_rfl) (by kernel_rfl) (by kernel_rfl) (fun _ _ _ h => h) (yldV [(42, .pointer (some ⟨c, 0, none⟩))] (by kernel_rfl) rfl (by kernel_rfl) ?_) hH7 ?_
          · intro w hSw; go_simp
          dsimp only [List.set_cons_zero, List.set_cons_succ]
          refine wpAnyH_ready (rs := [21]) (by kernel_rfl) (by simp) (AllReadyH.cons (o := _) rfl (fun K hK => ?_) AllReadyH.nil)
          go_simp
          have K6 := K5.set 0 rfl 1 (.slice a6 (n + 1) c6)
          have k6c0 := K6.cell 0 rfl 0 rfl; have k6c1 := K6.cell 0 rfl 1 rfl; have k6f0 := K6.free 0 rfl 0; have k6f1 := K6.free 0 rfl 1; have k6l := K6.lt 0 rfl
          refine hK.out _ _ ?_ (fun hH8 => ?_)
          · trivial
          clear hK K
          refine wpAnyH_done (by kernel_rfl) ?_ _
          go_wp2_with fail
          go_meet
          exact Lib.hid' ⟨a5, c5, a6, c6, ((((((((((((K6.drop 4).drop 3).focus 5 rfl).focus 5 rfl).focus 5 rfl).focus 9 rfl).focus 9 rfl).focus 9 rfl).focus 7 rfl).focus 8 rfl).focus 9 rfl).focus 9 rfl)⟩
    · skip
      go_simp
      refine hK.out _ _ ?_ (fun hH1 => ?_)
      · trivial
      clear hK K
      try simp only [Act.put, List.getElem_toArray, List.getElem_cons_zero, List.getElem_cons_succ, List.setIfInBounds_toArray, List.set_cons_zero, List.set_cons_succ]
      refine wpAnyH_ready (rs := [5, 7, 14]) (by kernel_rfl) (by simp) (AllReadyH.cons (o := _) rfl (fun K hK => ?_) (AllReadyH.cons (o := _) rfl (fun K hK => ?_) (AllReadyH.cons (o := _) rfl (fun K hK => ?_) AllReadyH.nil)))
      · skip
        go_simp
        refine hK.out _ _ ?_ (fun hH2 => ?_)
        · trivial
        clear hK K
        try simp only [Act.put, List.getElem_toArray, List.getElem_cons_zero, List.getElem_cons_succ, List.setIfInBounds_toArray, List.set_cons_zero, List.set_cons_succ]
        refine wpAnyH_ready (rs := [7, 14]) (by kernel_rfl) (by simp) (AllReadyH.cons (o := _) rfl (fun K hK => ?_) (AllReadyH.cons (o := _) rfl (fun K hK => ?_) AllReadyH.nil))
        · skip
          go_simp
          have K1 := K0.allocAt (wd.heap.size) [ptrV N] 50 (by simp)
          have k1c0 := K1.cell 4 rfl 0 rfl; have k1c1 := K1.cell 4 rfl 1 rfl; have k1f0 := K1.free 4 rfl 0; have k1f1 := K1.free 4 rfl 1; have k1l := K1.lt 4 rfl
          refine hK.out _ _ ?_ (fun hH3 => ?_)
          · trivial
          clear hK K
          try simp only [Act.put, List.getElem_toArray, List.getElem_cons_zero, List.getElem_cons_succ, List.setIfInBounds_toArray, List.set_cons_zero, List.set_cons_succ]
          refine wpAnyH_ready (rs := [8, 14]) (by kernel_rfl) (by simp) (AllReadyH.cons (o := _) rfl (fun K hK => ?_) (AllReadyH.cons (o := _) rfl (fun K hK => ?_) AllReadyH.nil))
          · skip
            refine sep_appendAny etDisks rfl (.tmp 29) (.tmp 31) rfl [ptrV N] (slv_box K1 0 rfl) rfl K1 6 rfl rfl rfl (by intro x hx; simp only [List.mem_cons, List.not_mem_nil, or_false] at hx; subst hx; rfl) (by omega) ?_
            intro a5 c5 w5 K2
            have k2c0 := K2.cell 5 rfl 0 rfl; have k2c1 := K2.cell 5 rfl 1 rfl; have k2f0 := K2.free 5 rfl 0; have k2f1 := K2.free 5 rfl 1; have k2l := K2.lt 5 rfl
            refine hK.out _ _ ?_ (fun hH4 => ?_)
            · trivial
            clear hK K
            try simp only [Act.put, List.getElem_toArray, List.getElem_cons_zero, List.getElem_cons_succ, List.setIfInBounds_toArray, List.set_cons_zero, List.set_cons_succ]
            refine wpAnyH_ready (rs := [14]) (by kernel_rfl) (by simp) (AllReadyH.cons (o := _) rfl (fun K hK => ?_) AllReadyH.nil)
            go_simp
            have K3 := K2.allocAt (w5.heap.size) [ptrV q] 79 (by simp)
            have k3c0 := K3.cell 6 rfl 0 rfl; have k3c1 := K3.cell 6 rfl 1 rfl; have k3f0 := K3.free 6 rfl 0; have k3f1 := K3.free 6 rfl 1; have k3l := K3.lt 6 rfl
            refine hK.out _ _ ?_ (fun hH5 => ?_)
            · trivial
            clear hK K
            try simp only [Act.put, List.getElem_toArray, List.getElem_cons_zero, List.getElem_cons_succ, List.setIfInBounds_toArray, List.set_cons_zero, List.set_cons_succ]
            refine wpAnyH_ready (rs := [15]) (by kernel_rfl) (by simp) (AllReadyH.cons (o := _) rfl (fun K hK => ?_) AllReadyH.nil)
            refine sep_appendAny etShelves rfl (.tmp 36) (.tmp 38) rfl [ptrV q] (slv_box K3 0 rfl) rfl K3 8 rfl rfl rfl (by intro x hx; simp only [List.mem_cons, List.not_mem_nil, or_false] at hx; subst hx; rfl) (by omega) ?_
            intro a6 c6 w6 K4
            have k4c0 := K4.cell 7 rfl 0 rfl; have k4c1 := K4.cell 7 rfl 1 rfl; have k4f0 := K4.free 7 rfl 0; have k4f1 := K4.free 7 rfl 1; have k4l := K4.lt 7 rfl
            refine hK.out _ _ ?_ (fun hH6 => ?_)
            · trivial
            clear hK K
            try simp only [Act.put, List.getElem_toArray, List.getElem_cons_zero, List.getElem_cons_succ, List.setIfInBounds_toArray, List.set_cons_zero, List.set_cons_succ]
            refine takeD (i := 16) (d := 40) (v := .pointer (some ⟨c, 0, none⟩)) rfl rfl (by kernel_rfl) (by kernel_rfl) (by kernel_rfl) (fun _ _ _ h => h) (yldV [(24, .pointer (some ⟨c, 0, none⟩))] (by kernel_rfl) rfl (by kernel_rfl) ?_) hH6 ?_
            · intro w hSw; go_simp
            dsimp only [List.set_cons_zero, List.set_cons_succ]
            refine takeD (i := 17) (d := 41) (v := .pointer (some ⟨c, 0, none⟩)) rfl rfl (by kernel_rfl) (by kernel_rfl) (by kernel_rfl) (fun _ _ _ h => h) (yldV [(40, .pointer (some ⟨c, 0, none⟩))] (by kernel_rfl) rfl (by kernel_rfl) ?_) hH6 ?_
            · intro w hSw; go_simp
            dsimp only [List.set_cons_zero, List.set_cons_succ]
            refine wpAnyH_ready (rs := [18]) (by kernel_rfl) (by simp) (AllReadyH.cons (o := _) rfl (fun K hK => ?_) AllReadyH.nil)
            go_simp
            have K5 := K4.set 7 rfl 0 (.slice a5 (n + 1) c5)
            have k5c0 := K5.cell 0 rfl 0 rfl; have k5c1 := K5.cell 0 rfl 1 rfl; have k5f0 := K5.free 0 rfl 0; have k5f1 := K5.free 0 rfl 1; have k5l := K5.lt 0 rfl
            refine hK.out _ _ ?_ (fun hH7 => ?_)
            · trivial
            clear hK K
            try simp only [Act.put, List.getElem_toArray, List.getElem_cons_zero, List.getElem_cons_succ, List.setIfInBounds_toArray, List.set_cons_zero, List.set_cons_succ]
            refine takeD (i := 19) (d := 42) (v := .pointer (some ⟨c, 0, none⟩)) rfl rfl (by kernel_rfl) (by kernel_rfl) (by kernel_rfl) (fun _ _ _ h => h) (yldV [(25, .pointer (some ⟨c, 0, none⟩))] (by kernel_rfl) rfl (by kernel_rfl) ?_) hH7 ?_
            · intro w hSw; go_simp
            dsimp only [List.set_cons_zero, List.set_cons_succ]
            refine takeD (i := 20) (d := 43) (v := .pointer (some ⟨c, 1, none⟩)) rfl rfl (by kernel_rfl) (by kernel_rfl) (by kernel_rfl) (fun _ _ _ h => h) (yldV [(42, .pointer (some ⟨c, 0, none⟩))] (by kernel_rfl) rfl (by kernel_rfl) ?_) hH7 ?_
            · intro w hSw; go_simp
            dsimp only [List.set_cons_zero, List.set_cons_succ]
            refine wpAnyH_ready (rs := [21]) (by kernel_rfl) (by simp) (AllReadyH.cons (o := _) rfl (fun K hK => ?_) AllReadyH.nil)
            go_simp
            have K6 := K5.set 0 rfl 1 (.slice a6 (n + 1) c6)
            have k6c0 := K6.cell 0 rfl 0 rfl; have k6c1 := K6.cell 0 rfl 1 rfl; have k6f0 := K6.free 0 rfl 0; have k6f1 := K6.free 0 rfl 1; have k6l := K6.lt 0 rfl
            refine hK.out _ _ ?_ (fun hH8 => ?_)
            · trivial
            clear hK K
            refine wpAnyH_done (by kernel_rfl) ?_ _
            go_wp2_with fail
            go_meet
            exact Lib.hid' ⟨a5, c5, a6, c6, ((((((((((((K6.drop 4).drop 2).focus 5 rfl).focus 5 rfl).focus 5 rfl).focus 9 rfl).focus 9 rfl).focus 9 rfl).focus 7 rfl).focus 8 rfl).focus 9 rfl).focus 9 rfl)⟩
          · skip
            go_simp
            have K2 := K1.allocAt (wd.heap.size + 1) [ptrV q] 79 (by simp)
            have k2c0 := K2.cell 5 rfl 0 rfl; have k2c1 := K2.cell 5 rfl 1 rfl; have k2f0 := K2.free 5 rfl 0; have k2f1 := K2.free 5 rfl 1; have k2l := K2.lt 5 rfl
            refine hK.out _ _ ?_ (fun hH4 => ?_)
            · trivial
            clear hK K
            try simp only [Act.put, List.getElem_toArray, List.getElem_cons_zero, List.getElem_cons_succ, List.setIfInBounds_toArray, List.set_cons_zero, List.set_cons_succ]
            refine wpAnyH_ready (rs := [8]) (by kernel_rfl) (by simp) (AllReadyH.cons (o := _) rfl (fun K hK => ?_) AllReadyH.nil)
            refine sep_appendAny etDisks rfl (.tmp 29) (.tmp 31) rfl [ptrV N] (slv_box K2 1 rfl) rfl K2 7 rfl rfl rfl (by intro x hx; simp only [List.mem_cons, List.not_mem_nil, or_false] at hx; subst hx; rfl) (by omega) ?_
            intro a5 c5 w5 K3
            have k3c0 := K3.cell 6 rfl 0 rfl; have k3c1 := K3.cell 6 rfl 1 rfl; have k3f0 := K3.free 6 rfl 0; have k3f1 := K3.free 6 rfl 1; have k3l := K3.lt 6 rfl
            refine hK.out _ _ ?_ (fun hH5 => ?_)
            · trivial
            clear hK K
            try simp only [Act.put, List.getElem_toArray, List.getElem_cons_zero, List.getElem_cons_succ, List.setIfInBounds_toArray, List.set_cons_zero, List.set_cons_succ]
            refine wpAnyH_ready (rs := [15]) (by kernel_rfl) (by simp) (AllReadyH.cons (o := _) rfl (fun K hK => ?_) AllReadyH.nil)
            refine sep_appendAny etShelves rfl (.tmp 36) (.tmp 38) rfl [ptrV q] (slv_box K3 1 rfl) rfl K3 8 rfl rfl rfl (by intro x hx; simp only [List.mem_cons, List.not_mem_nil, or_false] at hx; subst hx; rfl) (by omega) ?_
            intro a6 c6 w6 K4
            have k4c0 := K4.cell 7 rfl 0 rfl; have k4c1 := K4.cell 7 rfl 1 rfl; have k4f0 := K4.free 7 rfl 0; have k4f1 := K4.free 7 rfl 1; have k4l := K4.lt 7 rfl
            refine hK.out _ _ ?_ (fun hH6 => ?_)
            · trivial
            clear hK K
            try simp only [Act.put, List.getElem_toArray, List.getElem_cons_zero, List.getElem_cons_succ, List.setIfInBounds_toArray, List.set_cons_zero, List.set_cons_succ]
            refine takeD (i := 16) (d := 40) (v := .pointer (some ⟨c, 0, none⟩)) rfl rfl (by kernel_rfl) (by kernel_rfl) (by kernel_rfl) (fun _ _ _ h => h) (yldV [(24, .pointer (some ⟨c, 0, none⟩))] (by kernel_rfl) rfl (by kernel_rfl) ?_) hH6 ?_
            · intro w hSw; go_simp
            dsimp only [List.set_cons_zero, List.set_cons_succ]
            refine takeD (i := 17) (d := 41) (v := .pointer (some ⟨c, 0, none⟩)) rfl rfl (by kernel_rfl) (by kernel_rfl) (by kernel_rfl) (fun _ _ _ h => h) (yldV [(40, .pointer (some ⟨c, 0, none⟩))] (by kernel_rfl) rfl (by kernel_rfl) ?_) hH6 ?_
            · intro w hSw; go_simp
            dsimp only [List.set_cons_zero, List.set_cons_succ]
            refine wpAnyH_ready (rs := [18]) (by kernel_rfl) (by simp) (AllReadyH.cons (o := _) rfl (fun K hK => ?_) AllReadyH.nil)
            go_simp
            have K5 := K4.set 7 rfl 0 (.slice a5 (n + 1) c5)
            have k5c0 := K5.cell 0 rfl 0 rfl; have k5c1 := K5.cell 0 rfl 1 rfl; have k5f0 := K5.free 0 rfl 0; have k5f1 := K5.free 0 rfl 1; have k5l := K5.lt 0 rfl
            refine hK.out _ _ ?_ (fun hH7 => ?_)
            · trivial
            clear hK K
            try simp only [Act.put, List.getElem_toArray, List.getElem_cons_zero, List.getElem_cons_succ, List.setIfInBounds_toArray, List.set_cons_zero, List.set_cons_succ]
            refine takeD (i := 19) (d := 42) (v := .pointer (some ⟨c, 0, none⟩)) rfl rfl (by kernel_rfl) (by kernel_rfl) (by kernel_rfl) (fun _ _ _ h => h) (yldV [(25, .pointer (some ⟨c, 0, none⟩))] (by kernel_rfl) rfl (by kernel_rfl) ?_) hH7 ?_
            · intro w hSw; go_simp
            dsimp only [List.set_cons_zero, List.set_cons_succ]
            refine takeD (i := 20) (d := 43) (v := .pointer (some ⟨c, 1, none⟩)) rfl rfl (by kernel_rfl) (by kernel_rfl) (by kernel_rfl) (fun _ _ _ h => h) (yldV [(42, .pointer (some ⟨c, 0, none⟩))] (by kernel_rfl) rfl (by kernel_rfl) ?_) hH7 ?_
            · intro w hSw; go_simp
            dsimp only [List.set_cons_zero, List.set_cons_succ]
            refine wpAnyH_ready (rs := [21]) (by kernel_rfl) (by simp) (AllReadyH.cons (o := _) rfl (fun K hK => ?_) AllReadyH.nil)
            go_simp
            have K6 := K5.set 0 rfl 1 (.slice a6 (n + 1) c6)
            have k6c0 := K6.cell 0 rfl 0 rfl; have k6c1 := K6.cell 0 rfl 1 rfl; have k6f0 := K6.free 0 rfl 0; have k6f1 := K6.free 0 rfl 1; have k6l := K6.lt 0 rfl
            refine hK.out _ _ ?_ (fun hH8 => ?_)
            · trivial
            clear hK K
            refine wpAnyH_done (by kernel_rfl) ?_ _
            go_wp2_with fail
            go_meet
            exact Lib.hid' ⟨a5, c5, a6, c6, ((((((((((((K6.drop 4).drop 3).focus 5 rfl).focus 5 rfl).focus 5 rfl).focus 9 rfl).focus 9 rfl).focus 9 rfl).focus 7 rfl).focus 8 rfl).focus 9 rfl).focus 9 rfl)⟩
        · skip
          go_simp
          have K1 := K0.allocAt (wd.heap.size) [ptrV q] 79 (by simp)
          have k1c0 := K1.cell 4 rfl 0 rfl; have k1c1 := K1.cell 4 rfl 1 rfl; have k1f0 := K1.free 4 rfl 0; have k1f1 := K1.free 4 rfl 1; have k1l := K1.lt 4 rfl
          refine hK.out _ _ ?_ (fun hH3 => ?_)
          · trivial
          clear hK K
          try simp only [Act.put, List.getElem_toArray, List.getElem_cons_zero, List.getElem_cons_succ, List.setIfInBounds_toArray, List.set_cons_zero, List.set_cons_succ]
          refine wpAnyH_ready (rs := [7]) (by kernel_rfl) (by simp) (AllReadyH.cons (o := _) rfl (fun K hK => ?_) AllReadyH.nil)
          go_simp
          have K2 := K1.allocAt (wd.heap.size + 1) [ptrV N] 50 (by simp)
          have k2c0 := K2.cell 5 rfl 0 rfl; have k2c1 := K2.cell 5 rfl 1 rfl; have k2f0 := K2.free 5 rfl 0; have k2f1 := K2.free 5 rfl 1; have k2l := K2.lt 5 rfl
          refine hK.out _ _ ?_ (fun hH4 => ?_)
          · trivial
          clear hK K
          try simp only [Act.put, List.getElem_toArray, List.getElem_cons_zero, List.getElem_cons_succ, List.setIfInBounds_toArray, List.set_cons_zero, List.set_cons_succ]
          refine wpAnyH_ready (rs := [8]) (by kernel_rfl) (by simp) (AllReadyH.cons (o := _) rfl (fun K hK => ?_) AllReadyH.nil)
          refine sep_appendAny etDisks rfl (.tmp 29) (.tmp 31) rfl [ptrV N] (slv_box K2 0 rfl) rfl K2 7 rfl rfl rfl (by intro x hx; simp only [List.mem_cons, List.not_mem_nil, or_false] at hx; subst hx; rfl) (by omega) ?_
          intro a5 c5 w5 K3
          have k3c0 := K3.cell 6 rfl 0 rfl; have k3c1 := K3.cell 6 rfl 1 rfl; have k3f0 := K3.free 6 rfl 0; have k3f1 := K3.free 6 rfl 1; have k3l := K3.lt 6 rfl
          refine hK.out _ _ ?_ (fun hH5 => ?_)
          · trivial
          clear hK K
          try simp only [Act.put, List.getElem_toArray, List.getElem_cons_zero, List.getElem_cons_succ, List.setIfInBounds_toArray, List.set_cons_zero, List.set_cons_succ]
          refine wpAnyH_ready (rs := [15]) (by kernel_rfl) (by simp) (AllReadyH.cons (o := _) rfl (fun K hK => ?_) AllReadyH.nil)
          refine sep_appendAny etShelves rfl (.tmp 36) (.tmp 38) rfl [ptrV q] (slv_box K3 2 rfl) rfl K3 8 rfl rfl rfl (by intro x hx; simp only [List.mem_cons, List.not_mem_nil, or_false] at hx; subst hx; rfl) (by omega) ?_
          intro a6 c6 w6 K4
          have k4c0 := K4.cell 7 rfl 0 rfl; have k4c1 := K4.cell 7 rfl 1 rfl; have k4f0 := K4.free 7 rfl 0; have k4f1 := K4.free 7 rfl 1; have k4l := K4.lt 7 rfl
          refine hK.out _ _ ?_ (fun hH6 => ?_)
          · trivial
          clear hK K
          try simp only [Act.put, List.getElem_toArray, List.getElem_cons_zero, List.getElem_cons_succ, List.setIfInBounds_toArray, List.set_cons_zero, List.set_cons_succ]
          refine takeD (i := 16) (d := 40) (v := .pointer (some ⟨c, 0, none⟩)) rfl rfl (by kernel_rfl) (by kernel_rfl) (by kernel_rfl) (fun _ _ _ h => h) (yldV [(24, .pointer (some ⟨c, 0, none⟩))] (by kernel_rfl) rfl (by kernel_rfl) ?_) hH6 ?_
          · intro w hSw; go_simp
          dsimp only [List.set_cons_zero, List.set_cons_succ]
          refine takeD (i := 17) (d := 41) (v := .pointer (some ⟨c, 0, none⟩)) rfl rfl (by kernel_rfl) (by kernel_rfl) (by kernel_rfl) (fun _ _ _ h => h) (yldV [(40, .pointer (some ⟨c, 0, none⟩))] (by kernel_rfl) rfl (by kernel_rfl) ?_) hH6 ?_
          · intro w hSw; go_simp
          dsimp only [List.set_cons_zero, List.set_cons_succ]
          refine wpAnyH_ready (rs := [18]) (by kernel_rfl) (by simp) (AllReadyH.cons (o := _) rfl (fun K hK => ?_) AllReadyH.nil)
          go_simp
          have K5 := K4.set 7 rfl 0 (.slice a5 (n + 1) c5)
          have k5c0 := K5.cell 0 rfl 0 rfl; have k5c1 := K5.cell 0 rfl 1 rfl; have k5f0 := K5.free 0 rfl 0; have k5f1 := K5.free 0 rfl 1; have k5l := K5.lt 0 rfl
          refine hK.out _ _ ?_ (fun hH7 => ?_)
          · trivial
          clear hK K
          try simp only [Act.put, List.getElem_toArray, List.getElem_cons_zero, List.getElem_cons_succ, List.setIfInBounds_toArray, List.set_cons_zero, List.set_cons_succ]
          refine takeD (i := 19) (d := 42) (v := .pointer (some ⟨c, 0, none⟩)) rfl rfl (by kernel_rfl) (by kernel_rfl) (by kernel_rfl) (fun _ _ _ h => h) (yldV [(25, .pointer (some ⟨c, 0, none⟩))] (by kernel_rfl) rfl (by kernel_rfl) ?_) hH7 ?_
          · intro w hSw; go_simp
          dsimp only [List.set_cons_zero, List.set_cons_succ]
          refine takeD (i := 20) (d := 43) (v := .pointer (some ⟨c, 1, none⟩)) rfl rfl (by kernel_rfl) (by kernel_rfl) (by kernel_rfl) (fun _ _ _ h => h) (yldV [(42, .pointer (some ⟨c, 0, none⟩))] (by kernel_rfl) rfl (by kernel_rfl) ?_) hH7 ?_
          · intro w hSw; go_simp
          dsimp only [List.set_cons_zero, List.set_cons_succ]
          refine wpAnyH_ready (rs := [21]) (by kernel_rfl) (by simp) (AllReadyH.cons (o := _) rfl (fun K hK => ?_) AllReadyH.nil)
          go_simp
          have K6 := K5.set 0 rfl 1 (.slice a6 (n + 1) c6)
          have k6c0 := K6.cell 0 rfl 0 rfl; have k6c1 := K6.cell 0 rfl 1 rfl; have k6f0 := K6.free 0 rfl 0; have k6f1 := K6.free 0 rfl 1; have k6l := K6.lt 0 rfl
          refine hK.out _ _ ?_ (fun hH8 => ?_)
          · trivial
          clear hK K
          refine wpAnyH_done (by kernel_rfl) ?_ _
          go_wp2_with fail
          go_meet
          exact Lib.hid' ⟨a5, c5, a6, c6, ((((((((((((K6.drop 3).drop 3).focus 5 rfl).focus 5 rfl).focus 5 rfl).focus 9 rfl).focus 9 rfl).focus 9 rfl).focus 7 rfl).focus 8 rfl).focus 9 rfl).focus 9 rfl)⟩
      · skip
        go_simp
        have K1 := K0.allocAt (wd.heap.size) [ptrV N] 50 (by simp)
        have k1c0 := K1.cell 4 rfl 0 rfl; have k1c1 := K1.cell 4 rfl 1 rfl; have k1f0 := K1.free 4 rfl 0; have k1f1 := K1.free 4 rfl 1; have k1l := K1.lt 4 rfl
        refine hK.out _ _ ?_ (fun hH2 => ?_)
        · trivial
        clear hK K
        try simp only [Act.put, List.getElem_toArray, List.getElem_cons_zero, List.getElem_cons_succ, List.setIfInBounds_toArray, List.set_cons_zero, List.set_cons_succ]
        refine wpAnyH_ready (rs := [5, 14]) (by kernel_rfl) (by simp) (AllReadyH.cons (o := _) rfl (fun K hK => ?_) (AllReadyH.cons (o := _) rfl (fun K hK => ?_) AllReadyH.nil))
        · skip
          go_simp
          refine hK.out _ _ ?_ (fun hH3 => ?_)
          · trivial
          clear hK K
          try simp only [Act.put, List.getElem_toArray, List.getElem_cons_zero, List.getElem_cons_succ, List.setIfInBounds_toArray, List.set_cons_zero, List.set_cons_succ]
          refine wpAnyH_ready (rs := [8, 14]) (by kernel_rfl) (by simp) (AllReadyH.cons (o := _) rfl (fun K hK => ?_) (AllReadyH.cons (o := _) rfl (fun K hK => ?_) AllReadyH.nil))
          · skip
            refine sep_appendAny etDisks rfl (.tmp 29) (.tmp 31) rfl [ptrV N] (slv_box K1 0 rfl) rfl K1 6 rfl rfl rfl (by intro x hx; simp only [List.mem_cons, List.not_mem_nil, or_false] at hx; subst hx; rfl) (by omega) ?_
            intro a5 c5 w5 K2
            have k2c0 := K2.cell 5 rfl 0 rfl; have k2c1 := K2.cell 5 rfl 1 rfl; have k2f0 := K2.free 5 rfl 0; have k2f1 := K2.free 5 rfl 1; have k2l := K2.lt 5 rfl
            refine hK.out _ _ ?_ (fun hH4 => ?_)
            · trivial
            clear hK K
            try simp only [Act.put, List.getElem_toArray, List.getElem_cons_zero, List.getElem_cons_succ, List.setIfInBounds_toArray, List.set_cons_zero, List.set_cons_succ]
            refine wpAnyH_ready (rs := [14]) (by kernel_rfl) (by simp) (AllReadyH.cons (o := _) rfl (fun K hK => ?_) AllReadyH.nil)
            go_simp
            have K3 := K2.allocAt (w5.heap.size) [ptrV q] 79 (by simp)
            have k3c0 := K3.cell 6 rfl 0 rfl; have k3c1 := K3.cell 6 rfl 1 rfl; have k3f0 := K3.free 6 rfl 0; have k3f1 := K3.free 6 rfl 1; have k3l := K3.lt 6 rfl
            refine hK.out _ _ ?_ (fun hH5 => ?_)
            · trivial
            clear hK K
            try simp only [Act.put, List.getElem_toArray, List.getElem_cons_zero, List.getElem_cons_succ, List.setIfInBounds_toArray, List.set_cons_zero, List.set_cons_succ]
            refine wpAnyH_ready (rs := [15]) (by kernel_rfl) (by simp) (AllReadyH.cons (o := _) rfl (fun K hK => ?_) AllReadyH.nil)
            refine sep_appendAny etShelves rfl (.tmp 36) (.tmp 38) rfl [ptrV q] (slv_box K3 0 rfl) rfl K3 8 rfl rfl rfl (by intro x hx; simp only [List.mem_cons, List.not_mem_nil, or_false] at hx; subst hx; rfl) (by omega) ?_
            intro a6 c6 w6 K4
            have k4c0 := K4.cell 7 rfl 0 rfl; have k4c1 := K4.cell 7 rfl 1 rfl; have k4f0 := K4.free 7 rfl 0; have k4f1 := K4.free 7 rfl 1; have k4l := K4.lt 7 rfl
            refine hK.out _ _ ?_ (fun hH6 => ?_)
            · trivial
            clear hK K
            try simp only [Act.put, List.getElem_toArray, List.getElem_cons_zero, List.getElem_cons_succ, List.setIfInBounds_toArray, List.set_cons_zero, List.set_cons_succ]
            refine takeD (i := 16) (d := 40) (v := .pointer (some ⟨c, 0, none⟩)) rfl rfl (by kernel_rfl) (by kernel_rfl) (by kernel_rfl) (fun _ _ _ h => h) (yldV [(24, .pointer (some ⟨c, 0, none⟩))] (by kernel_rfl) rfl (by kernel_rfl) ?_) hH6 ?_
            · intro w hSw; go_simp
            dsimp only [List.set_cons_zero, List.set_cons_succ]
            refine takeD (i := 17) (d := 41) (v := .pointer (some ⟨c, 0, none⟩)) rfl rfl (by kernel_rfl) (by kernel_rfl) (by kernel_rfl) (fun _ _ _ h => h) (yldV [(40, .pointer (some ⟨c, 0, none⟩))] (by kernel_rfl) rfl (by kernel_rfl) ?_) hH6 ?_
            · intro w hSw; go_simp
            dsimp only [List.set_cons_zero, List.set_cons_succ]
            refine wpAnyH_ready (rs := [18]) (by kernel_rfl) (by simp) (AllReadyH.cons (o := _) rfl (fun K hK => ?_) AllReadyH.nil)
            go_simp
            have K5 := K4.set 7 rfl 0 (.slice a5 (n + 1) c5)
            have k5c0 := K5.cell 0 rfl 0 rfl; have k5c1 := K5.cell 0 rfl 1 rfl; have k5f0 := K5.free 0 rfl 0; have k5f1 := K5.free 0 rfl 1; have k5l := K5.lt 0 rfl
            refine hK.out _ _ ?_ (fun hH7 => ?_)
            · trivial
            clear hK K
            try simp only [Act.put, List.getElem_toArray, List.getElem_cons_zero, List.getElem_cons_succ, List.setIfInBounds_toArray, List.set_cons_zero, List.set_cons_succ]
            refine takeD (i := 19) (d := 42) (v := .pointer (some ⟨c, 0, none⟩)) rfl rfl (by kernel_rfl) (by kernel_rfl) (by kernel_rfl) (fun _ _ _ h => h) (yldV [(25, .pointer (some ⟨c, 0, none⟩))] (by kernel_rfl) rfl (by kernel_rfl) ?_) hH7 ?_
            · intro w hSw; go_simp
            dsimp only [List.set_cons_zero, List.set_cons_succ]
            refine takeD (i := 20) (d := 43) (v := .pointer (some ⟨c, 1, none⟩)) rfl rfl (by kernel_rfl) (by kernel_rfl) (by kernel_rfl) (fun _ _ _ h => h) (yldV [(42, .pointer (some ⟨c, 0, none⟩))] (by kernel_rfl) rfl (by kernel_rfl) ?_) hH7 ?_
            · intro w hSw; go_simp
            dsimp only [List.set_cons_zero, List.set_cons_succ]
            refine wpAnyH_ready (rs := [21]) (by kernel_rfl) (by simp) (AllReadyH.cons (o := _) rfl (fun K hK => ?_) AllReadyH.nil)
            go_simp
            have K6 := K5.set 0 rfl 1 (.slice a6 (n + 1) c6)
            have k6c0 := K6.cell 0 rfl 0 rfl; have k6c1 := K6.cell 0 rfl 1 rfl; have k6f0 := K6.free 0 rfl 0; have k6f1 := K6.free 0 rfl 1; have k6l := K6.lt 0 rfl
            refine hK.out _ _ ?_ (fun hH8 => ?_)
            · trivial
            clear hK K
            refine wpAnyH_done (by kernel_rfl) ?_ _
            go_wp2_with fail
            go_meet
            exact Lib.hid' ⟨a5, c5, a6, c6, ((((((((((((K6.drop 4).drop 2).focus 5 rfl).focus 5 rfl).focus 5 rfl).focus 9 rfl).focus 9 rfl).focus 9 rfl).focus 7 rfl).focus 8 rfl).focus 9 rfl).focus 9 rfl)⟩
          · skip
            go_simp
            have K2 := K1.allocAt (wd.heap.size + 1) [ptrV q] 79 (by simp)
            have k2c0 := K2.cell 5 rfl 0 rfl; have k2c1 := K2.cell 5 rfl 1 rfl; have k2f0 := K2.free 5 rfl 0; have k2f1 := K2.free 5 rfl 1; have k2l := K2.lt 5 rfl
            refine hK.out _ _ ?_ (fun hH4 => ?_)
            · trivial
            clear hK K
            try simp only [Act.put, List.getElem_toArray, List.getElem_cons_zero, List.getElem_cons_succ, List.setIfInBounds_toArray, List.set_cons_zero, List.set_cons_succ]
            refine wpAnyH_ready (rs := [8]) (by kernel_rfl) (by simp) (AllReadyH.cons (o := _) rfl (fun K hK => ?_) AllReadyH.nil)
            refine sep_appendAny etDisks rfl (.tmp 29) (.tmp 31) rfl [ptrV N] (slv_box K2 1 rfl) rfl K2 7 rfl rfl rfl (by intro x hx; simp only [List.mem_cons, List.not_mem_nil, or_false] at hx; subst hx; rfl) (by omega) ?_
            intro a5 c5 w5 K3
            have k3c0 := K3.cell 6 rfl 0 rfl; have k3c1 := K3.cell 6 rfl 1 rfl; have k3f0 := K3.free 6 rfl 0; have k3f1 := K3.free 6 rfl 1; have k3l := K3.lt 6 rfl
            refine hK.out _ _ ?_ (fun hH5 => ?_)
            · trivial
            clear hK K
            try simp only [Act.put, List.getElem_toArray, List.getElem_cons_zero, List.getElem_cons_succ, List.setIfInBounds_toArray, List.set_cons_zero, List.set_cons_succ]
            refine wpAnyH_ready (rs := [15]) (by kernel_rfl) (by simp) (AllReadyH.cons (o := _) rfl (fun K hK => ?_) AllReadyH.nil)
            refine sep_appendAny etShelves rfl (.tmp 36) (.tmp 38) rfl [ptrV q] (slv_box K3 1 rfl) rfl K3 8 rfl rfl rfl (by intro x hx; simp only [List.mem_cons, List.not_mem_nil, or_false] at hx; subst hx; rfl) (by omega) ?_
            intro a6 c6 w6 K4
            have k4c0 := K4.cell 7 rfl 0 rfl; have k4c1 := K4.cell 7 rfl 1 rfl; have k4f0 := K4.free 7 rfl 0; have k4f1 := K4.free 7 rfl 1; have k4l := K4.lt 7 rfl
            refine hK.out _ _ ?_ (fun hH6 => ?_)
            · trivial
            clear hK K
            try simp only [Act.put, List.getElem_toArray, List.getElem_cons_zero, List.getElem_cons_succ, List.setIfInBounds_toArray, List.set_cons_zero, List.set_cons_succ]
            refine takeD (i := 16) (d := 40) (v := .pointer (some ⟨c, 0, none⟩)) rfl rfl (by kernel_rfl) (by kernel_rfl) (by kernel_rfl) (fun _ _ _ h => h) (yldV [(24, .pointer (some ⟨c, 0, none⟩))] (by kernel_rfl) rfl (by kernel_rfl) ?_) hH6 ?_
            · intro w hSw; go_simp
            dsimp only [List.set_cons_zero, List.set_cons_succ]
            refine takeD (i := 17) (d := 41) (v := .pointer (some ⟨c, 0, none⟩)) rfl rfl (by kernel_rfl) (by kernel_rfl) (by kernel_rfl) (fun _ _ _ h => h) (yldV [(40, .pointer (some ⟨c, 0, none⟩))] (by kernel_rfl) rfl (by kernel_rfl) ?_) hH6 ?_
            · intro w hSw; go_simp
            dsimp only [List.set_cons_zero, List.set_cons_succ]
            refine wpAnyH_ready (rs := [18]) (by kernel_rfl) (by simp) (AllReadyH.cons (o := _) rfl (fun K hK => ?_) AllReadyH.nil)
            go_simp
            have K5 := K4.set 7 rfl 0 (.slice a5 (n + 1) c5)
            have k5c0 := K5.cell 0 rfl 0 rfl; have k5c1 := K5.cell 0 rfl 1 rfl; have k5f0 := K5.free 0 rfl 0; have k5f1 := K5.free 0 rfl 1; have k5l := K5.lt 0 rfl
            refine hK.out _ _ ?_ (fun hH7 => ?_)
            · trivial
            clear hK K
            try simp only [Act.put, List.getElem_toArray, List.getElem_cons_zero, List.getElem_cons_succ, List.setIfInBounds_toArray, List.set_cons_zero, List.set_cons_succ]
            refine takeD (i := 19) (d := 42) (v := .pointer (some ⟨c, 0, none⟩)) rfl rfl (by kernel_rfl) (by kernel_rfl) (by kernel_rfl) (fun _ _ _ h => h) (yldV [(25, .pointer (some ⟨c, 0, none⟩))] (by kernel_rfl) rfl (by kernel_rfl) ?_) hH7 ?_
            · intro w hSw; go_simp
            dsimp only [List.set_cons_zero, List.set_cons_succ]
            refine takeD (i := 20) (d := 43) (v := .pointer (some ⟨c, 1, none⟩)) rfl rfl (by kernel_rfl) (by kernel_rfl) (by kernel_rfl) (fun _ _ _ h => h) (yldV [(42, .pointer (some ⟨c, 0, none⟩))] (by kernel_rfl) rfl (by kernel_rfl) ?_) hH7 ?_
            · intro w hSw; go_simp
            dsimp only [List.set_cons_zero, List.set_cons_succ]
            refine wpAnyH_ready (rs := [21]) (by kernel_rfl) (by simp) (AllReadyH.cons (o := _) rfl (fun K hK => ?_) AllReadyH.nil)
            go_simp
            have K6 := K5.set 0 rfl 1 (.slice a6 (n + 1) c6)
            have k6c0 := K6.cell 0 rfl 0 rfl; have k6c1 := K6.cell 0 rfl 1 rfl; have k6f0 := K6.free 0 rfl 0; have k6f1 := K6.free 0 rfl 1; have k6l := K6.lt 0 rfl
            refine hK.out _ _ ?_ (fun hH8 => ?_)
            · trivial
            clear hK K
            refine wpAnyH_done (by kernel_rfl) ?_ _
            go_wp2_with fail
            go_meet
            exact Lib.hid' ⟨a5, c5, a6, c6, ((((((((((((K6.drop 4).drop 3).focus 5 rfl).focus 5 rfl).focus 5 rfl).focus 9 rfl).focus 9 rfl).focus 9 rfl).focus 7 rfl).focus 8 rfl).focus 9 rfl).focus 9 rfl)⟩
        · skip
          go_simp
          have K2 := K1.allocAt (wd.heap.size + 1) [ptrV q] 79 (by simp)
          have k2c0 := K2.cell 5 rfl 0 rfl; have k2c1 := K2.cell 5 rfl 1 rfl; have k2f0 := K2.free 5 rfl 0; have k2f1 := K2.free 5 rfl 1; have k2l := K2.lt 5 rfl
          refine hK.out _ _ ?_ (fun hH3 => ?_)
          · trivial
          clear hK K
          try simp only [Act.put, List.getElem_toArray, List.getElem_cons_zero, List.getElem_cons_succ, List.setIfInBounds_toArray, List.set_cons_zero, List.set_cons_succ]
          refine wpAnyH_ready (rs := [5]) (by kernel_rfl) (by simp) (AllReadyH.cons (o := _) rfl (fun K hK => ?_) AllReadyH.nil)
          go_simp
          refine hK.out _ _ ?_ (fun hH4 => ?_)
          · trivial
          clear hK K
          try simp only [Act.put, List.getElem_toArray, List.getElem_cons_zero, List.getElem_cons_succ, List.setIfInBounds_toArray, List.set_cons_zero, List.set_cons_succ]
          refine wpAnyH_ready (rs := [8]) (by kernel_rfl) (by simp) (AllReadyH.cons (o := _) rfl (fun K hK => ?_) AllReadyH.nil)
          refine sep_appendAny etDisks rfl (.tmp 29) (.tmp 31) rfl [ptrV N] (slv_box K2 1 rfl) rfl K2 7 rfl rfl rfl (by intro x hx; simp only [List.mem_cons, List.not_mem_nil, or_false] at hx; subst hx; rfl) (by omega) ?_
          intro a5 c5 w5 K3
          have k3c0 := K3.cell 6 rfl 0 rfl; have k3c1 := K3.cell 6 rfl 1 rfl; have k3f0 := K3.free 6 rfl 0; have k3f1 := K3.free 6 rfl 1; have k3l := K3.lt 6 rfl
          refine hK.out _ _ ?_ (fun hH5 => ?_)
          · trivial
          clear hK K
          try simp only [Act.put, List.getElem_toArray, List.getElem_cons_zero, List.getElem_cons_succ, List.setIfInBounds_toArray, List.set_cons_zero, List.set_cons_succ]
          refine wpAnyH_ready (rs := [15]) (by kernel_rfl) (by simp) (AllReadyH.cons (o := _) rfl (fun K hK => ?_) AllReadyH.nil)
          refine sep_appendAny etShelves rfl (.tmp 36) (.tmp 38) rfl [ptrV q] (slv_box K3 1 rfl) rfl K3 8 rfl rfl rfl (by intro x hx; simp only [List.mem_cons, List.not_mem_nil, or_false] at hx; subst hx; rfl) (by omega) ?_
          intro a6 c6 w6 K4
          have k4c0 := K4.cell 7 rfl 0 rfl; have k4c1 := K4.cell 7 rfl 1 rfl; have k4f0 := K4.free 7 rfl 0; have k4f1 := K4.free 7 rfl 1; have k4l := K4.lt 7 rfl
          refine hK.out _ _ ?_ (fun hH6 => ?_)
          · trivial
          clear hK K
          try simp only [Act.put, List.getElem_toArray, List.getElem_cons_zero, List.getElem_cons_succ, List.setIfInBounds_toArray, List.set_cons_zero, List.set_cons_succ]
          refine takeD (i := 16) (d := 40) (v := .pointer (some ⟨c, 0, none⟩)) rfl rfl (by kernel_rfl) (by kernel_rfl) (by kernel_rfl) (fun _ _ _ h => h) (yldV [(24, .pointer (some ⟨c, 0, none⟩))] (by kernel_rfl) rfl (by kernel_rfl) ?_) hH6 ?_
          · intro w hSw; go_simp
          dsimp only [List.set_cons_zero, List.set_cons_succ]
          refine takeD (i := 17) (d := 41) (v := .pointer (some ⟨c, 0, none⟩)) rfl rfl (by kernel_rfl) (by kernel_rfl) (by kernel_rfl) (fun _ _ _ h => h) (yldV [(40, .pointer (some ⟨c, 0, none⟩))] (by kernel_rfl) rfl (by kernel_rfl) ?_) hH6 ?_
          · intro w hSw; go_simp
          dsimp only [List.set_cons_zero, List.set_cons_succ]
          refine wpAnyH_ready (rs := [18]) (by kernel_rfl) (by simp) (AllReadyH.cons (o := _) rfl (fun K hK => ?_) AllReadyH.nil)
          go_simp
          have K5 := K4.set 7 rfl 0 (.slice a5 (n + 1) c5)
          have k5c0 := K5.cell 0 rfl 0 rfl; have k5c1 := K5.cell 0 rfl 1 rfl; have k5f0 := K5.free 0 rfl 0; have k5f1 := K5.free 0 rfl 1; have k5l := K5.lt 0 rfl
          refine hK.out _ _ ?_ (fun hH7 => ?_)
          · trivial
          clear hK K
          try simp only [Act.put, List.getElem_toArray, List.getElem_cons_zero, List.getElem_cons_succ, List.setIfInBounds_toArray, List.set_cons_zero, List.set_cons_succ]
          refine takeD (i := 19) (d := 42) (v := .pointer (some ⟨c, 0, none⟩)) rfl rfl (by kernel_rfl) (by kernel_rfl) (by kernel_rfl) (fun _ _ _ h => h) (yldV [(25, .pointer (some ⟨c, 0, none⟩))] (by kernel_rfl) rfl (by kernel_rfl) ?_) hH7 ?_
          · intro w hSw; go_simp
          dsimp only [List.set_cons_zero, List.set_cons_succ]
          refine takeD (i := 20) (d := 43) (v := .pointer (some ⟨c, 1, none⟩)) rfl rfl (by kernel_rfl) (by kernel_rfl) (by kernel_rfl) (fun _ _ _ h => h) (yldV [(42, .pointer (some ⟨c, 0, none⟩))] (by kernel_rfl) rfl (by kernel_rfl) ?_) hH7 ?_
          · intro w hSw; go_simp
          dsimp only [List.set_cons_zero, List.set_cons_succ]
          refine wpAnyH_ready (rs := [21]) (by kernel_rfl) (by simp) (AllReadyH.cons (o := _) rfl (fun K hK => ?_) AllReadyH.nil)
          go_simp
          have K6 := K5.set 0 rfl 1 (.slice a6 (n + 1) c6)
          have k6c0 := K6.cell 0 rfl 0 rfl; have k6c1 := K6.cell 0 rfl 1 rfl; have k6f0 := K6.free 0 rfl 0; have k6f1 := K6.free 0 rfl 1; have k6l := K6.lt 0 rfl
          refine hK.out _ _ ?_ (fun hH8 => ?_)
          · trivial
          clear hK K
          refine wpAnyH_done (by kernel_rfl) ?_ _
          go_wp2_with fail
          go_meet
          exact Lib.hid' ⟨a5, c5, a6, c6, ((((((((((((K6.drop 4).drop 3).focus 5 rfl).focus 5 rfl).focus 5 rfl).focus 9 rfl).focus 9 rfl).focus 9 rfl).focus 7 rfl).focus 8 rfl).focus 9 rfl).focus 9 rfl)⟩
      · skip
        go_simp
        have K1 := K0.allocAt (wd.heap.size) [ptrV q] 79 (by simp)
        have k1c0 := K1.cell 4 rfl 0 rfl; have k1c1 := K1.cell 4 rfl 1 rfl; have k1f0 := K1.free 4 rfl 0; have k1f1 := K1.free 4 rfl 1; have k1l := K1.lt 4 rfl
        refine hK.out _ _ ?_ (fun hH2 => ?_)
        · trivial
        clear hK K
        try simp only [Act.put, List.getElem_toArray, List.getElem_cons_zero, List.getElem_cons_succ, List.setIfInBounds_toArray, List.set_cons_zero, List.set_cons_succ]
        refine wpAnyH_ready (rs := [5, 7]) (by kernel_rfl) (by simp) (AllReadyH.cons (o := _) rfl (fun K hK => ?_) (AllReadyH.cons (o := _) rfl (fun K hK => ?_) AllReadyH.nil))
        · skip
          go_simp
          refine hK.out _ _ ?_ (fun hH3 => ?_)
          · trivial
          clear hK K
          try simp only [Act.put, List.getElem_toArray, List.getElem_cons_zero, List.getElem_cons_succ, List.setIfInBounds_toArray, List.set_cons_zero, List.set_cons_succ]
          refine wpAnyH_ready (rs := [7]) (by kernel_rfl) (by simp) (AllReadyH.cons (o := _) rfl (fun K hK => ?_) AllReadyH.nil)
          go_simp
          have K2 := K1.allocAt (wd.heap.size + 1) [ptrV N] 50 (by simp)
          have k2c0 := K2.cell 5 rfl 0 rfl; have k2c1 := K2.cell 5 rfl 1 rfl; have k2f0 := K2.free 5 rfl 0; have k2f1 := K2.free 5 rfl 1; have k2l := K2.lt 5 rfl
          refine hK.out _ _ ?_ (fun hH4 => ?_)
          · trivial
          clear hK K
          try simp only [Act.put, List.getElem_toArray, List.getElem_cons_zero, List.getElem_cons_succ, List.setIfInBounds_toArray, List.set_cons_zero, List.set_cons_succ]
          refine wpAnyH_ready (rs := [8]) (by kernel_rfl) (by simp) (AllReadyH.cons (o := _) rfl (fun K hK => ?_) AllReadyH.nil)
          refine sep_appendAny etDisks rfl (.tmp 29) (.tmp 31) rfl [ptrV N] (slv_box K2 0 rfl) rfl K2 7 rfl rfl rfl (by intro x hx; simp only [List.mem_cons, List.not_mem_nil, or_false] at hx; subst hx; rfl) (by omega) ?_
          intro a5 c5 w5 K3
          have k3c0 := K3.cell 6 rfl 0 rfl; have k3c1 := K3.cell 6 rfl 1 rfl; have k3f0 := K3.free 6 rfl 0; have k3f1 := K3.free 6 rfl 1; have k3l := K3.lt 6 rfl
          refine hK.out _ _ ?_ (fun hH5 => ?_)
          · trivial
          clear hK K
          try simp only [Act.put, List.getElem_toArray, List.getElem_cons_zero, List.getElem_cons_succ, List.setIfInBounds_toArray, List.set_cons_zero, List.set_cons_succ]
          refine wpAnyH_ready (rs := [15]) (by kernel_rfl) (by simp) (AllReadyH.cons (o := _) rfl (fun K hK => ?_) AllReadyH.nil)
          refine sep_appendAny etShelves rfl (.tmp 36) (.tmp 38) rfl [ptrV q] (slv_box K3 2 rfl) rfl K3 8 rfl rfl rfl (by intro x hx; simp only [List.mem_cons, List.not_mem_nil, or_false] at hx; subst hx; rfl) (by omega) ?_
          intro a6 c6 w6 K4
          have k4c0 := K4.cell 7 rfl 0 rfl; have k4c1 := K4.cell 7 rfl 1 rfl; have k4f0 := K4.free 7 rfl 0; have k4f1 := K4.free 7 rfl 1; have k4l := K4.lt 7 rfl
          refine hK.out _ _ ?_ (fun hH6 => ?_)
          · trivial
          clear hK K
          try simp only [Act.put, List.getElem_toArray, List.getElem_cons_zero, List.getElem_cons_succ, List.setIfInBounds_toArray, List.set_cons_zero, List.set_cons_succ]
          refine takeD (i := 16) (d := 40) (v := .pointer (some ⟨c, 0, none⟩)) rfl rfl (by kernel_rfl) (by kernel_rfl) (by kernel_rfl) (fun _ _ _ h => h) (yldV [(24, .pointer (some ⟨c, 0, none⟩))] (by kernel_rfl) rfl (by kernel_rfl) ?_) hH6 ?_
          · intro w hSw; go_simp
          dsimp only [List.set_cons_zero, List.set_cons_succ]
          refine takeD (i := 17) (d := 41) (v := .pointer (some ⟨c, 0, none⟩)) rfl rfl (by kernel_rfl) (by kernel_rfl) (by kernel_rfl) (fun _ _ _ h => h) (yldV [(40, .pointer (some ⟨c, 0, none⟩))] (by kernel_rfl) rfl (by kernel_rfl) ?_) hH6 ?_
          · intro w hSw; go_simp
          dsimp only [List.set_cons_zero, List.set_cons_succ]
          refine wpAnyH_ready (rs := [18]) (by kernel_rfl) (by simp) (AllReadyH.cons (o := _) rfl (fun K hK => ?_) AllReadyH.nil)
          go_simp
          have K5 := K4.set 7 rfl 0 (.slice a5 (n + 1) c5)
          have k5c0 := K5.cell 0 rfl 0 rfl; have k5c1 := K5.cell 0 rfl 1 rfl; have k5f0 := K5.free 0 rfl 0; have k5f1 := K5.free 0 rfl 1; have k5l := K5.lt 0 rfl
          refine hK.out _ _ ?_ (fun hH7 => ?_)
          · trivial
          clear hK K
          try simp only [Act.put, List.getElem_toArray, List.getElem_cons_zero, List.getElem_cons_succ, List.setIfInBounds_toArray, List.set_cons_zero, List.set_cons_succ]
          refine takeD (i := 19) (d := 42) (v := .pointer (some ⟨c, 0, none⟩)) rfl rfl (by kernel_rfl) (by kernel_rfl) (by kernel_rfl) (fun _ _ _ h => h) (yldV [(25, .pointer (some ⟨c, 0, none⟩))] (by kernel_rfl) rfl (by kernel_rfl) ?_) hH7 ?_
          · intro w hSw; go_simp
          dsimp only [List.set_cons_zero, List.set_cons_succ]
          refine takeD (i := 20) (d := 43) (v := .pointer (some ⟨c, 1, none⟩)) rfl rfl (by kernel_rfl) (by kernel_rfl) (by kernel_rfl) (fun _ _ _ h => h) (yldV [(42, .pointer (some ⟨c, 0, none⟩))] (by kernel_rfl) rfl (by kernel_rfl) ?_) hH7 ?_
          · intro w hSw; go_simp
          dsimp only [List.set_cons_zero, List.set_cons_succ]
          refine wpAnyH_ready (rs := [21]) (by kernel_rfl) (by simp) (AllReadyH.cons (o := _) rfl (fun K hK => ?_) AllReadyH.nil)
          go_simp
          have K6 := K5.set 0 rfl 1 (.slice a6 (n + 1) c6)
          have k6c0 := K6.cell 0 rfl 0 rfl; have k6c1 := K6.cell 0 rfl 1 rfl; have k6f0 := K6.free 0 rfl 0; have k6f1 := K6.free 0 rfl 1; have k6l := K6.lt 0 rfl
          refine hK.out _ _ ?_ (fun hH8 => ?_)
          · trivial
          clear hK K
          refine wpAnyH_done (by kernel_rfl) ?_ _
          go_wp2_with fail
          go_meet
          exact Lib.hid' ⟨a5, c5, a6, c6, ((((((((((((K6.drop 3).drop 3).focus 5 rfl).focus 5 rfl).focus 5 rfl).focus 9 rfl).focus 9 rfl).focus 9 rfl).focus 7 rfl).focus 8 rfl).focus 9 rfl).focus 9 rfl)⟩
        · skip
          go_simp
          have K2 := K1.allocAt (wd.heap.size + 1) [ptrV N] 50 (by simp)
          have k2c0 := K2.cell 5 rfl 0 rfl; have k2c1 := K2.cell 5 rfl 1 rfl; have k2f0 := K2.free 5 rfl 0; have k2f1 := K2.free 5 rfl 1; have k2l := K2.lt 5 rfl
          refine hK.out _ _ ?_ (fun hH3 => ?_)
          · trivial
          clear hK K
          try simp only [Act.put, List.getElem_toArray, List.getElem_cons_zero, List.getElem_cons_succ, List.setIfInBounds_toArray, List.set_cons_zero, List.set_cons_succ]
          refine wpAnyH_ready (rs := [5]) (by kernel_rfl) (by simp) (AllReadyH.cons (o := _) rfl (fun K hK => ?_) AllReadyH.nil)
          go_simp
          refine hK.out _ _ ?_ (fun hH4 => ?_)
          · trivial
          clear hK K
          try simp only [Act.put, List.getElem_toArray, List.getElem_cons_zero, List.getElem_cons_succ, List.setIfInBounds_toArray, List.set_cons_zero, List.set_cons_succ]
          refine wpAnyH_ready (rs := [8]) (by kernel_rfl) (by simp) (AllReadyH.cons (o := _) rfl (fun K hK => ?_) AllReadyH.nil)
          refine sep_appendAny etDisks rfl (.tmp 29) (.tmp 31) rfl [ptrV N] (slv_box K2 0 rfl) rfl K2 7 rfl rfl rfl (by intro x hx; simp only [List.mem_cons, List.not_mem_nil, or_false] at hx; subst hx; rfl) (by omega) ?_
          intro a5 c5 w5 K3
          have k3c0 := K3.cell 6 rfl 0 rfl; have k3c1 := K3.cell 6 rfl 1 rfl; have k3f0 := K3.free 6 rfl 0; have k3f1 := K3.free 6 rfl 1; have k3l := K3.lt 6 rfl
          refine hK.out _ _ ?_ (fun hH5 => ?_)
          · trivial
          clear hK K
          try simp only [Act.put, List.getElem_toArray, List.getElem_cons_zero, List.getElem_cons_succ, List.setIfInBounds_toArray, List.set_cons_zero, List.set_cons_succ]
          refine wpAnyH_ready (rs := [15]) (by kernel_rfl) (by simp) (AllReadyH.cons (o := _) rfl (fun K hK => ?_) AllReadyH.nil)
          refine sep_appendAny etShelves rfl (.tmp 36) (.tmp 38) rfl [ptrV q] (slv_box K3 2 rfl) rfl K3 8 rfl rfl rfl (by intro x hx; simp only [List.mem_cons, List.not_mem_nil, or_false] at hx; subst hx; rfl) (by omega) ?_
          intro a6 c6 w6 K4
          have k4c0 := K4.cell 7 rfl 0 rfl; have k4c1 := K4.cell 7 rfl 1 rfl; have k4f0 := K4.free 7 rfl 0; have k4f1 := K4.free 7 rfl 1; have k4l := K4.lt 7 rfl
          refine hK.out _ _ ?_ (fun hH6 => ?_)
          · trivial
          clear hK K
          try simp only [Act.put, List.getElem_toArray, List.getElem_cons_zero, List.getElem_cons_succ, List.setIfInBounds_toArray, List.set_cons_zero, List.set_cons_succ]
          refine takeD (i := 16) (d := 40) (v := .pointer (some ⟨c, 0, none⟩)) rfl rfl (by kernel_rfl) (by kernel_rfl) (by kernel_rfl) (fun _ _ _ h => h) (yldV [(24, .pointer (some ⟨c, 0, none⟩))] (by kernel_rfl) rfl (by kernel_rfl) ?_) hH6 ?_
          · intro w hSw; go_simp
          dsimp only [List.set_cons_zero, List.set_cons_succ]
          refine takeD (i := 17) (d := 41) (v := .pointer (some ⟨c, 0, none⟩)) rfl rfl (by kernel_rfl) (by kernel_rfl) (by kernel_rfl) (fun _ _ _ h => h) (yldV [(40, .pointer (some ⟨c, 0, none⟩))] (by kernel_rfl) rfl (by kernel_rfl) ?_) hH6 ?_
          · intro w hSw; go_simp
          dsimp only [List.set_cons_zero, List.set_cons_succ]
          refine wpAnyH_ready (rs := [18]) (by kernel_rfl) (by simp) (AllReadyH.cons (o := _) rfl (fun K hK => ?_) AllReadyH.nil)
          go_simp
          have K5 := K4.set 7 rfl 0 (.slice a5 (n + 1) c5)
          have k5c0 := K5.cell 0 rfl 0 rfl; have k5c1 := K5.cell 0 rfl 1 rfl; have k5f0 := K5.free 0 rfl 0; have k5f1 := K5.free 0 rfl 1; have k5l := K5.lt 0 rfl
          refine hK.out _ _ ?_ (fun hH7 => ?_)
          · trivial
          clear hK K
          try simp only [Act.put, List.getElem_toArray, List.getElem_cons_zero, List.getElem_cons_succ, List.setIfInBounds_toArray, List.set_cons_zero, List.set_cons_succ]
          refine takeD (i := 19) (d := 42) (v := .pointer (some ⟨c, 0, none⟩)) rfl rfl (by kernel_rfl) (by kernel_rfl) (by kernel_rfl) (fun _ _ _ h => h) (yldV [(25, .pointer (some ⟨c, 0, none⟩))] (by kernel_rfl) rfl (by kernel_rfl) ?_) hH7 ?_
          · intro w hSw; go_simp
          dsimp only [List.set_cons_zero, List.set_cons_succ]
          refine takeD (i := 20) (d := 43) (v := .pointer (some ⟨c, 1, none⟩)) rfl rfl (by kernel_rfl) (by kernel_rfl) (by kernel_rfl) (fun _ _ _ h => h) (yldV [(42, .pointer (some ⟨c, 0, none⟩))] (by kernel_rfl) rfl (by kernel_rfl) ?_) hH7 ?_
          · intro w hSw; go_simp
          dsimp only [List.set_cons_zero, List.set_cons_succ]
          refine wpAnyH_ready (rs := [21]) (by kernel_rfl) (by simp) (AllReadyH.cons (o := _) rfl (fun K hK => ?_) AllReadyH.nil)
          go_simp
          have K6 := K5.set 0 rfl 1 (.slice a6 (n + 1) c6)
          have k6c0 := K6.cell 0 rfl 0 rfl; have k6c1 := K6.cell 0 rfl 1 rfl; have k6f0 := K6.free 0 rfl 0; have k6f1 := K6.free 0 rfl 1; have k6l := K6.lt 0 rfl
          refine hK.out _ _ ?_ (fun hH8 => ?_)
          · trivial
          clear hK K
          refine wpAnyH_done (by kernel_rfl) ?_ _
          go_wp2_with fail
          go_meet
          exact Lib.hid' ⟨a5, c5, a6, c6, ((((((((((((K6.drop 3).drop 3).focus 5 rfl).focus 5 rfl).focus 5 rfl).focus 9 rfl).focus 9 rfl).focus 9 rfl).focus 7 rfl).focus 8 rfl).focus 9 rfl).focus 9 rfl)⟩
    · skip
      go_simp
      have K1 := K0.allocAt (wd.heap.size) [ptrV q] 79 (by simp)
      have k1c0 := K1.cell 4 rfl 0 rfl; have k1c1 := K1.cell 4 rfl 1 rfl; have k1f0 := K1.free 4 rfl 0; have k1f1 := K1.free 4 rfl 1; have k1l := K1.lt 4 rfl
      refine hK.out _ _ ?_ (fun hH1 => ?_)
      · trivial
      clear hK K
      try simp only [Act.put, List.getElem_toArray, List.getElem_cons_zero, List.getElem_cons_succ, List.setIfInBounds_toArray, List.set_cons_zero, List.set_cons_succ]
      refine wpAnyH_ready (rs := [5, 7, 12]) (by kernel_rfl) (by simp) (AllReadyH.cons (o := _) rfl (fun K hK => ?_) (AllReadyH.cons (o := _) rfl (fun K hK => ?_) (AllReadyH.cons (o := _) rfl (fun K hK => ?_) AllReadyH.nil)))
      · skip
        go_simp
        refine hK.out _ _ ?_ (fun hH2 => ?_)
        · trivial
        clear hK K
        try simp only [Act.put, List.getElem_toArray, List.getElem_cons_zero, List.getElem_cons_succ, List.setIfInBounds_toArray, List.set_cons_zero, List.set_cons_succ]
        refine wpAnyH_ready (rs := [7, 12]) (by kernel_rfl) (by simp) (AllReadyH.cons (o := _) rfl (fun K hK => ?_) (AllReadyH.cons (o := _) rfl (fun K hK => ?_) AllReadyH.nil))
        · skip
          go_simp
          have K2 := K1.allocAt (wd.heap.size + 1) [ptrV N] 50 (by simp)
          have k2c0 := K2.cell 5 rfl 0 rfl; have k2c1 := K2.cell 5 rfl 1 rfl; have k2f0 := K2.free 5 rfl 0; have k2f1 := K2.free 5 rfl 1; have k2l := K2.lt 5 rfl
          refine hK.out _ _ ?_ (fun hH3 => ?_)
          · trivial
          clear hK K
          try simp only [Act.put, List.getElem_toArray, List.getElem_cons_zero, List.getElem_cons_succ, List.setIfInBounds_toArray, List.set_cons_zero, List.set_cons_succ]
          refine wpAnyH_ready (rs := [8, 12]) (by kernel_rfl) (by simp) (AllReadyH.cons (o := _) rfl (fun K hK => ?_) (AllReadyH.cons (o := _) rfl (fun K hK => ?_) AllReadyH.nil))
          · skip
            refine sep_appendAny etDisks rfl (.tmp 29) (.tmp 31) rfl [ptrV N] (slv_box K2 0 rfl) rfl K2 7 rfl rfl rfl (by intro x hx; simp only [List.mem_cons, List.not_mem_nil, or_false] at hx; subst hx; rfl) (by omega) ?_
            intro a5 c5 w5 K3
            have k3c0 := K3.cell 6 rfl 0 rfl; have k3c1 := K3.cell 6 rfl 1 rfl; have k3f0 := K3.free 6 rfl 0; have k3f1 := K3.free 6 rfl 1; have k3l := K3.lt 6 rfl
            refine hK.out _ _ ?_ (fun hH4 => ?_)
            · trivial
            clear hK K
            try simp only [Act.put, List.getElem_toArray, List.getElem_cons_zero, List.getElem_cons_succ, List.setIfInBounds_toArray, List.set_cons_zero, List.set_cons_succ]
            refine wpAnyH_ready (rs := [12]) (by kernel_rfl) (by simp) (AllReadyH.cons (o := _) rfl (fun K hK => ?_) AllReadyH.nil)
            go_simp
            refine hK.out _ _ ?_ (fun hH5 => ?_)
            · trivial
            clear hK K
            try simp only [Act.put, List.getElem_toArray, List.getElem_cons_zero, List.getElem_cons_succ, List.setIfInBounds_toArray, List.set_cons_zero, List.set_cons_succ]
            refine wpAnyH_ready (rs := [15]) (by kernel_rfl) (by simp) (AllReadyH.cons (o := _) rfl (fun K hK => ?_) AllReadyH.nil)
            refine sep_appendAny etShelves rfl (.tmp 36) (.tmp 38) rfl [ptrV q] (slv_box K3 2 rfl) rfl K3 8 rfl rfl rfl (by intro x hx; simp only [List.mem_cons, List.not_mem_nil, or_false] at hx; subst hx; rfl) (by omega) ?_
            intro a6 c6 w6 K4
            have k4c0 := K4.cell 7 rfl 0 rfl; have k4c1 := K4.cell 7 rfl 1 rfl; have k4f0 := K4.free 7 rfl 0; have k4f1 := K4.free 7 rfl 1; have k4l := K4.lt 7 rfl
            refine hK.out _ _ ?_ (fun hH6 => ?_)
            · trivial
            clear hK K
            try simp only [Act.put, List.getElem_toArray, List.getElem_cons_zero, List.getElem_cons_succ, List.setIfInBounds_toArray, List.set_cons_zero, List.set_cons_succ]
            refine takeD (i := 16) (d := 40) (v := .pointer (some ⟨c, 0, none⟩)) rfl rfl (by kernel_rfl) (by kernel_rfl) (by kernel_rfl) (fun _ _ _ h => h) (yldV [(24, .pointer (some ⟨c, 0, none⟩))] (by kernel_rfl) rfl (by kernel_rfl) ?_) hH6 ?_
            · intro w hSw; go_simp
            dsimp only [List.set_cons_zero, List.set_cons_succ]
            refine takeD (i := 17) (d := 41) (v := .pointer (some ⟨c, 0, none⟩)) rfl rfl (by kernel_rfl) (by kernel_rfl) (by kernel_rfl) (fun _ _ _ h => h) (yldV [(40, .pointer (some ⟨c, 0, none⟩))] (by kernel_rfl) rfl (by kernel_rfl) ?_) hH6 ?_
            · intro w hSw; go_simp
            dsimp only [List.set_cons_zero, List.set_cons_succ]
            refine wpAnyH_ready (rs := [18]) (by kernel_rfl) (by simp) (AllReadyH.cons (o := _) rfl (fun K hK => ?_) AllReadyH.nil)
            go_simp
            have K5 := K4.set 7 rfl 0 (.slice a5 (n + 1) c5)
            have k5c0 := K5.cell 0 rfl 0 rfl; have k5c1 := K5.cell 0 rfl 1 rfl; have k5f0 := K5.free 0 rfl 0; have k5f1 := K5.free 0 rfl 1; have k5l := K5.lt 0 rfl
            refine hK.out _ _ ?_ (fun hH7 => ?_)
            · trivial
            clear hK K
            try simp only [Act.put, List.getElem_toArray, List.getElem_cons_zero, List.getElem_cons_succ, List.setIfInBounds_toArray, List.set_cons_zero, List.set_cons_succ]
            refine takeD (i := 19) (d := 42) (v := .pointer (some ⟨c, 0, none⟩)) rfl rfl (by kernel_rfl) (by kernel_rfl) (by kernel_rfl) (fun _ _ _ h => h) (yldV [(25, .pointer (some ⟨c, 0, none⟩))] (by kernel_rfl) rfl (by kernel_rfl) ?_) hH7 ?_
            · intro w hSw; go_simp
            dsimp only [List.set_cons_zero, List.set_cons_succ]
            refine takeD (i := 20) (d := 43) (v := .pointer (some ⟨c, 1, none⟩)) rfl rfl (by kernel_rfl) (by kernel_rfl) (by kernel_rfl) (fun _ _ _ h => h) (yldV [(42, .pointer (some ⟨c, 0, none⟩))] (by kernel_rfl) rfl (by kernel_rfl) ?_) hH7 ?_
            · intro w hSw; go_simp
            dsimp only [List.set_cons_zero, List.set_cons_succ]
            refine wpAnyH_ready (rs := [21]) (by kernel_rfl) (by simp) (AllReadyH.cons (o := _) rfl (fun K hK => ?_) AllReadyH.nil)
            go_simp
            have K6 := K5.set 0 rfl 1 (.slice a6 (n + 1) c6)
            have k6c0 := K6.cell 0 rfl 0 rfl; have k6c1 := K6.cell 0 rfl 1 rfl; have k6f0 := K6.free 0 rfl 0; have k6f1 := K6.free 0 rfl 1; have k6l := K6.lt 0 rfl
            refine hK.out _ _ ?_ (fun hH8 => ?_)
            · trivial
            clear hK K
            refine wpAnyH_done (by kernel_rfl) ?_ _
            go_wp2_with fail
            go_meet
            exact Lib.hid' ⟨a5, c5, a6, c6, ((((((((((((K6.drop 3).drop 3).focus 5 rfl).focus 5 rfl).focus 5 rfl).focus 9 rfl).focus 9 rfl).focus 9 rfl).focus 7 rfl).focus 8 rfl).focus 9 rfl).focus 9 rfl)⟩
          · skip
            go_simp
            refine hK.out _ _ ?_ (fun hH4 => ?_)
            · trivial
            clear hK K
            try simp only [Act.put, List.getElem_toArray, List.getElem_cons_zero, List.getElem_cons_succ, List.setIfInBounds_toArray, List.set_cons_zero, List.set_cons_succ]
            refine wpAnyH_ready (rs := [8]) (by kernel_rfl) (by simp) (AllReadyH.cons (o := _) rfl (fun K hK => ?_) AllReadyH.nil)
            refine sep_appendAny etDisks rfl (.tmp 29) (.tmp 31) rfl [ptrV N] (slv_box K2 0 rfl) rfl K2 7 rfl rfl rfl (by intro x hx; simp only [List.mem_cons, List.not_mem_nil, or_false] at hx; subst hx; rfl) (by omega) ?_
            intro a5 c5 w5 K3
            have k3c0 := K3.cell 6 rfl 0 rfl; have k3c1 := K3.cell 6 rfl 1 rfl; have k3f0 := K3.free 6 rfl 0; have k3f1 := K3.free 6 rfl 1; have k3l := K3.lt 6 rfl
            refine hK.out _ _ ?_ (fun hH5 => ?_)
            · trivial
            clear hK K
            try simp only [Act.put, List.getElem_toArray, List.getElem_cons_zero, List.getElem_cons_succ, List.setIfInBounds_toArray, List.set_cons_zero, List.set_cons_succ]
            refine wpAnyH_ready (rs := [15]) (by kernel_rfl) (by simp) (AllReadyH.cons (o := _) rfl (fun K hK => ?_) AllReadyH.nil)
            refine sep_appendAny etShelves rfl (.tmp 36) (.tmp 38) rfl [ptrV q] (slv_box K3 2 rfl) rfl K3 8 rfl rfl rfl (by intro x hx; simp only [List.mem_cons, List.not_mem_nil, or_false] at hx; subst hx; rfl) (by omega) ?_
            intro a6 c6 w6 K4
            have k4c0 := K4.cell 7 rfl 0 rfl; have k4c1 := K4.cell 7 rfl 1 rfl; have k4f0 := K4.free 7 rfl 0; have k4f1 := K4.free 7 rfl 1; have k4l := K4.lt 7 rfl
            refine hK.out _ _ ?_ (fun hH6 => ?_)
            · trivial
            clear hK K
            try simp only [Act.put, List.getElem_toArray, List.getElem_cons_zero, List.getElem_cons_succ, List.setIfInBounds_toArray, List.set_cons_zero, List.set_cons_succ]
            refine takeD (i := 16) (d := 40) (v := .pointer (some ⟨c, 0, none⟩)) rfl rfl (by kernel_rfl) (by kernel_rfl) (by kernel_rfl) (fun _ _ _ h => h) (yldV [(24, .pointer (some ⟨c, 0, none⟩))] (by kernel_rfl) rfl (by kernel_rfl) ?_) hH6 ?_
            · intro w hSw; go_simp
            dsimp only [List.set_cons_zero, List.set_cons_succ]
            refine takeD (i := 17) (d := 41) (v := .pointer (some ⟨c, 0, none⟩)) rfl rfl (by kernel_rfl) (by kernel_rfl) (by kernel_rfl) (fun _ _ _ h => h) (yldV [(40, .pointer (some ⟨c, 0, none⟩))] (by kernel_rfl) rfl (by kernel_rfl) ?_) hH6 ?_
            · intro w hSw; go_simp
            dsimp only [List.set_cons_zero, List.set_cons_succ]
            refine wpAnyH_ready (rs := [18]) (by kernel_rfl) (by simp) (AllReadyH.cons (o := _) rfl (fun K hK => ?_) AllReadyH.nil)
            go_simp
            have K5 := K4.set 7 rfl 0 (.slice a5 (n + 1) c5)
            have k5c0 := K5.cell 0 rfl 0 rfl; have k5c1 := K5.cell 0 rfl 1 rfl; have k5f0 := K5.free 0 rfl 0; have k5f1 := K5.free 0 rfl 1; have k5l := K5.lt 0 rfl
            refine hK.out _ _ ?_ (fun hH7 => ?_)
            · trivial
            clear hK K
            try simp only [Act.put, List.getElem_toArray, List.getElem_cons_zero, List.getElem_cons_succ, List.setIfInBounds_toArray, List.set_cons_zero, List.set_cons_succ]
            refine takeD (i := 19) (d := 42) (v := .pointer (some ⟨c, 0, none⟩)) rfl rfl (by kernel_rfl) (by kernel_rfl) (by kernel_rfl) (fun _ _ _ h => h) (yldV [(25, .pointer (some ⟨c, 0, none⟩))] (by kernel_rfl) rfl (by kernel_rfl) ?_) hH7 ?_
            · intro w hSw; go_simp
            dsimp only [List.set_cons_zero, List.set_cons_succ]
            refine takeD (i := 20) (d := 43) (v := .pointer (some ⟨c, 1, none⟩)) rfl rfl (by kernel_rfl) (by kernel_rfl) (by kernel_rfl) (fun _ _ _ h => h) (yldV [(42, .pointer (some ⟨c, 0, none⟩))] (by kernel_rfl) rfl (by kernel_rfl) ?_) hH7 ?_
            · intro w hSw; go_simp
            dsimp only [List.set_cons_zero, List.set_cons_succ]
            refine wpAnyH_ready (rs := [21]) (by kernel_rfl) (by simp) (AllReadyH.cons (o := _) rfl (fun K hK => ?_) AllReadyH.nil)
            go_simp
            have K6 := K5.set 0 rfl 1 (.slice a6 (n + 1) c6)
            have k6c0 := K6.cell 0 rfl 0 rfl; have k6c1 := K6.cell 0 rfl 1 rfl; have k6f0 := K6.free 0 rfl 0; have k6f1 := K6.free 0 rfl 1; have k6l := K6.lt 0 rfl
            refine hK.out _ _ ?_ (fun hH8 => ?_)
            · trivial
            clear hK K
            refine wpAnyH_done (by kernel_rfl) ?_ _
            go_wp2_with fail
            go_meet
            exact Lib.hid' ⟨a5, c5, a6, c6, ((((((((((((K6.drop 3).drop 3).focus 5 rfl).focus 5 rfl).focus 5 rfl).focus 9 rfl).focus 9 rfl).focus 9 rfl).focus 7 rfl).focus 8 rfl).focus 9 rfl).focus 9 rfl)⟩
        · skip
          go_simp
          refine hK.out _ _ ?_ (fun hH3 => ?_)
          · trivial
          clear hK K
          try simp only [Act.put, List.getElem_toArray, List.getElem_cons_zero, List.getElem_cons_succ, List.setIfInBounds_toArray, List.set_cons_zero, List.set_cons_succ]
          refine wpAnyH_ready (rs := [7]) (by kernel_rfl) (by simp) (AllReadyH.cons (o := _) rfl (fun K hK => ?_) AllReadyH.nil)
          go_simp
          have K2 := K1.allocAt (wd.heap.size + 1) [ptrV N] 50 (by simp)
          have k2c0 := K2.cell 5 rfl 0 rfl; have k2c1 := K2.cell 5 rfl 1 rfl; have k2f0 := K2.free 5 rfl 0; have k2f1 := K2.free 5 rfl 1; have k2l := K2.lt 5 rfl
          refine hK.out _ _ ?_ (fun hH4 => ?_)
          · trivial
          clear hK K
          try simp only [Act.put, List.getElem_toArray, List.getElem_cons_zero, List.getElem_cons_succ, List.setIfInBounds_toArray, List.set_cons_zero, List.set_cons_succ]
          refine wpAnyH_ready (rs := [8]) (by kernel_rfl) (by simp) (AllReadyH.cons (o := _) rfl (fun K hK => ?_) AllReadyH.nil)
          refine sep_appendAny etDisks rfl (.tmp 29) (.tmp 31) rfl [ptrV N] (slv_box K2 0 rfl) rfl K2 7 rfl rfl rfl (by intro x hx; simp only [List.mem_cons, List.not_mem_nil, or_false] at hx; subst hx; rfl) (by omega) ?_
          intro a5 c5 w5 K3
          have k3c0 := K3.cell 6 rfl 0 rfl; have k3c1 := K3.cell 6 rfl 1 rfl; have k3f0 := K3.free 6 rfl 0; have k3f1 := K3.free 6 rfl 1; have k3l := K3.lt 6 rfl
          refine hK.out _ _ ?_ (fun hH5 => ?_)
          · trivial
          clear hK K
          try simp only [Act.put, List.getElem_toArray, List.getElem_cons_zero, List.getElem_cons_succ, List.setIfInBounds_toArray, List.set_cons_zero, List.set_cons_succ]
          refine wpAnyH_ready (rs := [15]) (by kernel_rfl) (by simp) (AllReadyH.cons (o := _) rfl (fun K hK => ?_) AllReadyH.nil)
          refine sep_appendAny etShelves rfl (.tmp 36) (.tmp 38) rfl [ptrV q] (slv_box K3 2 rfl) rfl K3 8 rfl rfl rfl (by intro x hx; simp only [List.mem_cons, List.not_mem_nil, or_false] at hx; subst hx; rfl) (by omega) ?_
          intro a6 c6 w6 K4
          have k4c0 := K4.cell 7 rfl 0 rfl; have k4c1 := K4.cell 7 rfl 1 rfl; have k4f0 := K4.free 7 rfl 0; have k4f1 := K4.free 7 rfl 1; have k4l := K4.lt 7 rfl
          refine hK.out _ _ ?_ (fun hH6 => ?_)
          · trivial
          clear hK K
          try simp only [Act.put, List.getElem_toArray, List.getElem_cons_zero, List.getElem_cons_succ, List.setIfInBounds_toArray, List.set_cons_zero, List.set_cons_succ]
          refine takeD (i := 16) (d := 40) (v := .pointer (some ⟨c, 0, none⟩)) rfl rfl (by kernel_rfl) (by kernel_rfl) (by kernel_rfl) (fun _ _ _ h => h) (yldV [(24, .pointer (some ⟨c, 0, none⟩))] (by kernel_rfl) rfl (by kernel_rfl) ?_) hH6 ?_
          · intro w hSw; go_simp
          dsimp only [List.set_cons_zero, List.set_cons_succ]
          refine takeD (i := 17) (d := 41) (v := .pointer (some ⟨c, 0, none⟩)) rfl rfl (by kernel_rfl) (by kernel_rfl) (by kernel_rfl) (fun _ _ _ h => h) (yldV [(40, .pointer (some ⟨c, 0, none⟩))] (by kernel_rfl) rfl (by kernel_rfl) ?_) hH6 ?_
          · intro w hSw; go_simp
          dsimp only [List.set_cons_zero, List.set_cons_succ]
          refine wpAnyH_ready (rs := [18]) (by kernel_rfl) (by simp) (AllReadyH.cons (o := _) rfl (fun K hK => ?_) AllReadyH.nil)
          go_simp
          have K5 := K4.set 7 rfl 0 (.slice a5 (n + 1) c5)
          have k5c0 := K5.cell 0 rfl 0 rfl; have k5c1 := K5.cell 0 rfl 1 rfl; have k5f0 := K5.free 0 rfl 0; have k5f1 := K5.free 0 rfl 1; have k5l := K5.lt 0 rfl
          refine hK.out _ _ ?_ (fun hH7 => ?_)
          · trivial
          clear hK K
          try simp only [Act.put, List.getElem_toArray, List.getElem_cons_zero, List.getElem_cons_succ, List.setIfInBounds_toArray, List.set_cons_zero, List.set_cons_succ]
          refine takeD (i := 19) (d := 42) (v := .pointer (some ⟨c, 0, none⟩)) rfl rfl (by kernel_rfl) (by kernel_rfl) (by kernel_rfl) (fun _ _ _ h => h) (yldV [(25, .pointer (some ⟨c, 0, none⟩))] (by kernel_rfl) rfl (by kernel_rfl) ?_) hH7 ?_
          · intro w hSw; go_simp
          dsimp only [List.set_cons_zero, List.set_cons_succ]
          refine takeD (i := 20) (d := 43) (v := .pointer (some ⟨c, 1, none⟩)) rfl rfl (by kernel_rfl) (by kernel_rfl) (by kernel_rfl) (fun _ _ _ h => h) (yldV [(42, .pointer (some ⟨c, 0, none⟩))] (by kernel_rfl) rfl (by kernel_rfl) ?_) hH7 ?_
          · intro w hSw; go_simp
          dsimp only [List.set_cons_zero, List.set_cons_succ]
          refine wpAnyH_ready (rs := [21]) (by kernel_rfl) (by simp) (AllReadyH.cons (o := _) rfl (fun K hK => ?_) AllReadyH.nil)
          go_simp
          have K6 := K5.set 0 rfl 1 (.slice a6 (n + 1) c6)
          have k6c0 := K6.cell 0 rfl 0 rfl; have k6c1 := K6.cell 0 rfl 1 rfl; have k6f0 := K6.free 0 rfl 0; have k6f1 := K6.free 0 rfl 1; have k6l := K6.lt 0 rfl
          refine hK.out _ _ ?_ (fun hH8 => ?_)
          · trivial
          clear hK K
          refine wpAnyH_done (by kernel_rfl) ?_ _
          go_wp2_with fail
          go_meet
          exact Lib.hid' ⟨a5, c5, a6, c6, ((((((((((((K6.drop 3).drop 3).focus 5 rfl).focus 5 rfl).focus 5 rfl).focus 9 rfl).focus 9 rfl).focus 9 rfl).focus 7 rfl).focus 8 rfl).focus 9 rfl).focus 9 rfl)⟩
      · skip
        go_simp
        have K2 := K1.allocAt (wd.heap.size + 1) [ptrV N] 50 (by simp)
        have k2c0 := K2.cell 5 rfl 0 rfl; have k2c1 := K2.cell 5 rfl 1 rfl; have k2f0 := K2.free 5 rfl 0; have k2f1 := K2.free 5 rfl 1; have k2l := K2.lt 5 rfl
        refine hK.out _ _ ?_ (fun hH2 => ?_)
        · trivial
        clear hK K
        try simp only [Act.put, List.getElem_toArray, List.getElem_cons_zero, List.getElem_cons_succ, List.setIfInBounds_toArray, List.set_cons_zero, List.set_cons_succ]
        refine wpAnyH_ready (rs := [5, 12]) (by kernel_rfl) (by simp) (AllReadyH.cons (o := _) rfl (fun K hK => ?_) (AllReadyH.cons (o := _) rfl (fun K hK => ?_) AllReadyH.nil))
        · skip
          go_simp
          refine hK.out _ _ ?_ (fun hH3 => ?_)
          · trivial
          clear hK K
          try simp only [Act.put, List.getElem_toArray, List.getElem_cons_zero, List.getElem_cons_succ, List.setIfInBounds_toArray, List.set_cons_zero, List.set_cons_succ]
          refine wpAnyH_ready (rs := [8, 12]) (by kernel_rfl) (by simp) (AllReadyH.cons (o := _) rfl (fun K hK => ?_) (AllReadyH.cons (o := _) rfl (fun K hK => ?_) AllReadyH.nil))
          · skip
            refine sep_appendAny etDisks rfl (.tmp 29) (.tmp 31) rfl [ptrV N] (slv_box K2 0 rfl) rfl K2 7 rfl rfl rfl (by intro x hx; simp only [List.mem_cons, List.not_mem_nil, or_false] at hx; subst hx; rfl) (by omega) ?_
            intro a5 c5 w5 K3
            have k3c0 := K3.cell 6 rfl 0 rfl; have k3c1 := K3.cell 6 rfl 1 rfl; have k3f0 := K3.free 6 rfl 0; have k3f1 := K3.free 6 rfl 1; have k3l := K3.lt 6 rfl
            refine hK.out _ _ ?_ (fun hH4 => ?_)
            · trivial
            clear hK K
            try simp only [Act.put, List.getElem_toArray, List.getElem_cons_zero, List.getElem_cons_succ, List.setIfInBounds_toArray, List.set_cons_zero, List.set_cons_succ]
            refine wpAnyH_ready (rs := [12]) (by kernel_rfl) (by simp) (AllReadyH.cons (o := _) rfl (fun K hK => ?_) AllReadyH.nil)
            go_simp
            refine hK.out _ _ ?_ (fun hH5 => ?_)
            · trivial
            clear hK K
            try simp only [Act.put, List.getElem_toArray, List.getElem_cons_zero, List.getElem_cons_succ, List.setIfInBounds_toArray, List.set_cons_zero, List.set_cons_succ]
            refine wpAnyH_ready (rs := [15]) (by kernel_rfl) (by simp) (AllReadyH.cons (o := _) rfl (fun K hK => ?_) AllReadyH.nil)
            refine sep_appendAny etShelves rfl (.tmp 36) (.tmp 38) rfl [ptrV q] (slv_box K3 2 rfl) rfl K3 8 rfl rfl rfl (by intro x hx; simp only [List.mem_cons, List.not_mem_nil, or_false] at hx; subst hx; rfl) (by omega) ?_
            intro a6 c6 w6 K4
            have k4c0 := K4.cell 7 rfl 0 rfl; have k4c1 := K4.cell 7 rfl 1 rfl; have k4f0 := K4.free 7 rfl 0; have k4f1 := K4.free 7 rfl 1; have k4l := K4.lt 7 rfl
            refine hK.out _ _ ?_ (fun hH6 => ?_)
            · trivial
            clear hK K
            try simp only [Act.put, List.getElem_toArray, List.getElem_cons_zero, List.getElem_cons_succ, List.setIfInBounds_toArray, List.set_cons_zero, List.set_cons_succ]
            refine takeD (i := 16) (d := 40) (v := .pointer (some ⟨c, 0, none⟩)) rfl rfl (by kernel_rfl) (by kernel_rfl) (by kernel_rfl) (fun _ _ _ h => h) (yldV [(24, .pointer (some ⟨c, 0, none⟩))] (by kernel_rfl) rfl (by kernel_rfl) ?_) hH6 ?_
            · intro w hSw; go_simp
            dsimp only [List.set_cons_zero, List.set_cons_succ]
            refine takeD (i := 17) (d := 41) (v := .pointer (some ⟨c, 0, none⟩)) rfl rfl (by kernel_rfl) (by kernel_rfl) (by kernel_rfl) (fun _ _ _ h => h) (yldV [(40, .pointer (some ⟨c, 0, none⟩))] (by kernel_rfl) rfl (by kernel_rfl) ?_) hH6 ?_
            · intro w hSw; go_simp
            dsimp only [List.set_cons_zero, List.set_cons_succ]
            refine wpAnyH_ready (rs := [18]) (by kernel_rfl) (by simp) (AllReadyH.cons (o := _) rfl (fun K hK => ?_) AllReadyH.nil)
            go_simp
            have K5 := K4.set 7 rfl 0 (.slice a5 (n + 1) c5)
            have k5c0 := K5.cell 0 rfl 0 rfl; have k5c1 := K5.cell 0 rfl 1 rfl; have k5f0 := K5.free 0 rfl 0; have k5f1 := K5.free 0 rfl 1; have k5l := K5.lt 0 rfl
            refine hK.out _ _ ?_ (fun hH7 => ?_)
            · trivial
            clear hK K
            try simp only [Act.put, List.getElem_toArray, List.getElem_cons_zero, List.getElem_cons_succ, List.setIfInBounds_toArray, List.set_cons_zero, List.set_cons_succ]
            refine takeD (i := 19) (d := 42) (v := .pointer (some ⟨c, 0, none⟩)) rfl rfl (by kernel_rfl) (by kernel_rfl) (by kernel_rfl) (fun _ _ _ h => h) (yldV [(25, .pointer (some ⟨c, 0, none⟩))] (by kernel_rfl) rfl (by kernel_rfl) ?_) hH7 ?_
            · intro w hSw; go_simp
            dsimp only [List.set_cons_zero, List.set_cons_succ]
            refine takeD (i := 20) (d := 43) (v := .pointer (some ⟨c, 1, none⟩)) rfl rfl (by kernel_rfl) (by kernel_rfl) (by kernel_rfl) (fun _ _ _ h => h) (yldV [(42, .pointer (some ⟨c, 0, none⟩))] (by kernel_rfl) rfl (by kernel_rfl) ?_) hH7 ?_
            · intro w hSw; go_simp
            dsimp only [List.set_cons_zero, List.set_cons_succ]
            refine wpAnyH_ready (rs := [21]) (by kernel_rfl) (by simp) (AllReadyH.cons (o := _) rfl (fun K hK => ?_) AllReadyH.nil)
            go_simp
            have K6 := K5.set 0 rfl 1 (.slice a6 (n + 1) c6)
            have k6c0 := K6.cell 0 rfl 0 rfl; have k6c1 := K6.cell 0 rfl 1 rfl; have k6f0 := K6.free 0 rfl 0; have k6f1 := K6.free 0 rfl 1; have k6l := K6.lt 0 rfl
            refine hK.out _ _ ?_ (fun hH8 => ?_)
            · trivial
            clear hK K
            refine wpAnyH_done (by kernel_rfl) ?_ _
            go_wp2_with fail
            go_meet
            exact Lib.hid' ⟨a5, c5, a6, c6, ((((((((((((K6.drop 3).drop 3).focus 5 rfl).focus 5 rfl).focus 5 rfl).focus 9 rfl).focus 9 rfl).focus 9 rfl).focus 7 rfl).focus 8 rfl).focus 9 rfl).focus 9 rfl)⟩
          · skip
            go_simp
            refine hK.out _ _ ?_ (fun hH4 => ?_)
            · trivial
            clear hK K
            try simp only [Act.put, List.getElem_toArray, List.getElem_cons_zero, List.getElem_cons_succ, List.setIfInBounds_toArray, List.set_cons_zero, List.set_cons_succ]
            refine wpAnyH_ready (rs := [8]) (by kernel_rfl) (by simp) (AllReadyH.cons (o := _) rfl (fun K hK => ?_) AllReadyH.nil)
            refine sep_appendAny etDisks rfl (.tmp 29) (.tmp 31) rfl [ptrV N] (slv_box K2 0 rfl) rfl K2 7 rfl rfl rfl (by intro x hx; simp only [List.mem_cons, List.not_mem_nil, or_false] at hx; subst hx; rfl) (by omega) ?_
            intro a5 c5 w5 K3
            have k3c0 := K3.cell 6 rfl 0 rfl; have k3c1 := K3.cell 6 rfl 1 rfl; have k3f0 := K3.free 6 rfl 0; have k3f1 := K3.free 6 rfl 1; have k3l := K3.lt 6 rfl
            refine hK.out _ _ ?_ (fun hH5 => ?_)
            · trivial
            clear hK K
            try simp only [Act.put, List.getElem_toArray, List.getElem_cons_zero, List.getElem_cons_succ, List.setIfInBounds_toArray, List.set_cons_zero, List.set_cons_succ]
            refine wpAnyH_ready (rs := [15]) (by kernel_rfl) (by simp) (AllReadyH.cons (o := _) rfl (fun K hK => ?_) AllReadyH.nil)
            refine sep_appendAny etShelves rfl (.tmp 36) (.tmp 38) rfl [ptrV q] (slv_box K3 2 rfl) rfl K3 8 rfl rfl rfl (by intro x hx; simp only [List.mem_cons, List.not_mem_nil, or_false] at hx; subst hx; rfl) (by omega) ?_
            intro a6 c6 w6 K4
            have k4c0 := K4.cell 7 rfl 0 rfl; have k4c1 := K4.cell 7 rfl 1 rfl; have k4f0 := K4.free 7 rfl 0; have k4f1 := K4.free 7 rfl 1; have k4l := K4.lt 7 rfl
            refine hK.out _ _ ?_ (fun hH6 => ?_)
            · trivial
            clear hK K
            try simp only [Act.put, List.getElem_toArray, List.getElem_cons_zero, List.getElem_cons_succ, List.setIfInBounds_toArray, List.set_cons_zero, List.set_cons_succ]
            refine takeD (i := 16) (d := 40) (v := .pointer (some ⟨c, 0, none⟩)) rfl rfl (by kernel_rfl) (by kernel_rfl) (by kernel_rfl) (fun _ _ _ h => h) (yldV [(24, .pointer (some ⟨c, 0, none⟩))] (by kernel_rfl) rfl (by kernel_rfl) ?_) hH6 ?_
            · intro w hSw; go_simp
            dsimp only [List.set_cons_zero, List.set_cons_succ]
            refine takeD (i := 17) (d := 41) (v := .pointer (some ⟨c, 0, none⟩)) rfl rfl (by kernel_rfl) (by kernel_rfl) (by kernel_rfl) (fun _ _ _ h => h) (yldV [(40, .pointer (some ⟨c, 0, none⟩))] (by kernel_rfl) rfl (by kernel_rfl) ?_) hH6 ?_
            · intro w hSw; go_simp
            dsimp only [List.set_cons_zero, List.set_cons_succ]
            refine wpAnyH_ready (rs := [18]) (by kernel_rfl) (by simp) (AllReadyH.cons (o := _) rfl (fun K hK => ?_) AllReadyH.nil)
            go_simp
            have K5 := K4.set 7 rfl 0 (.slice a5 (n + 1) c5)
            have k5c0 := K5.cell 0 rfl 0 rfl; have k5c1 := K5.cell 0 rfl 1 rfl; have k5f0 := K5.free 0 rfl 0; have k5f1 := K5.free 0 rfl 1; have k5l := K5.lt 0 rfl
            refine hK.out _ _ ?_ (fun hH7 => ?_)
            · trivial
            clear hK K
            try simp only [Act.put, List.getElem_toArray, List.getElem_cons_zero, List.getElem_cons_succ, List.setIfInBounds_toArray, List.set_cons_zero, List.set_cons_succ]
            refine takeD (i := 19) (d := 42) (v := .pointer (some ⟨c, 0, none⟩)) rfl rfl (by kernel_rfl) (by kernel_rfl) (by kernel_rfl) (fun _ _ _ h => h) (yldV [(25, .pointer (some ⟨c, 0, none⟩))] (by kernel_rfl) rfl (by kernel_rfl) ?_) hH7 ?_
            · intro w hSw; go_simp
            dsimp only [List.set_cons_zero, List.set_cons_succ]
            refine takeD (i := 20) (d := 43) (v := .pointer (some ⟨c, 1, none⟩)) rfl rfl (by kernel_rfl) (by kernel_rfl) (by kernel_rfl) (fun _ _ _ h => h) (yldV [(42, .pointer (some ⟨c, 0, none⟩))] (by kernel_rfl) rfl (by kernel_rfl) ?_) hH7 ?_
            · intro w hSw; go_simp
            dsimp only [List.set_cons_zero, List.set_cons_succ]
            refine wpAnyH_ready (rs := [21]) (by kernel_rfl) (by simp) (AllReadyH.cons (o := _) rfl (fun K hK => ?_) AllReadyH.nil)
            go_simp
            have K6 := K5.set 0 rfl 1 (.slice a6 (n + 1) c6)
            have k6c0 := K6.cell 0 rfl 0 rfl; have k6c1 := K6.cell 0 rfl 1 rfl; have k6f0 := K6.free 0 rfl 0; have k6f1 := K6.free 0 rfl 1; have k6l := K6.lt 0 rfl
            refine hK.out _ _ ?_ (fun hH8 => ?_)
            · trivial
            clear hK K
            refine wpAnyH_done (by kernel_rfl) ?_ _
            go_wp2_with fail
            go_meet
            exact Lib.hid' ⟨a5, c5, a6, c6, ((((((((((((K6.drop 3).drop 3).focus 5 rfl).focus 5 rfl).focus 5 rfl).focus 9 rfl).focus 9 rfl).focus 9 rfl).focus 7 rfl).focus 8 rfl).focus 9 rfl).focus 9 rfl)⟩
        · skip
          go_simp
          refine hK.out _ _ ?_ (fun hH3 => ?_)
          · trivial
          clear hK K
          try simp only [Act.put, List.getElem_toArray, List.getElem_cons_zero, List.getElem_cons_succ, List.setIfInBounds_toArray, List.set_cons_zero, List.set_cons_succ]
          refine wpAnyH_ready (rs := [5]) (by kernel_rfl) (by simp) (AllReadyH.cons (o := _) rfl (fun K hK => ?_) AllReadyH.nil)
          go_simp
          refine hK.out _ _ ?_ (fun hH4 => ?_)
          · trivial
          clear hK K
          try simp only [Act.put, List.getElem_toArray, List.getElem_cons_zero, List.getElem_cons_succ, List.setIfInBounds_toArray, List.set_cons_zero, List.set_cons_succ]
          refine wpAnyH_ready (rs := [8]) (by kernel_rfl) (by simp) (AllReadyH.cons (o := _) rfl (fun K hK => ?_) AllReadyH.nil)
          refine sep_appendAny etDisks rfl (.tmp 29) (.tmp 31) rfl [ptrV N] (slv_box K2 0 rfl) rfl K2 7 rfl rfl rfl (by intro x hx; simp only [List.mem_cons, List.not_mem_nil, or_false] at hx; subst hx; rfl) (by omega) ?_
          intro a5 c5 w5 K3
          have k3c0 := K3.cell 6 rfl 0 rfl; have k3c1 := K3.cell 6 rfl 1 rfl; have k3f0 := K3.free 6 rfl 0; have k3f1 := K3.free 6 rfl 1; have k3l := K3.lt 6 rfl
          refine hK.out _ _ ?_ (fun hH5 => ?_)
          · trivial
          clear hK K
          try simp only [Act.put, List.getElem_toArray, List.getElem_cons_zero, List.getElem_cons_succ, List.setIfInBounds_toArray, List.set_cons_zero, List.set_cons_succ]
          refine wpAnyH_ready (rs := [15]) (by kernel_rfl) (by simp) (AllReadyH.cons (o := _) rfl (fun K hK => ?_) AllReadyH.nil)
          refine sep_appendAny etShelves rfl (.tmp 36) (.tmp 38) rfl [ptrV q] (slv_box K3 2 rfl) rfl K3 8 rfl rfl rfl (by intro x hx; simp only [List.mem_cons, List.not_mem_nil, or_false] at hx; subst hx; rfl) (by omega) ?_
          intro a6 c6 w6 K4
          have k4c0 := K4.cell 7 rfl 0 rfl; have k4c1 := K4.cell 7 rfl 1 rfl; have k4f0 := K4.free 7 rfl 0; have k4f1 := K4.free 7 rfl 1; have k4l := K4.lt 7 rfl
          refine hK.out _ _ ?_ (fun hH6 => ?_)
          · trivial
          clear hK K
          try simp only [Act.put, List.getElem_toArray, List.getElem_cons_zero, List.getElem_cons_succ, List.setIfInBounds_toArray, List.set_cons_zero, List.set_cons_succ]
          refine takeD (i := 16) (d := 40) (v := .pointer (some ⟨c, 0, none⟩)) rfl rfl (by kernel_rfl) (by kernel_rfl) (by kernel_rfl) (fun _ _ _ h => h) (yldV [(24, .pointer (some ⟨c, 0, none⟩))] (by kernel_rfl) rfl (by kernel_rfl) ?_) hH6 ?_
          · intro w hSw; go_simp
          dsimp only [List.set_cons_zero, List.set_cons_succ]
          refine takeD (i := 17) (d := 41) (v := .pointer (some ⟨c, 0, none⟩)) rfl rfl (by kernel_rfl) (by kernel_rfl) (by kernel_rfl) (fun _ _ _ h => h) (yldV [(40, .pointer (some ⟨c, 0, none⟩))] (by kernel_rfl) rfl (by kernel_rfl) ?_) hH6 ?_
          · intro w hSw; go_simp
          dsimp only [List.set_cons_zero, List.set_cons_succ]
          refine wpAnyH_ready (rs := [18]) (by kernel_rfl) (by simp) (AllReadyH.cons (o := _) rfl (fun K hK => ?_) AllReadyH.nil)
          go_simp
          have K5 := K4.set 7 rfl 0 (.slice a5 (n + 1) c5)
          have k5c0 := K5.cell 0 rfl 0 rfl; have k5c1 := K5.cell 0 rfl 1 rfl; have k5f0 := K5.free 0 rfl 0; have k5f1 := K5.free 0 rfl 1; have k5l := K5.lt 0 rfl
          refine hK.out _ _ ?_ (fun hH7 => ?_)
          · trivial
          clear hK K
          try simp only [Act.put, List.getElem_toArray, List.getElem_cons_zero, List.getElem_cons_succ, List.setIfInBounds_toArray, List.set_cons_zero, List.set_cons_succ]
          refine takeD (i := 19) (d := 42) (v := .pointer (some ⟨c, 0, none⟩)) rfl rfl (by kernel_rfl) (by kernel_rfl) (by kernel_rfl) (fun _ _ _ h => h) (yldV [(25, .pointer (some ⟨c, 0, none⟩))] (by kernel_rfl) rfl (by kernel_rfl) ?_) hH7 ?_
          · intro w hSw; go_simp
          dsimp only [List.set_cons_zero, List.set_cons_succ]
          refine takeD (i := 20) (d := 43) (v := .pointer (some ⟨c, 1, none⟩)) rfl rfl (by kernel_rfl) (by kernel_rfl) (by kernel_rfl) (fun _ _ _ h => h) (yldV [(42, .pointer (some ⟨c, 0, none⟩))] (by kernel_rfl) rfl (by kernel_rfl) ?_) hH7 ?_
          · intro w hSw; go_simp
          dsimp only [List.set_cons_zero, List.set_cons_succ]
          refine wpAnyH_ready (rs := [21]) (by kernel_rfl) (by simp) (AllReadyH.cons (o := _) rfl (fun K hK => ?_) AllReadyH.nil)
          go_simp
          have K6 := K5.set 0 rfl 1 (.slice a6 (n + 1) c6)
          have k6c0 := K6.cell 0 rfl 0 rfl; have k6c1 := K6.cell 0 rfl 1 rfl; have k6f0 := K6.free 0 rfl 0; have k6f1 := K6.free 0 rfl 1; have k6l := K6.lt 0 rfl
          refine hK.out _ _ ?_ (fun hH8 => ?_)
          · trivial
          clear hK K
          refine wpAnyH_done (by kernel_rfl) ?_ _
          go_wp2_with fail
          go_meet
          exact Lib.hid' ⟨a5, c5, a6, c6, ((((((((((((K6.drop 3).drop 3).focus 5 rfl).focus 5 rfl).focus 5 rfl).focus 9 rfl).focus 9 rfl).focus 9 rfl).focus 7 rfl).focus 8 rfl).focus 9 rfl).focus 9 rfl)⟩
      · skip
        go_simp
        refine hK.out _ _ ?_ (fun hH2 => ?_)
        · trivial
        clear hK K
        try simp only [Act.put, List.getElem_toArray, List.getElem_cons_zero, List.getElem_cons_succ, List.setIfInBounds_toArray, List.set_cons_zero, List.set_cons_succ]
        refine wpAnyH_ready (rs := [5, 7]) (by kernel_rfl) (by simp) (AllReadyH.cons (o := _) rfl (fun K hK => ?_) (AllReadyH.cons (o := _) rfl (fun K hK => ?_) AllReadyH.nil))
        · skip
          go_simp
          refine hK.out _ _ ?_ (fun hH3 => ?_)
          · trivial
          clear hK K
          try simp only [Act.put, List.getElem_toArray, List.getElem_cons_zero, List.getElem_cons_succ, List.setIfInBounds_toArray, List.set_cons_zero, List.set_cons_succ]
          refine wpAnyH_ready (rs := [7]) (by kernel_rfl) (by simp) (AllReadyH.cons (o := _) rfl (fun K hK => ?_) AllReadyH.nil)
          go_simp
          have K2 := K1.allocAt (wd.heap.size + 1) [ptrV N] 50 (by simp)
          have k2c0 := K2.cell 5 rfl 0 rfl; have k2c1 := K2.cell 5 rfl 1 rfl; have k2f0 := K2.free 5 rfl 0; have k2f1 := K2.free 5 rfl 1; have k2l := K2.lt 5 rfl
          refine hK.out _ _ ?_ (fun hH4 => ?_)
          · trivial
          clear hK K
          try simp only [Act.put, List.getElem_toArray, List.getElem_cons_zero, List.getElem_cons_succ, List.setIfInBounds_toArray, List.set_cons_zero, List.set_cons_succ]
          refine wpAnyH_ready (rs := [8]) (by kernel_rfl) (by simp) (AllReadyH.cons (o := _) rfl (fun K hK => ?_) AllReadyH.nil)
          refine sep_appendAny etDisks rfl (.tmp 29) (.tmp 31) rfl [ptrV N] (slv_box K2 0 rfl) rfl K2 7 rfl rfl rfl (by intro x hx; simp only [List.mem_cons, List.not_mem_nil, or_false] at hx; subst hx; rfl) (by omega) ?_
          intro a5 c5 w5 K3
          have k3c0 := K3.cell 6 rfl 0 rfl; have k3c1 := K3.cell 6 rfl 1 rfl; have k3f0 := K3.free 6 rfl 0; have k3f1 := K3.free 6 rfl 1; have k3l := K3.lt 6 rfl
          refine hK.out _ _ ?_ (fun hH5 => ?_)
          · trivial
          clear hK K
          try simp only [Act.put, List.getElem_toArray, List.getElem_cons_zero, List.getElem_cons_succ, List.setIfInBounds_toArray, List.set_cons_zero, List.set_cons_succ]
          refine wpAnyH_ready (rs := [15]) (by kernel_rfl) (by simp) (AllReadyH.cons (o := _) rfl (fun K hK => ?_) AllReadyH.nil)
          refine sep_appendAny etShelves rfl (.tmp 36) (.tmp 38) rfl [ptrV q] (slv_box K3 2 rfl) rfl K3 8 rfl rfl rfl (by intro x hx; simp only [List.mem_cons, List.not_mem_nil, or_false] at hx; subst hx; rfl) (by omega) ?_
          intro a6 c6 w6 K4
          have k4c0 := K4.cell 7 rfl 0 rfl; have k4c1 := K4.cell 7 rfl 1 rfl; have k4f0 := K4.free 7 rfl 0; have k4f1 := K4.free 7 rfl 1; have k4l := K4.lt 7 rfl
          refine hK.out _ _ ?_ (fun hH6 => ?_)
          · trivial
          clear hK K
          try simp only [Act.put, List.getElem_toArray, List.getElem_cons_zero, List.getElem_cons_succ, List.setIfInBounds_toArray, List.set_cons_zero, List.set_cons_succ]
          refine takeD (i := 16) (d := 40) (v := .pointer (some ⟨c, 0, none⟩)) rfl rfl (by kernel_rfl) (by kernel_rfl) (by kernel_rfl) (fun _ _ _ h => h) (yldV [(24, .pointer (some ⟨c, 0, none⟩))] (by kernel_rfl) rfl (by kernel_rfl) ?_) hH6 ?_
          · intro w hSw; go_simp
          dsimp only [List.set_cons_zero, List.set_cons_succ]
          refine takeD (i := 17) (d := 41) (v := .pointer (some ⟨c, 0, none⟩)) rfl rfl (by kernel_rfl) (by kernel_rfl) (by kernel_rfl) (fun _ _ _ h => h) (yldV [(40, .pointer (some ⟨c, 0, none⟩))] (by kernel_rfl) rfl (by kernel_rfl) ?_) hH6 ?_
          · intro w hSw; go_simp
          dsimp only [List.set_cons_zero, List.set_cons_succ]
          refine wpAnyH_ready (rs := [18]) (by kernel_rfl) (by simp) (AllReadyH.cons (o := _) rfl (fun K hK => ?_) AllReadyH.nil)
          go_simp
          have K5 := K4.set 7 rfl 0 (.slice a5 (n + 1) c5)
          have k5c0 := K5.cell 0 rfl 0 rfl; have k5c1 := K5.cell 0 rfl 1 rfl; have k5f0 := K5.free 0 rfl 0; have k5f1 := K5.free 0 rfl 1; have k5l := K5.lt 0 rfl
          refine hK.out _ _ ?_ (fun hH7 => ?_)
          · trivial
          clear hK K
          try simp only [Act.put, List.getElem_toArray, List.getElem_cons_zero, List.getElem_cons_succ, List.setIfInBounds_toArray, List.set_cons_zero, List.set_cons_succ]
          refine takeD (i := 19) (d := 42) (v := .pointer (some ⟨c, 0, none⟩)) rfl rfl (by kernel_rfl) (by kernel_rfl) (by kernel_rfl) (fun _ _ _ h => h) (yldV [(25, .pointer (some ⟨c, 0, none⟩))] (by kernel_rfl) rfl (by kernel_rfl) ?_) hH7 ?_
          · intro w hSw; go_simp
          dsimp only [List.set_cons_zero, List.set_cons_succ]
          refine takeD (i := 20) (d := 43) (v := .pointer (some ⟨c, 1, none⟩)) rfl rfl (by kernel_rfl) (by kernel_rfl) (by kernel_rfl) (fun _ _ _ h => h) (yldV [(42, .pointer (some ⟨c, 0, none⟩))] (by kernel_rfl) rfl (by kernel_rfl) ?_) hH7 ?_
          · intro w hSw; go_simp
          dsimp only [List.set_cons_zero, List.set_cons_succ]
          refine wpAnyH_ready (rs := [21]) (by kernel_rfl) (by simp) (AllReadyH.cons (o := _) rfl (fun K hK => ?_) AllReadyH.nil)
          go_simp
          have K6 := K5.set 0 rfl 1 (.slice a6 (n + 1) c6)
          have k6c0 := K6.cell 0 rfl 0 rfl; have k6c1 := K6.cell 0 rfl 1 rfl; have k6f0 := K6.free 0 rfl 0; have k6f1 := K6.free 0 rfl 1; have k6l := K6.lt 0 rfl
          refine hK.out _ _ ?_ (fun hH8 => ?_)
          · trivial
          clear hK K
          refine wpAnyH_done (by kernel_rfl) ?_ _
          go_wp2_with fail
          go_meet
          exact Lib.hid' ⟨a5, c5, a6, c6, ((((((((((((K6.drop 3).drop 3).focus 5 rfl).focus 5 rfl).focus 5 rfl).focus 9 rfl).focus 9 rfl).focus 9 rfl).focus 7 rfl).focus 8 rfl).focus 9 rfl).focus 9 rfl)⟩
        · skip
          go_simp
          have K2 := K1.allocAt (wd.heap.size + 1) [ptrV N] 50 (by simp)
          have k2c0 := K2.cell 5 rfl 0 rfl; have k2c1 := K2.cell 5 rfl 1 rfl; have k2f0 := K2.free 5 rfl 0; have k2f1 := K2.free 5 rfl 1; have k2l := K2.lt 5 rfl
          refine hK.out _ _ ?_ (fun hH3 => ?_)
          · trivial
          clear hK K
          try simp only [Act.put, List.getElem_toArray, List.getElem_cons_zero, List.getElem_cons_succ, List.setIfInBounds_toArray, List.set_cons_zero, List.set_cons_succ]
          refine wpAnyH_ready (rs := [5]) (by kernel_rfl) (by simp) (AllReadyH.cons (o := _) rfl (fun K hK => ?_) AllReadyH.nil)
          go_simp
          refine hK.out _ _ ?_ (fun hH4 => ?_)
          · trivial
          clear hK K
          try simp only [Act.put, List.getElem_toArray, List.getElem_cons_zero, List.getElem_cons_succ, List.setIfInBounds_toArray, List.set_cons_zero, List.set_cons_succ]
          refine wpAnyH_ready (rs := [8]) (by kernel_rfl) (by simp) (AllReadyH.cons (o := _) rfl (fun K hK => ?_) AllReadyH.nil)
          refine sep_appendAny etDisks rfl (.tmp 29) (.tmp 31) rfl [ptrV N] (slv_box K2 0 rfl) rfl K2 7 rfl rfl rfl (by intro x hx; simp only [List.mem_cons, List.not_mem_nil, or_false] at hx; subst hx; rfl) (by omega) ?_
          intro a5 c5 w5 K3
          have k3c0 := K3.cell 6 rfl 0 rfl; have k3c1 := K3.cell 6 rfl 1 rfl; have k3f0 := K3.free 6 rfl 0; have k3f1 := K3.free 6 rfl 1; have k3l := K3.lt 6 rfl
          refine hK.out _ _ ?_ (fun hH5 => ?_)
          · trivial
          clear hK K
          try simp only [Act.put, List.getElem_toArray, List.getElem_cons_zero, List.getElem_cons_succ, List.setIfInBounds_toArray, List.set_cons_zero, List.set_cons_succ]
          refine wpAnyH_ready (rs := [15]) (by kernel_rfl) (by simp) (AllReadyH.cons (o := _) rfl (fun K hK => ?_) AllReadyH.nil)
          refine sep_appendAny etShelves rfl (.tmp 36) (.tmp 38) rfl [ptrV q] (slv_box K3 2 rfl) rfl K3 8 rfl rfl rfl (by intro x hx; simp only [List.mem_cons, List.not_mem_nil, or_false] at hx; subst hx; rfl) (by omega) ?_
          intro a6 c6 w6 K4
          have k4c0 := K4.cell 7 rfl 0 rfl; have k4c1 := K4.cell 7 rfl 1 rfl; have k4f0 := K4.free 7 rfl 0; have k4f1 := K4.free 7 rfl 1; have k4l := K4.lt 7 rfl
          refine hK.out _ _ ?_ (fun hH6 => ?_)
          · trivial
          clear hK K
          try simp only [Act.put, List.getElem_toArray, List.getElem_cons_zero, List.getElem_cons_succ, List.setIfInBounds_toArray, List.set_cons_zero, List.set_cons_succ]
          refine takeD (i := 16) (d := 40) (v := .pointer (some ⟨c, 0, none⟩)) rfl rfl (by kernel_rfl) (by kernel_rfl) (by kernel_rfl) (fun _ _ _ h => h) (yldV [(24, .pointer (some ⟨c, 0, none⟩))] (by kernel_rfl) rfl (by kernel_rfl) ?_) hH6 ?_
          · intro w hSw; go_simp
          dsimp only [List.set_cons_zero, List.set_cons_succ]
          refine takeD (i := 17) (d := 41) (v := .pointer (some ⟨c, 0, none⟩)) rfl rfl (by kernel_rfl) (by kernel_rfl) (by kernel_rfl) (fun _ _ _ h => h) (yldV [(40, .pointer (some ⟨c, 0, none⟩))] (by kernel_rfl) rfl (by kernel_rfl) ?_) hH6 ?_
          · intro w hSw; go_simp
          dsimp only [List.set_cons_zero, List.set_cons_succ]
          refine wpAnyH_ready (rs := [18]) (by kernel_rfl) (by simp) (AllReadyH.cons (o := _) rfl (fun K hK => ?_) AllReadyH.nil)
          go_simp
          have K5 := K4.set 7 rfl 0 (.slice a5 (n + 1) c5)
          have k5c0 := K5.cell 0 rfl 0 rfl; have k5c1 := K5.cell 0 rfl 1 rfl; have k5f0 := K5.free 0 rfl 0; have k5f1 := K5.free 0 rfl 1; have k5l := K5.lt 0 rfl
          refine hK.out _ _ ?_ (fun hH7 => ?_)
          · trivial
          clear hK K
          try simp only [Act.put, List.getElem_toArray, List.getElem_cons_zero, List.getElem_cons_succ, List.setIfInBounds_toArray, List.set_cons_zero, List.set_cons_succ]
          refine takeD (i := 19) (d := 42) (v := .pointer (some ⟨c, 0, none⟩)) rfl rfl (by kernel_rfl) (by kernel_rfl) (by kernel_rfl) (fun _ _ _ h => h) (yldV [(25, .pointer (some ⟨c, 0, none⟩))] (by kernel_rfl) rfl (by kernel_rfl) ?_) hH7 ?_
          · intro w hSw; go_simp
          dsimp only [List.set_cons_zero, List.set_cons_succ]
          refine takeD (i := 20) (d := 43) (v := .pointer (some ⟨c, 1, none⟩)) rfl rfl (by kernel_rfl) (by kernel_rfl) (by kernel_rfl) (fun _ _ _ h => h) (yldV [(42, .pointer (some ⟨c, 0, none⟩))] (by kernel_rfl) rfl (by kernel_rfl) ?_) hH7 ?_
          · intro w hSw; go_simp
          dsimp only [List.set_cons_zero, List.set_cons_succ]
          refine wpAnyH_ready (rs := [21]) (by kernel_rfl) (by simp) (AllReadyH.cons (o := _) rfl (fun K hK => ?_) AllReadyH.nil)
          go_simp
          have K6 := K5.set 0 rfl 1 (.slice a6 (n + 1) c6)
          have k6c0 := K6.cell 0 rfl 0 rfl; have k6c1 := K6.cell 0 rfl 1 rfl; have k6f0 := K6.free 0 rfl 0; have k6f1 := K6.free 0 rfl 1; have k6l := K6.lt 0 rfl
          refine hK.out _ _ ?_ (fun hH8 => ?_)
          · trivial
          clear hK K
          refine wpAnyH_done (by kernel_rfl) ?_ _
          go_wp2_with fail
          go_meet
          exact Lib.hid' ⟨a5, c5, a6, c6, ((((((((((((K6.drop 3).drop 3).focus 5 rfl).focus 5 rfl).focus 5 rfl).focus 9 rfl).focus 9 rfl).focus 9 rfl).focus 7 rfl).focus 8 rfl).focus 9 rfl).focus 9 rfl)⟩

  case rest =>

    clear H3
    obtain ⟨a5, c5, a6, c6, hs⟩ := hcut.out
    obtain ⟨hn, hxd, hxs, hR, he0, hj0⟩ := HE.out
    have s1 := ((hs.focus 9 rfl).focus 7 rfl).poolJoin
    have s2 := (s1.focus 8 rfl).focus 8 rfl
    obtain ⟨G, s3⟩ := Sep.pack (I := unI N (some q) (newU room) (vs ++ us)) [Asn.disk N (newD room) G2, Asn.shelf q N ⟨U.new, 0, false⟩ us G3] s2 ⟨us, G2, G3, fun x hx => List.mem_append_right _ hx, rfl⟩
    have s4 : Sep W NoF ([unA (vs ++ us) ⟨N, some q, newU room, G⟩, Asn.pool (fun b => Z0 b ∨ Z b) (vs ++ us), .box c [.slice a5 (n + 1) c5, .slice a6 (n + 1) c6, .int .i64 e0, j0, ptrV b] 63, Asn.seq b M.q, .row 50 1 (.slice a5 (n + 1) c5) (n + 1) (xd ++ [ptrV N]), .row 79 1 (.slice a6 (n + 1) c6) (n + 1) (xs ++ [ptrV q]), .row 26 1 j0 J2.Ks.length (J2.Ks.map chV), Asn.all (J2.Ks.map chA)] ++ (Us.map (unA vs) ++ L)) wc := by rw [hR]; exact s3
    have s5 := Sep.convAll _ _ (fun y _ => unA_more (us := vs ++ us) (fun x hx => List.mem_append_left _ hx) y) s4
    have hC : ClOK (M.grow (newU room)) ⟨b, .slice a5 (n + 1) c5, .slice a6 (n + 1) c6, Us ++ [⟨N, some q, newU room, G⟩], J2, fun b => Z0 b ∨ Z b, vs ++ us⟩ := ⟨by show (Us ++ [(⟨N, some q, newU room, G⟩ : UnP)]).map (fun y : UnP => y.x) = M.us ++ [newU room]; rw [List.map_append, show Us.map (fun y : UnP => y.x) = M.us from HPO.out.us]; rfl, HPO.out.cs⟩
    have s6 : Sep W NoF (clL c (M.grow (newU room)) ⟨b, .slice a5 (n + 1) c5, .slice a6 (n + 1) c6, Us ++ [⟨N, some q, newU room, G⟩], J2, fun b => Z0 b ∨ Z b, vs ++ us⟩ L) wc := by
      unfold clL clK
      simp only [List.length_append, List.length_singleton, List.map_append, List.map_cons, List.map_nil]
      rw [hn, hxd, hxs, hj0]
      show Sep W NoF ([.box c [.slice a5 (n + 1) c5, .slice a6 (n + 1) c6, .int .i64 M.p.e, j0, ptrV b] 63, Asn.seq b M.q, .row 50 1 (.slice a5 (n + 1) c5) (n + 1) (xd ++ [ptrV N]), .row 79 1 (.slice a6 (n + 1) c6) (n + 1) (xs ++ [ptrV q]), .row 26 1 j0 J2.Ks.length (J2.Ks.map chV), Asn.all (J2.Ks.map chA)] ++ (Asn.pool (fun b => Z0 b ∨ Z b) (vs ++ us) :: ((Us.map (unA (vs ++ us)) ++ [unA (vs ++ us) ⟨N, some q, newU room, G⟩]) ++ L))) wc
      rw [he0]
      refine s5.perm ?_
      rw [List.append_assoc]
      have p1 : ∀ (A B : Asn) (K X L : List Asn), (([A, B] ++ K) ++ (X ++ L)).Perm (K ++ (B :: (X ++ ([A] ++ L)))) := by
        intro A B K X L
        have q1 : (([A, B] ++ K) ++ (X ++ L)).Perm (B :: (K ++ (X ++ ([A] ++ L)))) := by
          refine (List.Perm.swap _ _ _).trans (List.Perm.cons _ ?_)
          have e : K ++ (X ++ ([A] ++ L)) = (K ++ X) ++ (A :: L) := by simp
          rw [e]
          have e2 : A :: ([] ++ K ++ (X ++ L)) = A :: ((K ++ X) ++ L) := by simp
          first | rw [e2]; exact List.perm_middle.symm | (show (A :: (K ++ (X ++ L))).Perm _; rw [← List.append_assoc]; exact List.perm_middle.symm)
        exact q1.trans List.perm_middle.symm
      exact p1 _ _ _ _ _
    clear s1 s2 s3 s4 s5 hs
    have hy : (Us ++ [(⟨N, some q, newU room, G⟩ : UnP)])[Us.length]? = some ⟨N, some q, newU room, G⟩ := by simp
    obtain ⟨S, hS, hsh, hback⟩ := cl_on hC hy rfl s6
    obtain rfl : (⟨U.new, 0, false⟩ : Sf) = S := by cases hS; rfl
    have hun : (M.grow (newU room)).us[M.us.length]? = some ⟨newD room, some ⟨U.new, 0, false⟩⟩ := by show (M.us ++ [newU room])[M.us.length]? = _; simp [newU]
    have HDO := Lib.hid' (do_on sealA hun)
    have hUM : Us.length = M.us.length := by rw [← HPO.out.us, List.length_map]
    have HKD := Lib.hid' (kdo2_any sealA none 0 _ HP.out hsh (Sd.new HR.out) (bytes_nil _))
    have HBK := Lib.hid' hback
    clear hsh hback hS hy hC s6 hun hn hxd hxs hR he0 hj0 hcut HE
    rw [show ac9V sealA none 0 = .agg #[.int .i64 1, .int .i64 1, .int .i64 0, .slice none 0 0] from rfl] at HKD
    go_wp2_with fail
    refine HKD.out.mono ?_
    rintro e w9 ⟨rfl, us9, hs9, h9⟩
    have H9 := Lib.hid' (HBK.out _ _ us9 w9 [] hs9 h9)
    clear h9 HBK HKD
    have hres : M.add room = ((doS ⟨U.new, 0, false⟩ (newD room) sealA).1, (M.grow (newU room)).put M.us.length ⟨(doS ⟨U.new, 0, false⟩ (newD room) sealA).2.2.2, some (doS ⟨U.new, 0, false⟩ (newD room) sealA).2.2.1⟩) := by rw [HA2.out, HDO.out]
    have HRES := Lib.hid' hres
    clear hres
    go_wp2_with fail
    go_ret
    rw [HRES.out]
    refine ⟨rfl, ?_⟩
    have h10 := H9.out
    rw [hUM] at h10
    exact h10
end SL
end Go.Proofs.YtcdeoofeofjdnaaGreatDoor
