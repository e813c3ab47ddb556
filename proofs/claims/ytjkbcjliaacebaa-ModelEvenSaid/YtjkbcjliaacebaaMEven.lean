/- The statement ModelEven: its walk. -/
import Derived.Test.YtjkbcjliaacebaaMdlF
import Derived.Test.YtjkbcjliaacebaaMPlays
namespace Go.Proofs.Ytjkbcjliaacebaa
open Go.RowKit
set_option linter.unusedSimpArgs false
set_option linter.unusedVariables false
set_option maxRecDepth 100000

@[go_sem] theorem index_ev0 (w : World) (x y : Value) : (Instr.index 72 (.agg #[x, y]) (.int .i64 0)).run Try.prog w = .ok x w := by kernel_rfl
@[go_sem] theorem index_ev1 (w : World) (x y : Value) : (Instr.index 72 (.agg #[x, y]) (.int .i64 1)).run Try.prog w = .ok y w := by kernel_rfl
/-- what befalls one model leaves the other -/
theorem LogAt.apart {w w' : World} {bl bm ul um : Nat} {a b : M} (ha : LogAt (fun k => k = bl ∨ k = bm) w bl bm a) (hb : LogAt (fun k => k = ul ∨ k = um) w ul um b) (h1 : ¬ (ul = bl ∨ ul = bm)) (h2 : ¬ (um = bl ∨ um = bm)) (hf : Fr (fun k => k = bl ∨ k = bm) w w') :
    LogAt (fun k => k = ul ∨ k = um) w' ul um b := by
  refine ⟨(hf.block _ hb.lt.1 h1).trans hb.blk, ?_, hb.ok, hb.abl, hb.abm⟩
  obtain ⟨L, hm, hr⟩ := hb.map
  refine ⟨L, hm.block (hf.block _ hb.lt.2 h2), hr.mono fun x q _ _ hq => ?_⟩
  obtain ⟨he, ad, cap, hv, hd, hx⟩ := hq
  exact ⟨he, ad, cap, hv, ha.bytes hd hf, fun x e => ⟨(hx x e).1, Nat.lt_of_lt_of_le (hx x e).2 hf.size⟩⟩
structure EvAt (W : World) (N0 N1 Nb : Nat) (a b : M) (wr : World) : Prop where
  below : Below W.heap.size W wr
  la : LogAt (fun k => k = N0 + 1 ∨ k = N0) wr (N0 + 1) N0 a
  lb : LogAt (fun k => k = N1 + 1 ∨ k = N1) wr (N1 + 1) N1 b
  arr : BoxW Nb [.pointer (some ⟨N0 + 1, 0, none⟩), .pointer (some ⟨N1 + 1, 0, none⟩)] 73 wr
  ord : W.heap.size < N0 ∧ N0 + 1 < N1 ∧ N1 + 1 < Nb
theorem EvAt.past {W wr w' : World} {N0 N1 Nb : Nat} {a b : M} (h : EvAt W N0 N1 Nb a b wr) (hb : Below wr.heap.size wr w') : EvAt W N0 N1 Nb a b w' :=
  ⟨h.below.trans (hb.mono h.below.size), h.la.below (Nat.le_refl _) hb, h.lb.below (Nat.le_refl _) hb, h.arr.below (Nat.le_refl _) hb, h.ord⟩
theorem EvAt.stepA {W wr w' : World} {N0 N1 Nb : Nat} {a b a' : M} (h : EvAt W N0 N1 Nb a b wr) (hf : Fr (fun k => k = N0 + 1 ∨ k = N0) wr w') (ha : LogAt (fun k => k = N0 + 1 ∨ k = N0) w' (N0 + 1) N0 a') : EvAt W N0 N1 Nb a' b w' :=
  have ho := h.ord
  ⟨h.below.trans (hf.below h.below.size (fun q hq => by omega)), ha, h.la.apart h.lb (by omega) (by omega) hf, h.arr.fr hf (by omega), h.ord⟩
theorem EvAt.stepB {W wr w' : World} {N0 N1 Nb : Nat} {a b b' : M} (h : EvAt W N0 N1 Nb a b wr) (hf : Fr (fun k => k = N1 + 1 ∨ k = N1) wr w') (hb : LogAt (fun k => k = N1 + 1 ∨ k = N1) w' (N1 + 1) N1 b') : EvAt W N0 N1 Nb a b' w' :=
  have ho := h.ord
  ⟨h.below.trans (hf.below h.below.size (fun q hq => by omega)), h.lb.apart h.la (by omega) (by omega) hf, hb, h.arr.fr hf (by omega), h.ord⟩
theorem rd_in {m : M} {n : Int} (h : inR n 1048575 = true) : m.rd n = (0, m.u.at n) := by unfold M.rd; rw [h]; rfl
set_option maxHeartbeats 8000000 in
theorem modelEven_any (X Y : List A13) (xa ya : Option Addr) (xc yc : Nat) (W : World) (hx : S13At W (.slice xa X.length xc) X) (hy : S13At W (.slice ya Y.length yc) Y) :
    Calls Try.prog 6 #[.agg #[.slice xa X.length xc, .slice ya Y.length yc]] W fun e w' => e = .returned (.bool true) ∧ Below W.heap.size W w' := by
  have HX := Lib.hid' hx
  have HY := Lib.hid' hy
  have hxl : X.length ≤ 9223372036854775807 := by obtain ⟨_, _, he, h1, h2, _⟩ := hx.1; cases he; unfold maxLen at h2; omega
  have hyl : Y.length ≤ 9223372036854775807 := by obtain ⟨_, _, he, h1, h2, _⟩ := hy.1; cases he; unfold maxLen at h2; omega
  clear hx hy
  go_enter Try.func6, Try.ntmps6
  go_wp2_with fail
  refine (alive33_any _).mono ?_
  rintro e w1 ⟨rfl, hb1⟩
  have HB1 := Lib.hid' (show Below W.heap.size W w1 from below_call (by go_grown) (by simp) hb1)
  have hz1 : W.heap.size < w1.heap.size := by have := hb1.size; simp at this; omega
  have c0 := ((bcell hb1).1 W.heap.size 0 (by simp)).trans (show _ = some (.slice xa X.length xc) by simp [go_sem])
  have c1 := ((bcell hb1).1 W.heap.size 1 (by simp)).trans (show _ = some (.slice ya Y.length yc) by simp [go_sem])
  clear hb1
  go_wp2_with fail
  refine (mnew_any _).mono ?_
  rintro e w2 ⟨rfl, hb2, hs2, hu2⟩
  have HU2 := Lib.hid' (hu2 (fun k => k = w1.heap.size + 1 ∨ k = w1.heap.size) (.inr rfl) (.inl rfl))
  have HB2 := Lib.hid' (HB1.out.trans (hb2.mono (by omega)))
  have c02 := (hb2.cell (p := ⟨W.heap.size, 0, none⟩) hz1).trans c0
  have c12 := (hb2.cell (p := ⟨W.heap.size, 1, none⟩) hz1).trans c1
  have HS2 := Lib.hid' hs2
  have hz2 : W.heap.size < w2.heap.size := by omega
  clear hu2 hb2 hs2 c0 c1 HB1
  go_wp2_with fail
  refine (mnew_any _).mono ?_
  rintro e w3 ⟨rfl, hb3, hs3, hu3⟩
  have HV3 := Lib.hid' (hu3 (fun k => k = w2.heap.size + 1 ∨ k = w2.heap.size) (.inr rfl) (.inl rfl))
  have HU3 := Lib.hid' (HU2.out.below (Nat.le_refl _) hb3)
  have HB3 := Lib.hid' (HB2.out.trans (hb3.mono (by omega)))
  have c03 := (hb3.cell (p := ⟨W.heap.size, 0, none⟩) hz2).trans c02
  have c13 := (hb3.cell (p := ⟨W.heap.size, 1, none⟩) hz2).trans c12
  have HS3 := Lib.hid' hs3
  have hz3 : W.heap.size < w3.heap.size := by omega
  clear hu3 hb3 hs3 c02 c12 HB2 HU2
  go_wp2_with fail
  have hg4 : Below w3.heap.size w3 (w3.alloc (.cells #[.pointer (some ⟨w1.heap.size + 1, 0, none⟩), .pointer (some ⟨w2.heap.size + 1, 0, none⟩)] 73)) := by go_grown
  have HE := Lib.hid' (show EvAt W w1.heap.size w2.heap.size w3.heap.size M.new M.new (w3.alloc (.cells #[.pointer (some ⟨w1.heap.size + 1, 0, none⟩), .pointer (some ⟨w2.heap.size + 1, 0, none⟩)] 73)) from
    ⟨HB3.out.trans (hg4.mono (by omega)), HU3.out.below (Nat.le_refl _) hg4, HV3.out.below (Nat.le_refl _) hg4, BoxW.start _ _ _, by have := HS2.out; have := HS3.out; omega⟩)
  clear hg4 c03 c13 HB3 HU3 HV3 hz1 hz2 hz3 HS2 HS3
  generalize w3.alloc (.cells #[.pointer (some ⟨w1.heap.size + 1, 0, none⟩), .pointer (some ⟨w2.heap.size + 1, 0, none⟩)] 73) = w4 at *
  generalize w1.heap.size = N0 at *
  generalize w2.heap.size = N1 at *
  generalize w3.heap.size = Nb at *
  go_loopw [26] (fun v26 wr => ∃ (k : Nat) (a b : M), v26 = .int .i64 k ∧ k ≤ 2 ∧ Hid ((k = 0 → a.u.cells.length = 0) ∧ (k ≤ 1 → b.u.cells.length = 0) ∧ a.u.cells.length ≤ 60 ∧ b.u.cells.length ≤ 60) ∧ Hid (EvAt W N0 N1 Nb a b wr)) (fun v26 _ => 2 - (intOf v26).toNat)
  case atStart => exact ⟨0, M.new, M.new, rfl, by omega, Lib.hid' ⟨fun _ => rfl, fun _ => rfl, by simp [M.new, U.new], by simp [M.new, U.new]⟩, HE⟩
  case round =>
    clear HE
    obtain ⟨k, a, b, rfl, hk, HLN, HE⟩ := hrel
    by_cases hlt : k < 2
    · rcases (show k = 0 ∨ k = 1 by omega) with rfl | rfl
      · clear hlt hk
        go_wp2_with fail
        refine (long13_any X 60 (by decide) xa xc wr (HX.out.below (Nat.le_refl _) HE.out.below)).mono ?_
        rintro en w5 ⟨rfl, hb5⟩
        have HE5 := Lib.hid' (HE.out.past hb5)
        clear hb5 HE
        cases hq : longS X 60 with
        | true =>
          clear hq
          go_wp2
          go_ret
          exact ⟨rfl, HE5.out.below⟩
        | false =>
        obtain ⟨hl60, hl100⟩ := longS_false hq
        have HL100 := Lib.hid' hl100
        clear hq hl100
        have HL0 := Lib.hid' (show a.u.cells.length = 0 from HLN.out.1 (by trivial))
        go_wp2_with fail
        go_loopw [34] (fun v34 ws => ∃ (j : Nat) (m : M), v34 = .int .i64 j ∧ j ≤ X.length ∧ Hid (m.u.cells.length ≤ j) ∧ Hid (EvAt W N0 N1 Nb m b ws)) (fun v34 _ => X.length - (intOf v34).toNat)
        case atStart => exact ⟨0, a, rfl, Nat.zero_le _, Lib.hid' (by rw [HL0.out]; exact Nat.le_refl _), HE5⟩
        case round =>
          clear HE5
          obtain ⟨j, m, rfl, hj, HML, HE⟩ := hrel
          by_cases hltj : j < X.length
          · obtain ⟨hsl, hby⟩ := HX.out.below (Nat.le_refl _) HE.out.below
            obtain ⟨b3, off3, rfl, hb3, hc3⟩ := SlV.row (s := 7) (fun _ => rfl) (by decide) hsl hltj
            have c0 := hc3 0 _ rfl; have c1 := hc3 1 _ rfl; have c2 := hc3 2 _ rfl; have c3 := hc3 3 _ rfl; have c4 := hc3 4 _ rfl; have c5 := hc3 5 _ rfl; have c6 := hc3 6 _ rfl
            simp only [Nat.add_zero] at c0
            have HIN := Lib.hid' (hby _ (List.getElem_mem hltj))
            have HXl := Lib.hid' (HL100.out _ (List.getElem_mem hltj))
            clear hsl hby hc3
            generalize X[j] = x at *
            go_upto_region 12 with fail
            have HBX := Lib.hid' (show BoxW wr.heap.size [.int .i64 x.k, .int .i64 x.un, .int .i64 x.a, .int .i64 x.c.k, .slice x.da x.c.d.length x.dc, .slice x.ka x.kl x.kc, .slice x.sa x.sl x.sc] 66 (wr.alloc (.cells #[.int .i64 x.k, .int .i64 x.un, .int .i64 x.a, .int .i64 x.c.k, .slice x.da x.c.d.length x.dc, .slice x.ka x.kl x.kc, .slice x.sa x.sl x.sc] 66)) from BoxW.start _ _ _)
            have HGa := Lib.hid' (show Below wr.heap.size wr (wr.alloc (.cells #[.int .i64 x.k, .int .i64 x.un, .int .i64 x.a, .int .i64 x.c.k, .slice x.da x.c.d.length x.dc, .slice x.ka x.kl x.kc, .slice x.sa x.sl x.sc] 66)) by go_grown)
            generalize wr.alloc (.cells #[.int .i64 x.k, .int .i64 x.un, .int .i64 x.a, .int .i64 x.c.k, .slice x.da x.c.d.length x.dc, .slice x.ka x.kl x.kc, .slice x.sa x.sl x.sc] 66) = wa at *
            clear c0 c1 c2 c3 c4 c5 c6 hb3
            have hbd : Below wa.heap.size wa wa.drew := Below.drew (Below.refl _ _)
            have HEd := Lib.hid' ((HE.out.past HGa.out).past hbd)
            have HINd := Lib.hid' (show A13.In wa.drew x from ⟨SlV.below HIN.out.d (Nat.le_refl _) (HGa.out.trans (hbd.mono HGa.out.size)), HIN.out.k, HIN.out.s⟩)
            have HBXd := Lib.hid' (HBX.out.below (Nat.le_refl _) hbd)
            have x0 := HBX.out.box.1 0 _ rfl; have x1 := HBX.out.box.1 1 _ rfl; have x2 := HBX.out.box.1 2 _ rfl; have x3 := HBX.out.box.1 3 _ rfl; have x4 := HBX.out.box.1 4 _ rfl; have x5 := HBX.out.box.1 5 _ rfl; have x6 := HBX.out.box.1 6 _ rfl
            have y0 := (HE.out.past HGa.out).arr.box.1 0 _ rfl
            have hNb := HE.out.arr.lt
            obtain ⟨Na, hNa⟩ : ∃ Na, Na = wr.heap.size := ⟨_, rfl⟩
            rw [← hNa] at x0 x1 x2 x3 x4 x5 x6 hNb HBXd HBX
            rw [← hNa]
            clear hNa hbd
            refine wp_region_held_drew (S := (fun w' => w'.cell? ⟨Nb, 0, none⟩ = some (.pointer (some ⟨N0 + 1, 0, none⟩)) ∧ w'.cell? ⟨Na, 0, none⟩ = some (.int .i64 x.k) ∧ w'.cell? ⟨Na, 1, none⟩ = some (.int .i64 x.un) ∧ w'.cell? ⟨Na, 2, none⟩ = some (.int .i64 x.a) ∧ w'.cell? ⟨Na, 3, none⟩ = some (.int .i64 x.c.k) ∧ w'.cell? ⟨Na, 4, none⟩ = some (.slice x.da x.c.d.length x.dc) ∧ w'.cell? ⟨Na, 5, none⟩ = some (.slice x.ka x.kl x.kc) ∧ w'.cell? ⟨Na, 6, none⟩ = some (.slice x.sa x.sl x.sc))) (by kernel_rfl) ⟨by simpa using y0, by simpa using x0, by simpa using x1, by simpa using x2, by simpa using x3, by simpa using x4, by simpa using x5, by simpa using x6⟩ (fun hH0 => ?_)
            refine wpAnyH_take (i := 0) (oi := _) (v := .int .i64 0) rfl (by kernel_rfl) (by kernel_rfl) (by kernel_rfl) (fun _ _ _ h => h) (Or.inl ⟨by rfl, ?_⟩) hH0 ?_
            · intro w hSw; go_simp
            simp only [Act.put, List.getElem_toArray, List.getElem_cons_zero, List.getElem_cons_succ, List.setIfInBounds_toArray, List.set_cons_zero, List.set_cons_succ]
            refine wpAnyH_take (i := 1) (oi := _) (v := .pointer (some ⟨Nb, 0, none⟩)) rfl (by kernel_rfl) (by kernel_rfl) (by kernel_rfl) (fun _ _ _ h => h) (Or.inl ⟨by rfl, ?_⟩) hH0 ?_
            · intro w hSw; go_simp
            simp only [Act.put, List.getElem_toArray, List.getElem_cons_zero, List.getElem_cons_succ, List.setIfInBounds_toArray, List.set_cons_zero, List.set_cons_succ]
            refine wpAnyH_take (i := 2) (oi := _) (v := .pointer (some ⟨N0 + 1, 0, none⟩)) rfl (by kernel_rfl) (by kernel_rfl) (by kernel_rfl) (fun _ _ _ h => h) (Or.inl ⟨by rfl, ?_⟩) hH0 ?_
            · intro w hSw; go_simp
            simp only [Act.put, List.getElem_toArray, List.getElem_cons_zero, List.getElem_cons_succ, List.setIfInBounds_toArray, List.set_cons_zero, List.set_cons_succ]
            refine wpAnyH_take (i := 3) (oi := _) (v := .agg #[.int .i64 0, .int .i64 0, .slice none 0 0, .int .i64 0]) rfl (by kernel_rfl) (by kernel_rfl) (by kernel_rfl) (fun _ _ _ h => h) (Or.inl ⟨by rfl, ?_⟩) hH0 ?_
            · intro w hSw; go_simp
            simp only [Act.put, List.getElem_toArray, List.getElem_cons_zero, List.getElem_cons_succ, List.setIfInBounds_toArray, List.set_cons_zero, List.set_cons_succ]
            refine wpAnyH_take (i := 4) (oi := _) (v := .agg #[.int .i64 x.k, .int .i64 x.un, .int .i64 x.a, .int .i64 x.c.k, .slice x.da x.c.d.length x.dc, .slice x.ka x.kl x.kc, .slice x.sa x.sl x.sc]) rfl (by kernel_rfl) (by kernel_rfl) (by kernel_rfl) (fun _ _ _ h => h) (Or.inl ⟨by rfl, ?_⟩) hH0 ?_
            · intro w hSw; go_simp
            simp only [Act.put, List.getElem_toArray, List.getElem_cons_zero, List.getElem_cons_succ, List.setIfInBounds_toArray, List.set_cons_zero, List.set_cons_succ]
            refine wpAnyH_ready (rs := [5]) (by kernel_rfl) (by simp) (AllReadyH.cons (o := _) rfl (fun K hK => ?_) AllReadyH.nil)
            go_simp
            refine (do33_any x m M.new none 0 (N0 + 1) N0 wa.drew HEd.out.la (SlV.empty _ _ _ (Nat.zero_le _) (fun _ => rfl)) HINd.out HXl.out (by simp [M.new, U.new]) (by have := HML.out; omega) (by simp [M.new])).mono ?_
            rintro en w6 ⟨ma', mc', rfl, hr6, ha6, hf6⟩
            have HE6 := Lib.hid' (HEd.out.stepA hf6 ha6)
            have hfN : ¬ (Na = N0 + 1 ∨ Na = N0) := by have := HEd.out.ord; omega
            have HBX6 := Lib.hid' (HBXd.out.fr hf6 hfN)
            clear hr6 ha6 hf6
            refine hK.out _ _ ?_ (fun hH1 => ?_)
            · exact ⟨HE6.out.arr.box.1 0 _ rfl, HBX6.out.box.1 0 _ rfl, HBX6.out.box.1 1 _ rfl, HBX6.out.box.1 2 _ rfl, HBX6.out.box.1 3 _ rfl, HBX6.out.box.1 4 _ rfl, HBX6.out.box.1 5 _ rfl, HBX6.out.box.1 6 _ rfl⟩
            clear hK K
            refine wpAnyH_take (i := 6) (oi := _) (v := .tuple #[rmV (rlS (kindL x.k) M.new x.a x.c).1 ma' mc', .bool (okL (rlS (kindL x.k) M.new x.a x.c) (lS (kindL x.k) m x.a x.c))]) rfl (by kernel_rfl) (by kernel_rfl) (by kernel_rfl) (fun _ _ _ h => h) (Or.inl ⟨by rfl, ?_⟩) hH1 ?_
            · intro w hSw; go_simp
            simp only [Act.put, List.getElem_toArray, List.getElem_cons_zero, List.getElem_cons_succ, List.setIfInBounds_toArray, List.set_cons_zero, List.set_cons_succ]
            refine wpAnyH_take (i := 7) (oi := _) (v := rmV (rlS (kindL x.k) M.new x.a x.c).1 ma' mc') rfl (by kernel_rfl) (by kernel_rfl) (by kernel_rfl) (fun _ _ _ h => h) (Or.inl ⟨by rfl, ?_⟩) hH1 ?_
            · intro w hSw; go_simp
            simp only [Act.put, List.getElem_toArray, List.getElem_cons_zero, List.getElem_cons_succ, List.setIfInBounds_toArray, List.set_cons_zero, List.set_cons_succ]
            refine wpAnyH_take (i := 8) (oi := _) (v := .bool (okL (rlS (kindL x.k) M.new x.a x.c) (lS (kindL x.k) m x.a x.c))) rfl (by kernel_rfl) (by kernel_rfl) (by kernel_rfl) (fun _ _ _ h => h) (Or.inl ⟨by rfl, ?_⟩) hH1 ?_
            · intro w hSw; go_simp
            simp only [Act.put, List.getElem_toArray, List.getElem_cons_zero, List.getElem_cons_succ, List.setIfInBounds_toArray, List.set_cons_zero, List.set_cons_succ]
            refine wpAnyH_done (by kernel_rfl) ?_ _
            go_wp2_with fail
            go_roundw
            case rel => exact ⟨j + 1, (lS (kindL x.k) m x.a x.c).1, by go_num, by omega, Lib.hid' (Nat.le_trans (lS_len _ _ _ _) (Nat.succ_le_succ HML.out)), HE6⟩
            case measure => simp [intOf]; omega
          · obtain rfl : j = X.length := by omega
            go_wp2_with fail
            go_roundw
            case rel => exact ⟨1, m, b, rfl, by omega, Lib.hid' ⟨fun h => (by omega), fun _ => HLN.out.2.1 (by simp), by have := HML.out; omega, HLN.out.2.2.2⟩, HE⟩
            case measure => simp [intOf]
      · clear hlt hk
        go_wp2_with fail
        refine (long13_any Y 60 (by decide) ya yc wr (HY.out.below (Nat.le_refl _) HE.out.below)).mono ?_
        rintro en w5 ⟨rfl, hb5⟩
        have HE5 := Lib.hid' (HE.out.past hb5)
        clear hb5 HE
        cases hq : longS Y 60 with
        | true =>
          clear hq
          go_wp2
          go_ret
          exact ⟨rfl, HE5.out.below⟩
        | false =>
        obtain ⟨hl60, hl100⟩ := longS_false hq
        have HL100 := Lib.hid' hl100
        clear hq hl100
        have HL0 := Lib.hid' (show b.u.cells.length = 0 from HLN.out.2.1 (by simp))
        go_wp2_with fail
        go_loopw [34] (fun v34 ws => ∃ (j : Nat) (m : M), v34 = .int .i64 j ∧ j ≤ Y.length ∧ Hid (m.u.cells.length ≤ j) ∧ Hid (EvAt W N0 N1 Nb a m ws)) (fun v34 _ => Y.length - (intOf v34).toNat)
        case atStart => exact ⟨0, b, rfl, Nat.zero_le _, Lib.hid' (by rw [HL0.out]; exact Nat.le_refl _), HE5⟩
        case round =>
          clear HE5
          obtain ⟨j, m, rfl, hj, HML, HE⟩ := hrel
          by_cases hltj : j < Y.length
          · obtain ⟨hsl, hby⟩ := HY.out.below (Nat.le_refl _) HE.out.below
            obtain ⟨b3, off3, rfl, hb3, hc3⟩ := SlV.row (s := 7) (fun _ => rfl) (by decide) hsl hltj
            have c0 := hc3 0 _ rfl; have c1 := hc3 1 _ rfl; have c2 := hc3 2 _ rfl; have c3 := hc3 3 _ rfl; have c4 := hc3 4 _ rfl; have c5 := hc3 5 _ rfl; have c6 := hc3 6 _ rfl
            simp only [Nat.add_zero] at c0
            have HIN := Lib.hid' (hby _ (List.getElem_mem hltj))
            have HXl := Lib.hid' (HL100.out _ (List.getElem_mem hltj))
            clear hsl hby hc3
            generalize Y[j] = x at *
            go_upto_region 12 with fail
            have HBX := Lib.hid' (show BoxW wr.heap.size [.int .i64 x.k, .int .i64 x.un, .int .i64 x.a, .int .i64 x.c.k, .slice x.da x.c.d.length x.dc, .slice x.ka x.kl x.kc, .slice x.sa x.sl x.sc] 66 (wr.alloc (.cells #[.int .i64 x.k, .int .i64 x.un, .int .i64 x.a, .int .i64 x.c.k, .slice x.da x.c.d.length x.dc, .slice x.ka x.kl x.kc, .slice x.sa x.sl x.sc] 66)) from BoxW.start _ _ _)
            have HGa := Lib.hid' (show Below wr.heap.size wr (wr.alloc (.cells #[.int .i64 x.k, .int .i64 x.un, .int .i64 x.a, .int .i64 x.c.k, .slice x.da x.c.d.length x.dc, .slice x.ka x.kl x.kc, .slice x.sa x.sl x.sc] 66)) by go_grown)
            generalize wr.alloc (.cells #[.int .i64 x.k, .int .i64 x.un, .int .i64 x.a, .int .i64 x.c.k, .slice x.da x.c.d.length x.dc, .slice x.ka x.kl x.kc, .slice x.sa x.sl x.sc] 66) = wa at *
            clear c0 c1 c2 c3 c4 c5 c6 hb3
            have hbd : Below wa.heap.size wa wa.drew := Below.drew (Below.refl _ _)
            have HEd := Lib.hid' ((HE.out.past HGa.out).past hbd)
            have HINd := Lib.hid' (show A13.In wa.drew x from ⟨SlV.below HIN.out.d (Nat.le_refl _) (HGa.out.trans (hbd.mono HGa.out.size)), HIN.out.k, HIN.out.s⟩)
            have HBXd := Lib.hid' (HBX.out.below (Nat.le_refl _) hbd)
            have x0 := HBX.out.box.1 0 _ rfl; have x1 := HBX.out.box.1 1 _ rfl; have x2 := HBX.out.box.1 2 _ rfl; have x3 := HBX.out.box.1 3 _ rfl; have x4 := HBX.out.box.1 4 _ rfl; have x5 := HBX.out.box.1 5 _ rfl; have x6 := HBX.out.box.1 6 _ rfl
            have y0 := (HE.out.past HGa.out).arr.box.1 1 _ rfl
            have hNb := HE.out.arr.lt
            obtain ⟨Na, hNa⟩ : ∃ Na, Na = wr.heap.size := ⟨_, rfl⟩
            rw [← hNa] at x0 x1 x2 x3 x4 x5 x6 hNb HBXd HBX
            rw [← hNa]
            clear hNa hbd
            refine wp_region_held_drew (S := (fun w' => w'.cell? ⟨Nb, 1, none⟩ = some (.pointer (some ⟨N1 + 1, 0, none⟩)) ∧ w'.cell? ⟨Na, 0, none⟩ = some (.int .i64 x.k) ∧ w'.cell? ⟨Na, 1, none⟩ = some (.int .i64 x.un) ∧ w'.cell? ⟨Na, 2, none⟩ = some (.int .i64 x.a) ∧ w'.cell? ⟨Na, 3, none⟩ = some (.int .i64 x.c.k) ∧ w'.cell? ⟨Na, 4, none⟩ = some (.slice x.da x.c.d.length x.dc) ∧ w'.cell? ⟨Na, 5, none⟩ = some (.slice x.ka x.kl x.kc) ∧ w'.cell? ⟨Na, 6, none⟩ = some (.slice x.sa x.sl x.sc))) (by kernel_rfl) ⟨by simpa using y0, by simpa using x0, by simpa using x1, by simpa using x2, by simpa using x3, by simpa using x4, by simpa using x5, by simpa using x6⟩ (fun hH0 => ?_)
            refine wpAnyH_take (i := 0) (oi := _) (v := .int .i64 1) rfl (by kernel_rfl) (by kernel_rfl) (by kernel_rfl) (fun _ _ _ h => h) (Or.inl ⟨by rfl, ?_⟩) hH0 ?_
            · intro w hSw; go_simp
            simp only [Act.put, List.getElem_toArray, List.getElem_cons_zero, List.getElem_cons_succ, List.setIfInBounds_toArray, List.set_cons_zero, List.set_cons_succ]
            refine wpAnyH_take (i := 1) (oi := _) (v := .pointer (some ⟨Nb, 1, none⟩)) rfl (by kernel_rfl) (by kernel_rfl) (by kernel_rfl) (fun _ _ _ h => h) (Or.inl ⟨by rfl, ?_⟩) hH0 ?_
            · intro w hSw; go_simp
            simp only [Act.put, List.getElem_toArray, List.getElem_cons_zero, List.getElem_cons_succ, List.setIfInBounds_toArray, List.set_cons_zero, List.set_cons_succ]
            refine wpAnyH_take (i := 2) (oi := _) (v := .pointer (some ⟨N1 + 1, 0, none⟩)) rfl (by kernel_rfl) (by kernel_rfl) (by kernel_rfl) (fun _ _ _ h => h) (Or.inl ⟨by rfl, ?_⟩) hH0 ?_
            · intro w hSw; go_simp
            simp only [Act.put, List.getElem_toArray, List.getElem_cons_zero, List.getElem_cons_succ, List.setIfInBounds_toArray, List.set_cons_zero, List.set_cons_succ]
            refine wpAnyH_take (i := 3) (oi := _) (v := .agg #[.int .i64 0, .int .i64 0, .slice none 0 0, .int .i64 0]) rfl (by kernel_rfl) (by kernel_rfl) (by kernel_rfl) (fun _ _ _ h => h) (Or.inl ⟨by rfl, ?_⟩) hH0 ?_
            · intro w hSw; go_simp
            simp only [Act.put, List.getElem_toArray, List.getElem_cons_zero, List.getElem_cons_succ, List.setIfInBounds_toArray, List.set_cons_zero, List.set_cons_succ]
            refine wpAnyH_take (i := 4) (oi := _) (v := .agg #[.int .i64 x.k, .int .i64 x.un, .int .i64 x.a, .int .i64 x.c.k, .slice x.da x.c.d.length x.dc, .slice x.ka x.kl x.kc, .slice x.sa x.sl x.sc]) rfl (by kernel_rfl) (by kernel_rfl) (by kernel_rfl) (fun _ _ _ h => h) (Or.inl ⟨by rfl, ?_⟩) hH0 ?_
            · intro w hSw; go_simp
            simp only [Act.put, List.getElem_toArray, List.getElem_cons_zero, List.getElem_cons_succ, List.setIfInBounds_toArray, List.set_cons_zero, List.set_cons_succ]
            refine wpAnyH_ready (rs := [5]) (by kernel_rfl) (by simp) (AllReadyH.cons (o := _) rfl (fun K hK => ?_) AllReadyH.nil)
            go_simp
            refine (do33_any x m M.new none 0 (N1 + 1) N1 wa.drew HEd.out.lb (SlV.empty _ _ _ (Nat.zero_le _) (fun _ => rfl)) HINd.out HXl.out (by simp [M.new, U.new]) (by have := HML.out; omega) (by simp [M.new])).mono ?_
            rintro en w6 ⟨ma', mc', rfl, hr6, ha6, hf6⟩
            have HE6 := Lib.hid' (HEd.out.stepB hf6 ha6)
            have hfN : ¬ (Na = N1 + 1 ∨ Na = N1) := by have := HEd.out.ord; omega
            have HBX6 := Lib.hid' (HBXd.out.fr hf6 hfN)
            clear hr6 ha6 hf6
            refine hK.out _ _ ?_ (fun hH1 => ?_)
            · exact ⟨HE6.out.arr.box.1 1 _ rfl, HBX6.out.box.1 0 _ rfl, HBX6.out.box.1 1 _ rfl, HBX6.out.box.1 2 _ rfl, HBX6.out.box.1 3 _ rfl, HBX6.out.box.1 4 _ rfl, HBX6.out.box.1 5 _ rfl, HBX6.out.box.1 6 _ rfl⟩
            clear hK K
            refine wpAnyH_take (i := 6) (oi := _) (v := .tuple #[rmV (rlS (kindL x.k) M.new x.a x.c).1 ma' mc', .bool (okL (rlS (kindL x.k) M.new x.a x.c) (lS (kindL x.k) m x.a x.c))]) rfl (by kernel_rfl) (by kernel_rfl) (by kernel_rfl) (fun _ _ _ h => h) (Or.inl ⟨by rfl, ?_⟩) hH1 ?_
            · intro w hSw; go_simp
            simp only [Act.put, List.getElem_toArray, List.getElem_cons_zero, List.getElem_cons_succ, List.setIfInBounds_toArray, List.set_cons_zero, List.set_cons_succ]
            refine wpAnyH_take (i := 7) (oi := _) (v := rmV (rlS (kindL x.k) M.new x.a x.c).1 ma' mc') rfl (by kernel_rfl) (by kernel_rfl) (by kernel_rfl) (fun _ _ _ h => h) (Or.inl ⟨by rfl, ?_⟩) hH1 ?_
            · intro w hSw; go_simp
            simp only [Act.put, List.getElem_toArray, List.getElem_cons_zero, List.getElem_cons_succ, List.setIfInBounds_toArray, List.set_cons_zero, List.set_cons_succ]
            refine wpAnyH_take (i := 8) (oi := _) (v := .bool (okL (rlS (kindL x.k) M.new x.a x.c) (lS (kindL x.k) m x.a x.c))) rfl (by kernel_rfl) (by kernel_rfl) (by kernel_rfl) (fun _ _ _ h => h) (Or.inl ⟨by rfl, ?_⟩) hH1 ?_
            · intro w hSw; go_simp
            simp only [Act.put, List.getElem_toArray, List.getElem_cons_zero, List.getElem_cons_succ, List.setIfInBounds_toArray, List.set_cons_zero, List.set_cons_succ]
            refine wpAnyH_done (by kernel_rfl) ?_ _
            go_wp2_with fail
            go_roundw
            case rel => exact ⟨j + 1, (lS (kindL x.k) m x.a x.c).1, by go_num, by omega, Lib.hid' (Nat.le_trans (lS_len _ _ _ _) (Nat.succ_le_succ HML.out)), HE6⟩
            case measure => simp [intOf]; omega
          · obtain rfl : j = Y.length := by omega
            go_wp2_with fail
            go_roundw
            case rel => exact ⟨2, a, m, rfl, by omega, Lib.hid' ⟨fun h => (by omega), fun h => (by omega), HLN.out.2.2.1, by have := HML.out; omega⟩, HE⟩
            case measure => simp [intOf]
    · obtain rfl : k = 2 := by omega
      have hla : a.u.cells.length ≤ 1000000 := by have := HLN.out.2.2.1; omega
      have hlb : b.u.cells.length ≤ 1000000 := by have := HLN.out.2.2.2; omega
      have x0 := HE.out.arr.box.1 0 _ rfl
      have x1 := HE.out.arr.box.1 1 _ rfl
      have hNb := HE.out.arr.lt
      have HDL := Lib.hid' (differ_law HE.out.la.ok HE.out.lb.ok)
      obtain ⟨⟨n, is⟩, hr⟩ : ∃ r, r = M.differ a b := ⟨_, rfl⟩
      rw [← hr] at HDL
      simp only at HDL
      have HR := Lib.hid' hr
      clear hr HLN hlt hk HX HY hxl hyl
      have h1 := mdiffer_any wr HE.out.la HE.out.lb hla hlb
      rw [← HR.out] at h1
      go_wp2_with fail
      refine h1.mono ?_
      clear h1
      rintro en w5 ⟨rfl, hb5⟩
      have HE5 := Lib.hid' (HE.out.past hb5)
      clear hb5 HE x0 x1 hNb
      have x0 := HE5.out.arr.box.1 0 _ rfl
      have x1 := HE5.out.arr.box.1 1 _ rfl
      have hNb := HE5.out.arr.lt
      have h1 := mdiffer_any w5 HE5.out.lb HE5.out.la hlb hla
      rw [differ_symm b a, ← HR.out] at h1
      go_wp2_with fail
      refine h1.mono ?_
      clear h1
      rintro en w6 ⟨rfl, hb6⟩
      have HE6 := Lib.hid' (HE5.out.past hb6)
      clear hb6 HE5 x0 x1 hNb
      have x0 := HE6.out.arr.box.1 0 _ rfl
      have x1 := HE6.out.arr.box.1 1 _ rfl
      have hNb := HE6.out.arr.lt
      have h1 := mdiffer_any w6 HE6.out.la HE6.out.la hla hla
      rw [differ_self] at h1
      obtain ⟨n3, hn3⟩ : ∃ n, n = (M.differ a a).1 := ⟨_, rfl⟩
      rw [← hn3] at h1
      clear hn3
      go_wp2_with fail
      refine h1.mono ?_
      clear h1
      rintro en w7 ⟨rfl, hb7⟩
      have HE7 := Lib.hid' (HE6.out.past hb7)
      clear hb7 HE6 x0 x1 hNb hla hlb
      have x0 := HE7.out.arr.box.1 0 _ rfl
      have x1 := HE7.out.arr.box.1 1 _ rfl
      have hNb := HE7.out.arr.lt
      cases is with
      | false =>
        have ht : (a.t == b.t) = true := by rw [beq_iff_eq]; exact HDL.out.1 (by trivial)
        go_wp2_with fail
        refine (mtail_any w7 HE7.out.la).mono ?_
        rintro en wq ⟨rfl, rfl⟩
        go_wp2_with fail
        refine (mtail_any w7 HE7.out.lb).mono ?_
        rintro en wq ⟨rfl, rfl⟩
        go_wp2
        go_ret
        exact ⟨rfl, HE7.out.below⟩
      | true =>
      go_wp2_with fail
      refine (mtail_any w7 HE7.out.la).mono ?_
      rintro en wq ⟨rfl, rfl⟩
      go_wp2_with fail
      refine (mtail_any w7 HE7.out.lb).mono ?_
      rintro en wq ⟨rfl, rfl⟩
      go_wp2_with fail
      cases hP : ((a.t == n) != (b.t == n)) with
      | true =>
        have hP2 : ((a.t == n) = true ∧ (b.t == n) = false) ∨ ((a.t == n) = false ∧ (b.t == n) = true) := by
          revert hP; cases (a.t == n) <;> cases (b.t == n) <;> simp
        clear hP
        refine (mread_any n w7 HE7.out.la).mono ?_
        rintro en w8 ⟨d1, e1, rfl, ho8, hb8⟩
        have HE8 := Lib.hid' (HE7.out.past hb8)
        clear ho8 hb8 x0 x1 hNb HE7
        have x0 := HE8.out.arr.box.1 0 _ rfl
        have x1 := HE8.out.arr.box.1 1 _ rfl
        have hNb := HE8.out.arr.lt
        go_wp2_with fail
        refine (mread_any n _ (HE8.out.lb.below (Nat.le_refl _) (by go_grown))).mono ?_
        rintro en w9 ⟨d2, e2, rfl, ho9, hb9⟩
        have HB9 := Lib.hid' (show Below W.heap.size W w9 from HE8.out.below.trans ((below_call (B := w8.heap.size) (w := w8) (by go_grown) (by simp) hb9).mono HE8.out.below.size))
        clear ho9 hb9 x0 x1 hNb HE8
        rcases hP2 with ⟨h1, h2⟩ | ⟨h1, h2⟩
        all_goals
          go_wp2
          go_ret
          exact ⟨rfl, Below.trans HB9.out (Below.mono (by go_grown) HB9.out.size)⟩
      | false =>
        have HLW := Lib.hid' (show inR n 1048575 = true ∧ a.u.at n ≠ b.u.at n from by
          rcases HDL.out.2 (by trivial) with h | h
          · rw [hP] at h; cases h
          · exact h)
        have hP2 : ((a.t == n) = true ∧ (b.t == n) = true) ∨ ((a.t == n) = false ∧ (b.t == n) = false) := by
          revert hP; cases (a.t == n) <;> cases (b.t == n) <;> simp
        clear hP
        have h1 := mread_any n w7 HE7.out.la
        rw [rd_in HLW.out.1] at h1
        refine h1.mono ?_
        clear h1
        rintro en w8 ⟨d1, e1, rfl, ho8, hb8⟩
        have HE8 := Lib.hid' (HE7.out.past hb8)
        have HC8 := Lib.hid' (show Bytes w8 (.slice d1 (a.u.at n).d.length e1) (a.u.at n).d from SlV.of_own ho8)
        clear ho8 hb8 x0 x1 hNb HE7
        have x0 := HE8.out.arr.box.1 0 _ rfl
        have x1 := HE8.out.arr.box.1 1 _ rfl
        have hNb := HE8.out.arr.lt
        simp only [errV_0]
        go_wp2_with fail
        have HXC := Lib.hid' (BoxW.start w8 [.int .i64 (a.u.at n).k, .slice d1 (a.u.at n).d.length e1] 48)
        rw [show w8.alloc (.cells [.int .i64 (a.u.at n).k, .slice d1 (a.u.at n).d.length e1].toArray 48) = w8.alloc (.cells #[.int .i64 (a.u.at n).k, .slice d1 (a.u.at n).d.length e1] 48) from rfl] at HXC
        have hg : Below w8.heap.size w8 (w8.alloc (.cells #[.int .i64 (a.u.at n).k, .slice d1 (a.u.at n).d.length e1] 48)) := by go_grown
        have HE8a := Lib.hid' (HE8.out.past hg)
        have HC8a := Lib.hid' (SlV.below HC8.out (Nat.le_refl _) hg)
        clear hg HE8 HC8 x0 x1 hNb
        generalize w8.alloc (.cells #[.int .i64 (a.u.at n).k, .slice d1 (a.u.at n).d.length e1] 48) = wA at *
        generalize w8.heap.size = NA at *
        have h1 := mread_any n wA HE8a.out.lb
        rw [rd_in HLW.out.1] at h1
        refine h1.mono ?_
        clear h1
        rintro en w9 ⟨d2, e2, rfl, ho9, hb9⟩
        have HB9 := Lib.hid' (HE8a.out.below.trans (hb9.mono HE8a.out.below.size))
        have HXC9 := Lib.hid' (HXC.out.below (Nat.le_refl _) hb9)
        have HC9 := Lib.hid' (SlV.below HC8a.out (Nat.le_refl _) hb9)
        have HD9 := Lib.hid' (show Bytes w9 (.slice d2 (b.u.at n).d.length e2) (b.u.at n).d from SlV.of_own ho9)
        clear ho9 hb9 HE8a HXC HC8a
        have x0 := HXC9.out.box.1 0 _ rfl
        have x1 := HXC9.out.box.1 1 _ rfl
        have hNA := HXC9.out.lt
        simp only [errV_0]
        have hsame : ∀ wq, Below w9.heap.size w9 wq → Calls Try.prog 32 #[.agg #[.int .i64 (a.u.at n).k, .slice d1 (a.u.at n).d.length e1], .agg #[.int .i64 (b.u.at n).k, .slice d2 (b.u.at n).d.length e2]] wq fun e w' => e = .returned (.bool false) ∧ Below wq.heap.size wq w' := by
          intro wq hq
          have h := same_any _ _ (a.u.at n) (b.u.at n) wq ⟨d1, e1, rfl, SlV.below HC9.out (Nat.le_refl _) hq⟩ ⟨d2, e2, rfl, SlV.below HD9.out (Nat.le_refl _) hq⟩
          rw [show (decide (a.u.at n = b.u.at n)) = false from decide_eq_false HLW.out.2] at h
          exact h
        have HSAME := Lib.hid' hsame
        clear hsame HC9 HD9 HXC9
        rcases hP2 with ⟨h1, h2⟩ | ⟨h1, h2⟩
        all_goals
          go_wp2_with fail
          refine (HSAME.out _ (by go_grown)).mono ?_
          rintro en wz ⟨rfl, hbz⟩
          have HBz := Lib.hid' (show Below W.heap.size W wz from HB9.out.trans ((below_call (B := w9.heap.size) (w := w9) (by go_grown) (by simp) hbz).mono HB9.out.size))
          clear hbz
          go_wp2
          go_ret
          exact ⟨rfl, HBz.out⟩
end Go.Proofs.Ytjkbcjliaacebaa
