/- Proved here: a part of the proof (10 of 12). -/
import Derived.Test.YtkhnbdbcaebdaaaGreatDoorQ9
import Derived.Deep.DeepCutAuto
import Derived.Deep.CutBlock
namespace Go.Proofs.YtkhnbdbcaebdaaaGreatDoor
open Go.RowKit
set_option linter.unusedSimpArgs false
set_option linter.unusedVariables false
set_option maxRecDepth 100000
namespace SH
open DK
def SDoR (q N : Nat) (S : Sf) (D : Dk) (x : Ac) (vs : PoolL) (F : Nat → Prop) (w : World) (e : Ending) (w' : World) : Prop :=
  e = .returned (.tuple #[.int .i64 (doS S D x).2.1, errV (doS S D x).1]) ∧ ShR q N (doS S D x).2.2.1 (doS S D x).2.2.2 vs F w w'
theorem SDoR.of {q N : Nat} {S S' : Sf} {D D' : Dk} {x : Ac} {vs us : PoolL} {F : Nat → Prop} {w w' : World} {e : Nat} {k : Int} (hd : doS S D x = (e, k, S', D')) (hs : ∀ y ∈ vs, y ∈ us) (h : ShAt q N S' D' us [] F w w') : SDoR q N S D x vs F w (.returned (.tuple #[.int .i64 k, errV e])) w' := by
  unfold SDoR
  rw [hd]
  exact ⟨rfl, us, hs, h⟩
theorem nodup_lt : ∀ (m : Nat) (l : List Nat), l.Nodup → (∀ n ∈ l, n < m) → l.length ≤ m
  | 0, l, _, h => by
    cases l with
    | nil => simp
    | cons a t => exact absurd (h a List.mem_cons_self) (by omega)
  | m + 1, l, hn, h => by
    have h1 := nodup_lt m (l.erase m) (hn.erase m) (fun n hq => by
      have h2 := (hn.mem_erase_iff).1 hq
      have h3 := h n h2.2
      omega)
    rw [List.length_erase] at h1
    split at h1 <;> omega
theorem ok_cells {u : U} (h : u.ok) : u.cells.length ≤ 1048576 := by
  have h1 : ((u.cells.map (·.1)).map Int.toNat).Nodup := by
    rw [List.nodup_iff_pairwise_ne, List.pairwise_map]
    have hn := h.nodup
    rw [List.nodup_iff_pairwise_ne] at hn
    refine hn.imp_of_mem (fun {a b} ha hb hab e => hab ?_)
    obtain ⟨p, hp, rfl⟩ := List.mem_map.1 ha
    obtain ⟨q, hq, rfl⟩ := List.mem_map.1 hb
    have h1 := h.addr p hp
    have h2 := h.addr q hq
    have h3 := h.l0
    omega
  have h2 : ∀ n ∈ (u.cells.map (·.1)).map Int.toNat, n < 1048576 := by
    intro n hn
    obtain ⟨a, ha, rfl⟩ := List.mem_map.1 hn
    obtain ⟨p, hp, rfl⟩ := List.mem_map.1 ha
    have h1 := h.addr p hp
    have h3 := h.l0
    omega
  have := nodup_lt 1048576 _ h1 h2
  simpa using this
theorem check_of_ap {u : U} {x : Ac} (h : (apU u x).1 = 0) : x.check = 0 := by
  unfold apU at h
  split at h
  · rename_i hc; exact absurd h hc
  · rename_i hc; simpa using hc
set_option maxHeartbeats 16000000 in
theorem sdo_any {m q N : Nat} {S : Sf} {D : Dk} {vs : PoolL} {F : Nat → Prop} (x : Ac) (a : Option Addr) (c : Nat) (w : World) (h : ShAt q N S D vs [] F w w) (hp : Pow w) (ho : Ok m D) (hm : m ≤ 1073741824) (hpd : D.pend.length ≤ 1073741000) (hB : Bytes w (.slice a x.d.length c) x.d) :
    Calls Tryz.prog 8 #[ptrV q, ac9V x a c] w (SDoR q N S D x vs F w) := by
  obtain ⟨p, bu, bm, G1, Z, H⟩ := sh_open h
  obtain ⟨u, n, br⟩ := S
  have hok : u.ok := (H.at 0 rfl).2.2
  have hcl := ok_cells hok
  have HH := Lib.hid' H
  have HP := Lib.hid' hp
  have HBY := Lib.hid' (fun (wq : World) (hb : Below w.heap.size w wq) => show Bytes wq (.slice a x.d.length c) x.d from SlV.below hB (Nat.le_refl _) hb)
  obtain ⟨xk, xe, xa, xd⟩ := x
  clear h H hp hB hok
  rw [show ac9V ⟨xk, xe, xa, xd⟩ a c = .agg #[.int .i64 xk, .int .i64 xe, .int .i64 xa, .slice a xd.length c] from rfl]
  go_enter Tryz.func8, Tryz.ntmps8
  go_upto_region 1 with fail
  have H1 := HH.out.allocAt w.heap.size [.int .i64 xk, .int .i64 xe, .int .i64 xa, .slice a xd.length c] 34 rfl
  have hb1 : Below w.heap.size w (w.alloc (.cells #[.int .i64 xk, .int .i64 xe, .int .i64 xa, .slice a xd.length c] 34)) := (Below.refl _ _).alloc (Nat.le_refl _) _
  have H1 : Sep w F (.box w.heap.size [.int .i64 xk, .int .i64 xe, .int .i64 xa, .slice a xd.length c] 34 :: shL q p bu bm N ⟨u, n, br⟩ D vs Z G1 []) (w.alloc (.cells #[.int .i64 xk, .int .i64 xe, .int .i64 xa, .slice a xd.length c] 34)) := H1
  generalize w.alloc (.cells #[.int .i64 xk, .int .i64 xe, .int .i64 xa, .slice a xd.length c] 34) = w1 at *

  have hin := sh_in H1.tail
  have c3 := hin.c3
  have lq := hin.lq
  have lB := H1.lt 0 rfl
  have HW := Lib.hid' (swork_any q br w1 c3 lq)
  cases br with
  | true =>
    have HF := Lib.hid' (show doS ⟨u, n, true⟩ D ⟨xk, xe, xa, xd⟩ = (14, 0, ⟨u, n, true⟩, D) from rfl)
    have HX := Lib.hid' (sh_close H1.tail)
    clear hin
    go_wp2_with (go_at_call 27; refine HW.out.mono ?_; rintro e w2 ⟨rfl, rfl⟩)
    go_ret2
    exact SDoR.of HF.out (fun _ h => h) HX.out
  | false =>
  have c1 := hin.c1
  have HC := Lib.hid' (ucopy_any w1 (Sep.unitAt H1.tail))
  have HX := Lib.hid' H1
  have hbu := Lib.hid' (H1.tail.lt' 0 rfl (b := bu) (.inl rfl))
  clear hin H1 HH
  go_upto_region 4 with (first | (go_at_call 27; refine HW.out.mono ?_; rintro e w2 ⟨rfl, rfl⟩; rw [show errV (if false = true then 14 else 0) = .nilIface from rfl]))
  go_upto_region 5 with (go_at_call 16; refine HC.out.mono ?_; rintro e w2 ⟨rfl, hb2, hz2, hu2⟩)
  have hU2 := hu2 (fun k => Off w1 Z k ∨ k = w1.heap.size + 1 ∨ k = w1.heap.size) (fun k hk => by rcases hk with hk | hk | hk; exact .inl hk; exact .inr (by omega); exact .inr (by omega)) (.inr (.inr rfl)) (.inr (.inl rfl))
  obtain ⟨Z2, us, s2, H2⟩ := Sep.unitNew (HX.out.focus 2 rfl) hb2 (by omega) (by omega) hU2
  have hb02 : Below w.heap.size w w2 := hb1.trans (hb2.mono hb1.size)
  have hNB : w.heap.size ≤ w1.heap.size := hb1.size
  obtain ⟨b2, hb2e⟩ : ∃ b, w1.heap.size + 1 = b := ⟨_, rfl⟩
  obtain ⟨m2, hm2e⟩ : ∃ b, w1.heap.size = b := ⟨_, rfl⟩
  have hbm2 : w.heap.size ≤ b2 ∧ w.heap.size ≤ m2 := by omega
  rw [hb2e, hm2e] at H2
  rw [hb2e]
  have H3 := (H2.focus 3 rfl).turn (B := .unit bu bm u us) (Asn.unit_more (H2.at 3 rfl) s2) (fun _ h => h)
  have H3 : Sep w F [.unit b2 m2 u us, .pool Z2 us, .unit bu bm u us, .box w.heap.size [.int .i64 xk, .int .i64 xe, .int .i64 xa, .slice a xd.length c] 34, .box q [ptrV p, ptrV bu, .int .i64 (n : Nat), .bool false] 71, .box p [ptrV N] 103, Asn.disk N D G1] w2 := H3.pick [1, 2, 0, 3, 4, 5, 6] (by decide) rfl
  have HAP := Lib.hid' (rapply_any ⟨xk, xe, xa, xd⟩ a c w2 (Sep.unitAt H3) (fun k hk => hk.1) hcl (HBY.out w2 hb02))
  have x0 := H3.cell 3 rfl 0 rfl
  have x1 := H3.cell 3 rfl 1 rfl
  have x2 := H3.cell 3 rfl 2 rfl
  have x3 := H3.cell 3 rfl 3 rfl
  have lB2 := H3.lt 3 rfl
  have HX3 := Lib.hid' H3
  have HPW := Lib.hid' (fun (wq : World) (hb : Below w.heap.size w wq) => HP.out.below hb)
  clear c1 c3 lq lB HW HC HX H2 hU2 hu2 hb2 hz2 H3 hb1 hNB hb2e hm2e HP
  obtain ⟨r, hr⟩ : ∃ r, apU u ⟨xk, xe, xa, xd⟩ = r := ⟨_, rfl⟩
  rw [hr] at HAP
  obtain ⟨e3, n3, u3⟩ := r
  simp only at HAP
  by_cases h3 : e3 = 0
  rotate_left
  · have HF := Lib.hid' (show doS ⟨u, n, false⟩ D ⟨xk, xe, xa, xd⟩ = (e3, 0, ⟨u, n, false⟩, D) by
      unfold doS; rw [if_neg (by simp)]; simp only; rw [hr, if_pos h3])
    have HE := Lib.hid' h3
    clear h3 hr
    go_wp2_with (go_at_call 17; refine HAP.out.mono ?_; rintro e w3 ⟨rfl, hU3, hf3⟩; rw [errV_pos HE.out])
    go_ret2
    obtain ⟨Z3, us3, s3, H4⟩ := HX3.out.unitCall hU3 hf3
    have H5 := (H4.focus 2 rfl).turn (B := .unit bu bm u us3) (Asn.unit_more (H4.at 2 rfl) s3) (fun _ h => h)
    rw [← errV_pos HE.out]
    exact SDoR.of HF.out (fun y hy => s3 y (s2 y hy)) (sh_close (show Sep w F (shL q p bu bm N ⟨u, n, false⟩ D us3 Z3 G1 []) w3 from H5.pick [0, 2, 4, 5, 6] (by decide) rfl))
  subst h3
  have hck := check_of_ap (u := u) (x := ⟨xk, xe, xa, xd⟩) (by rw [hr])
  go_upto_region 6 with (go_at_call 17; refine HAP.out.mono ?_; rintro e w3 ⟨rfl, hU3, hf3⟩; rw [errV_0])
  obtain ⟨Z3, us3, s3, H4⟩ := HX3.out.unitCall hU3 hf3
  have hb03 : Below w.heap.size w w3 := hb02.trans (hf3.below hb02.size (fun k hk => by rcases hk with rfl | rfl; exact hbm2.1; exact hbm2.2))
  have H5 := (H4.focus 2 rfl).turn (B := .unit bu bm u us3) (Asn.unit_more (H4.at 2 rfl) s3) (fun _ h => h)
  have H5 : Sep w F [.unit b2 m2 u3 us3, .pool Z3 us3, .unit bu bm u us3, .box w.heap.size [.int .i64 xk, .int .i64 xe, .int .i64 xa, .slice a xd.length c] 34, .box q [ptrV p, ptrV bu, .int .i64 (n : Nat), .bool false] 71, .box p [ptrV N] 103, Asn.disk N D G1] w3 := H5.pick [1, 2, 0, 3, 4, 5, 6] (by decide) rfl
  have c2 := H5.cell 4 rfl 2 rfl
  have lq := H5.lt 4 rfl
  clear x0 x1 x2 x3 lB2 HAP HX3 hU3 hf3 H4
  have HS3 := Lib.hid' (fun y (hy : y ∈ vs) => s3 y (s2 y hy))
  clear s2 s3
  by_cases h99 : 99999999 < n
  · have h99' : (99999999 : Int) < (n : Int) := by omega
    have HF := Lib.hid' (show doS ⟨u, n, false⟩ D ⟨xk, xe, xa, xd⟩ = (5, 0, ⟨u, n, false⟩, D) by
      unfold doS; rw [if_neg (by simp)]; simp only; rw [hr, if_neg (by simp), if_pos h99])
    have HX5 := Lib.hid' (sh_close (show Sep w F (shL q p bu bm N ⟨u, n, false⟩ D us3 Z3 G1 []) w3 from H5.pick [2, 1, 4, 5, 6] (by decide) rfl))
    clear h99 hr H5
    go_wp2_with fail
    go_ret2
    exact SDoR.of HF.out HS3.out HX5.out
  have h99' : ¬ (99999999 : Int) < (n : Int) := by omega
  have hn9 : n ≤ 99999999 := by omega
  have HF0 := Lib.hid' (show doS ⟨u, n, false⟩ D ⟨xk, xe, xa, xd⟩ = (if (putD D (nameN 114 n) (Ac.put ⟨xk, xe, xa, xd⟩)).1 ≠ 0 then ((putD D (nameN 114 n) (Ac.put ⟨xk, xe, xa, xd⟩)).1, 0, fallS ⟨u, n, false⟩ (putD D (nameN 114 n) (Ac.put ⟨xk, xe, xa, xd⟩)).1, (putD D (nameN 114 n) (Ac.put ⟨xk, xe, xa, xd⟩)).2) else (0, n3, ⟨u3, n + 1, false⟩, (putD D (nameN 114 n) (Ac.put ⟨xk, xe, xa, xd⟩)).2)) by
      unfold doS; rw [if_neg (by simp)]; simp only; rw [hr, if_neg (by simp), if_neg h99])
  have HPU := Lib.hid' (rput9_any ⟨xk, xe, xa, xd⟩ a c w3 (HBY.out w3 hb03))
  have hpb : Ac.putB ⟨xk, xe, xa, xd⟩ = Ac.put ⟨xk, xe, xa, xd⟩ := by unfold Ac.putB; rw [if_neg (by rw [hck]; simp)]
  have x0 := H5.cell 3 rfl 0 rfl
  have x1 := H5.cell 3 rfl 1 rfl
  have x2 := H5.cell 3 rfl 2 rfl
  have x3 := H5.cell 3 rfl 3 rfl
  have lB3 := H5.lt 3 rfl
  have HX5 := Lib.hid' H5
  clear h99 hr H5 hb02
  go_upto_region 11 with (go_at_call 28; refine HPU.out.mono ?_; rintro e w4 ⟨ra, rc, rfl, hrow, hb4⟩; rw [hck, errV_0])
  rw [hpb] at hrow
  have H6 := HX5.out.belowRow hb4 hrow
  have hb04 : Below w.heap.size w w4 := hb03.trans (hb4.mono hb03.size)
  generalize Ac.put ⟨xk, xe, xa, xd⟩ = pb at *
  clear c2 lq x0 x1 x2 x3 lB3 HX5 HPU hrow hb4 hb03 hpb hck
  have H6 : Sep w F [.row 5 1 (.slice ra pb.length rc) pb.length (byteVs pb), .unit b2 m2 u3 us3, .pool Z3 us3, .unit bu bm u us3, .box w.heap.size [.int .i64 xk, .int .i64 xe, .int .i64 xa, .slice a xd.length c] 34, .box q [ptrV p, ptrV bu, .int .i64 (n : Nat), .bool false] 71, .box p [ptrV N] 103, Asn.disk N D G1] w4 := H6
  go_wp2_with fail
  have H7 := Lib.hid' H6.drew
  have hb07 := hb04.drew
  have c0 := H7.out.cell 5 rfl 0 rfl
  have c2 := H7.out.cell 5 rfl 2 rfl
  have lq := H7.out.lt 5 rfl
  have HNA := Lib.hid' (name_any 114 n w4.drew (HPW.out _ hb07) hn9)

  refine startD (S := (fun w' => w'.cell? ⟨q, 0, none⟩ = some (ptrV p) ∧ w'.cell? ⟨q, 2, none⟩ = some (.int .i64 (n : Nat)) ∧ q < w'.heap.size)) (by kernel_rfl) ⟨c0, c2, lq⟩ (fun hH0 => ?_)
  simp only [List.length_cons, List.length_nil, Nat.reduceAdd, List.replicate_succ, List.replicate_zero]
  refine takeD (i := 0) (d := 45) (v := .pointer (some ⟨q, 0, none⟩)) rfl rfl (by kernel_rfl) (by kernel_rfl) (by kernel_rfl) (fun _ _ _ h => h) (yldV [(0, .pointer (some ⟨q, 0, none⟩))] (by kernel_rfl) rfl (by kernel_rfl) ?_) hH0 ?_
  · intro w hSw; go_simp
  dsimp only [List.set_cons_zero, List.set_cons_succ]
  refine takeD (i := 1) (d := 46) (v := .pointer (some ⟨q, 0, none⟩)) rfl rfl (by kernel_rfl) (by kernel_rfl) (by kernel_rfl) (fun _ _ _ h => h) (yldV [(45, .pointer (some ⟨q, 0, none⟩))] (by kernel_rfl) rfl (by kernel_rfl) ?_) hH0 ?_
  · intro w hSw; go_simp
  dsimp only [List.set_cons_zero, List.set_cons_succ]
  refine takeD (i := 2) (d := 47) (v := .pointer (some ⟨q, 0, none⟩)) rfl rfl (by kernel_rfl) (by kernel_rfl) (by kernel_rfl) (fun _ _ _ h => h) (yldV [(46, .pointer (some ⟨q, 0, none⟩))] (by kernel_rfl) rfl (by kernel_rfl) ?_) hH0 ?_
  · intro w hSw; go_simp
  dsimp only [List.set_cons_zero, List.set_cons_succ]
  refine takeD (i := 3) (d := 48) (v := ptrV p) rfl rfl (by kernel_rfl) (by kernel_rfl) (by kernel_rfl) (fun _ _ _ h => h) (yldV [(47, .pointer (some ⟨q, 0, none⟩))] (by kernel_rfl) rfl (by kernel_rfl) ?_) hH0 ?_
  · intro w hSw; go_simp
  dsimp only [List.set_cons_zero, List.set_cons_succ]
  refine takeD (i := 4) (d := 49) (v := .pointer (some ⟨q, 0, none⟩)) rfl rfl (by kernel_rfl) (by kernel_rfl) (by kernel_rfl) (fun _ _ _ h => h) (yldV [(0, .pointer (some ⟨q, 0, none⟩))] (by kernel_rfl) rfl (by kernel_rfl) ?_) hH0 ?_
  · intro w hSw; go_simp
  dsimp only [List.set_cons_zero, List.set_cons_succ]
  refine takeD (i := 5) (d := 50) (v := .pointer (some ⟨q, 0, none⟩)) rfl rfl (by kernel_rfl) (by kernel_rfl) (by kernel_rfl) (fun _ _ _ h => h) (yldV [(49, .pointer (some ⟨q, 0, none⟩))] (by kernel_rfl) rfl (by kernel_rfl) ?_) hH0 ?_
  · intro w hSw; go_simp
  dsimp only [List.set_cons_zero, List.set_cons_succ]
  refine takeD (i := 6) (d := 51) (v := .pointer (some ⟨q, 2, none⟩)) rfl rfl (by kernel_rfl) (by kernel_rfl) (by kernel_rfl) (fun _ _ _ h => h) (yldV [(50, .pointer (some ⟨q, 0, none⟩))] (by kernel_rfl) rfl (by kernel_rfl) ?_) hH0 ?_
  · intro w hSw; go_simp
  dsimp only [List.set_cons_zero, List.set_cons_succ]
  refine takeD (i := 7) (d := 52) (v := .int .i64 (n : Nat)) rfl rfl (by kernel_rfl) (by kernel_rfl) (by kernel_rfl) (fun _ _ _ h => h) (yldV [(51, .pointer (some ⟨q, 2, none⟩))] (by kernel_rfl) rfl (by kernel_rfl) ?_) hH0 ?_
  · intro w hSw; go_simp
  dsimp only [List.set_cons_zero, List.set_cons_succ]
  refine takeD (i := 9) (d := 54) (v := .slice ra pb.length rc) rfl rfl (by kernel_rfl) (by kernel_rfl) (by kernel_rfl) (fun _ _ _ h => h) (yldV [(10, .slice ra pb.length rc)] (by kernel_rfl) rfl (by kernel_rfl) ?_) hH0 ?_
  · intro w hSw; go_simp
  dsimp only [List.set_cons_zero, List.set_cons_succ]
  refine wpAnyH_ready (rs := [8]) (by kernel_rfl) (by simp) (AllReadyH.cons (o := _) rfl (fun K hK => ?_) AllReadyH.nil)
  go_simp
  refine HNA.out.mono ?_
  rintro en w5 ⟨rfl, hb5⟩
  have H8 := Lib.hid' (H7.out.below hb5)
  refine hK.out _ _ ?_ (fun hH1 => ?_)
  · exact ⟨H8.out.cell 5 rfl 0 rfl, H8.out.cell 5 rfl 2 rfl, H8.out.lt 5 rfl⟩
  clear hK K
  try simp only [Act.put, List.getElem_toArray, List.getElem_cons_zero, List.getElem_cons_succ, List.setIfInBounds_toArray, List.set_cons_zero, List.set_cons_succ]
  refine wpAnyH_ready (rs := [10]) (by kernel_rfl) (by simp) (AllReadyH.cons (o := _) rfl (fun K hK => ?_) AllReadyH.nil)
  go_simp
  refine (put_any7 (m := m) (nameN 114 n) ra rc pb w5 (H8.out.at 7 rfl) ⟨H8.out.cell 6 rfl 0 rfl, H8.out.lt 6 rfl, fun hg => H8.out.off 6 7 rfl rfl (by decide) p rfl hg⟩ ho hm hpd (SlV.of_own (H8.out.row 0 rfl)) (own_slin (H8.out.row 0 rfl) (fun b hb hg => H8.out.off 0 7 rfl rfl (by decide) b hb hg))).mono ?_
  rintro en w6 ⟨rfl, G6, hk6⟩
  have H9 := Lib.hid' ((H8.out.focus 7 rfl).call hk6)
  refine hK.out _ _ ?_ (fun hH2 => ?_)
  · exact ⟨H9.out.cell 6 rfl 0 rfl, H9.out.cell 6 rfl 2 rfl, H9.out.lt 6 rfl⟩
  clear hK K
  try simp only [Act.put, List.getElem_toArray, List.getElem_cons_zero, List.getElem_cons_succ, List.setIfInBounds_toArray, List.set_cons_zero, List.set_cons_succ]
  refine takeD (i := 11) (d := 11) (v := errV (putD D (nameN 114 n) pb).1) rfl rfl (by kernel_rfl) (by kernel_rfl) (by kernel_rfl) (fun _ _ _ h => h) (yldV [(55, errV (putD D (nameN 114 n) pb).1)] (by kernel_rfl) rfl (by kernel_rfl) ?_) hH2 ?_
  · intro w hSw; go_simp
  dsimp only [List.set_cons_zero, List.set_cons_succ]
  refine wpAnyH_done (by kernel_rfl) ?_ _
  clear c0 c2 lq HNA hb07 hb5 hk6 H7 H8 H6
  have H9b : Hid (Sep w F [Asn.disk N (putD D (nameN 114 n) pb).2 G6, .unit b2 m2 u3 us3, .pool Z3 us3, .unit bu bm u us3, .box q [ptrV p, ptrV bu, .int .i64 (n : Nat), .bool false] 71, .box p [ptrV N] 103] w6) := Lib.hid' (H9.out.pick [0, 2, 3, 4, 6, 7] (by decide) rfl)
  clear H9
  generalize putD D (nameN 114 n) pb = r at *
  obtain ⟨e9, D9⟩ := r
  simp only at H9b HF0
  by_cases h9 : e9 = 0
  · subst h9
    have HF := Lib.hid' (show doS ⟨u, n, false⟩ D ⟨xk, xe, xa, xd⟩ = (0, n3, ⟨u3, n + 1, false⟩, D9) by rw [HF0.out, if_neg (by simp)])
    have c1 := H9b.out.cell 4 rfl 1 rfl
    have c2 := H9b.out.cell 4 rfl 2 rfl
    have f1 := H9b.out.free 4 rfl 1
    have f2 := H9b.out.free 4 rfl 2
    have lq := H9b.out.lt 4 rfl
    rw [errV_0]
    go_wp2_with fail
    go_ret2
    have H10 := ((H9b.out.set 4 rfl 1 (ptrV b2)).set 0 rfl 2 (.int .i64 ((n + 1 : Nat) : Int)))
    have H11 : Sep w F (shL q p b2 m2 N ⟨u3, n + 1, false⟩ D9 us3 Z3 G6 []) _ := H10.pick [2, 3, 0, 5, 1] (by decide) rfl
    first | exact SDoR.of HF.out HS3.out (sh_close H11) | (go_num; exact SDoR.of HF.out HS3.out (sh_close H11))
  · have HF := Lib.hid' (show doS ⟨u, n, false⟩ D ⟨xk, xe, xa, xd⟩ = (e9, 0, fallS ⟨u, n, false⟩ e9, D9) by rw [HF0.out, if_pos h9])
    have HE := Lib.hid' h9
    have HFA := Lib.hid' (fall_any e9 w6 (show Sep w F (shL q p bu bm N ⟨u, n, false⟩ D9 us3 Z3 G6 []) w6 from H9b.out.pick [3, 2, 4, 5, 0] (by decide) rfl))
    rw [errV_pos h9] at HFA ⊢
    clear h9
    go_wp2_with (go_at_call 31; refine HFA.out.mono ?_; rintro e wz ⟨rfl, hz⟩)
    go_ret2
    rw [← errV_pos HE.out]
    exact SDoR.of HF.out HS3.out (sh_close hz)

end SH
end Go.Proofs.YtkhnbdbcaebdaaaGreatDoor

namespace Go.Proofs.YtkhnbdbcaebdaaaGreatDoor
open Go.RowKit
set_option linter.unusedSimpArgs false
set_option linter.unusedVariables false
set_option maxRecDepth 100000

def RTakeR (r : Nat × Ac) (w : World) (en : Ending) (w' : World) : Prop :=
  ∃ a c, en = .returned (.tuple #[ac9V r.2 a c, errV r.1]) ∧ Bytes w' (.slice a r.2.d.length c) r.2.d ∧ Below w.heap.size w w'
theorem RTakeR.bad {w w' : World} {n : Nat} (h : Below w.heap.size w w') : RTakeR (n, Ac.zero) w (.returned (.tuple #[.agg #[.int .i64 0, .int .i64 0, .int .i64 0, .slice none 0 0], errV n])) w' :=
  ⟨none, 0, rfl, SlV.empty _ _ _ (Nat.zero_le _) (fun _ => rfl), h⟩
theorem RD.within_le (r : RD) (most : Nat) : (r.within most).1 ≤ most := by
  unfold RD.within
  split
  · simp
  · omega
theorem fr_set4 {w : World} {N : Nat} {a b c d : Value} : Fr (fun k => k = N) w ((((w.setCell ⟨N, 0, none⟩ a).setCell ⟨N, 1, none⟩ b).setCell ⟨N, 2, none⟩ c).setCell ⟨N, 3, none⟩ d) :=
  frb (frb (frb (fr_set _ _ _ _) (fr_set _ _ _ _)) (fr_set _ _ _ _)) (fr_set _ _ _ _)
theorem set4_cells {N t : Nat} {a b c d a' b' c' d' : Value} {w : World} (h : BoxW N [a, b, c, d] t w) :
    (w.setCell ⟨N, 0, none⟩ a').cell? ⟨N, 0, none⟩ = some a' ∧ ((w.setCell ⟨N, 0, none⟩ a').setCell ⟨N, 1, none⟩ b').cell? ⟨N, 1, none⟩ = some b' ∧ (((w.setCell ⟨N, 0, none⟩ a').setCell ⟨N, 1, none⟩ b').setCell ⟨N, 2, none⟩ c').cell? ⟨N, 2, none⟩ = some c' ∧ ((((w.setCell ⟨N, 0, none⟩ a').setCell ⟨N, 1, none⟩ b').setCell ⟨N, 2, none⟩ c').setCell ⟨N, 3, none⟩ d').cell? ⟨N, 3, none⟩ = some d' :=
  ⟨(h.set 0 a').box.1 0 _ rfl, ((h.set 0 a').set 1 b').box.1 1 _ rfl, (((h.set 0 a').set 1 b').set 2 c').box.1 2 _ rfl, ((((h.set 0 a').set 1 b').set 2 c').set 3 d').box.1 3 _ rfl⟩
theorem ac_no {k e a : Int} {p : Option Addr} {n c : Nat} : ∀ x : UInt8, byteV x ∉ [Value.int .i64 k, .int .i64 e, .int .i64 a, .slice p n c] := by
  intro x h; simp [byteV] at h
set_option maxHeartbeats 4000000 in
theorem rtake9_any (b : List UInt8) (a : Option Addr) (c : Nat) (w : World) (h : Bytes w (.slice a b.length c) b) : Calls Tryz.prog 57 #[.slice a b.length c] w (RTakeR (Ac.take b) w) := by
  have HB := Lib.hid' h
  have hbl := bytes_len h
  clear h
  go_enter Tryz.func57, Tryz.ntmps57
  go_wp2_with fail
  have hz0 : (w.alloc (.cells #[.int .i64 0, .int .i64 0, .int .i64 0, .slice none 0 0] 34)).heap.size = w.heap.size + 1 := by simp
  have HG0 := Lib.hid' (show Below w.heap.size w (w.alloc (.cells #[.int .i64 0, .int .i64 0, .int .i64 0, .slice none 0 0] 34)) by go_grown)
  have HX0 := Lib.hid' (BoxW.start w [.int .i64 0, .int .i64 0, .int .i64 0, .slice none 0 0] 34)
  generalize (w.alloc (.cells #[.int .i64 0, .int .i64 0, .int .i64 0, .slice none 0 0] 34)) = w0 at *
  refine (fone_any b a c w0 (SlV.below HB.out (Nat.le_refl _) HG0.out)).mono ?_
  rintro e1 w1 ⟨a1, c1, rfl, hy, hb1⟩
  have HX1 := Lib.hid' (HX0.out.below (Nat.le_refl _) hb1)
  have HG1 := Lib.hid' (HG0.out.trans (hb1.mono (by omega)))
  have HY := Lib.hid' hy
  have hz1 := hb1.size
  clear hb1 hy HX0 HG0
  obtain ⟨⟨bad, t⟩, hr⟩ : ∃ r, r = fone b := ⟨_, rfl⟩
  rw [← hr] at HY ⊢
  have HR := Lib.hid' hr
  clear hr
  simp only at HY ⊢
  by_cases h0 : bad = 0
  rotate_left
  · have HF := Lib.hid' (show Ac.take b = (bad, Ac.zero) by unfold Ac.take; rw [← HR.out]; exact if_pos h0)
    have HE := Lib.hid' (errV_pos h0)
    rw [errV_pos h0]
    clear h0
    have x0 := HX1.out.box.1 0 _ rfl
    have x1 := HX1.out.box.1 1 _ rfl
    have x2 := HX1.out.box.1 2 _ rfl
    have x3 := HX1.out.box.1 3 _ rfl
    have xf := HX1.out.box.2.1
    go_wp2
    obtain ⟨y0, y1, y2, y3⟩ := set4_cells (a' := .int .i64 0) (b' := .int .i64 0) (c' := .int .i64 0) (d' := .slice none 0 0) HX1.out
    refine bodyPost_ret (v := .tuple #[.agg #[.int .i64 0, .int .i64 0, .int .i64 0, .slice none 0 0], .iface 54 (.int .i64 bad)]) (by simp [results, Tryz.results57, go_sem, y0, y1, y2, y3]) rfl ?_
    rw [HF.out, ← HE.out]
    exact RTakeR.bad (HG1.out.trans (fr_set4.below HG1.out.size (fun q hq => by omega)))
  subst h0
  rw [errV_0]
  go_wp2_with fail
  refine (vNew_any t a1 c1 w1 HY.out).mono ?_
  rintro e2 w2 ⟨rfl, hr2, hb2, hz2⟩
  have HX2 := Lib.hid' (HX1.out.below (Nat.le_refl _) hb2)
  have HG2 := Lib.hid' (HG1.out.trans (hb2.mono (by omega)))
  have HR2 := Lib.hid' hr2
  have hR1 : w.heap.size < w1.heap.size := by omega
  have hR2 : w1.heap.size < w2.heap.size := by omega
  clear hr2 hb2 hz2 HX1 HG1 HY hz1 hz0
  generalize w1.heap.size = R at *
  skip
  go_wp2_with fail
  have HW := within_r_any R ⟨t, 0⟩ 5 (by omega) w2 HR2.out
  have hk5 := RD.within_le ⟨t, 0⟩ 5
  obtain ⟨⟨k, r3⟩, hp⟩ : ∃ p, p = RD.within ⟨t, 0⟩ 5 := ⟨_, rfl⟩
  rw [← hp] at HW hk5
  simp only at HW hk5
  have HP := Lib.hid' hp
  clear hp
  refine HW.mono ?_
  rintro e3 w3 ⟨rfl, hr3, hf3⟩
  have HX3 := Lib.hid' (HX2.out.fr hf3 (by omega))
  have HG3 := Lib.hid' (HG2.out.trans (hf3.below HG2.out.size (fun q hq => by omega)))
  have HR3 := Lib.hid' hr3
  have hR3 : R < w3.heap.size := by have := hf3.size; omega
  clear hr3 hf3 HX2 HG2 HR2 HW hR2
  by_cases hqA : k < 1
  · skip
    have hl1 : (k : Int) < 1 := by omega
    have c1 : ((k : Int) != 1) = true := by rw [bne_iff_ne]; omega
    have b2 : ((k : Int) == 2) = false := by rw [beq_eq_false_iff_ne]; omega
    go_wp2_with fail
    have hz4 : w3.heap.size < (w3.alloc (.cells #[.int .i64 (k : Int), .int .i64 0, .int .i64 0, .slice none 0 0] 34)).heap.size := by simp
    have hg4 : Below w3.heap.size w3 (w3.alloc (.cells #[.int .i64 (k : Int), .int .i64 0, .int .i64 0, .slice none 0 0] 34)) := by go_grown
    have HM4 := Lib.hid' (BoxW.start w3 [.int .i64 (k : Int), .int .i64 0, .int .i64 0, .slice none 0 0] 34)
    have HX4 := Lib.hid' (HX3.out.below (Nat.le_refl _) hg4)
    have HG4 := Lib.hid' (HG3.out.trans (hg4.mono (by omega)))
    have HR4 := Lib.hid' (HR3.out.below (Nat.le_refl _) hg4)
    clear hg4 HX3 HG3 HR3
    generalize (w3.alloc (.cells #[.int .i64 (k : Int), .int .i64 0, .int .i64 0, .slice none 0 0] 34)) = w4 at *
    generalize w3.heap.size = M at *
    obtain ⟨r4, hq4⟩ : ∃ r, r = r3.fail 1 := ⟨_, rfl⟩
    have HC5 := fail_any R r3 1 (by decide) w4 HR4.out
    rw [← hq4] at HC5
    have HQ4 := Lib.hid' hq4
    clear hq4
    refine (HC5).mono ?_
    rintro e5 w5 ⟨rfl, hr5, hf5⟩
    have HX5 := Lib.hid' (HX4.out.fr hf5 (by omega))
    have HM5 := Lib.hid' (HM4.out.fr hf5 (by omega))
    have HG5 := Lib.hid' (HG4.out.trans (hf5.below HG4.out.size (fun q hq => by omega)))
    have HR5 := Lib.hid' hr5
    have hz5 : M < w5.heap.size := by have := hf5.size; omega
    clear hr5 hf5 HX4 HG4 HR4 HM4 hz4
    clear HC5
    have m0 := HM5.out.box.1 0 _ rfl
    have m1 := HM5.out.box.1 1 _ rfl
    have m2 := HM5.out.box.1 2 _ rfl
    have m3 := HM5.out.box.1 3 _ rfl
    have mf := HM5.out.box.2.1
    go_wp2_with fail
    clear m0 m1 m2 m3 mf
    have HW := within_r_any R r4 1099511627776 (by omega) w5 HR5.out
    have hke := RD.within_le r4 1099511627776
    obtain ⟨⟨e, r6⟩, hp⟩ : ∃ p, p = RD.within r4 1099511627776 := ⟨_, rfl⟩
    rw [← hp] at HW hke
    simp only at HW hke
    have HPE := Lib.hid' hp
    clear hp
    refine (HW).mono ?_
    rintro e6 w6 ⟨rfl, hr6, hf6⟩
    have HX6 := Lib.hid' (HX5.out.fr hf6 (by omega))
    have HM6 := Lib.hid' (HM5.out.fr hf6 (by omega))
    have HG6 := Lib.hid' (HG5.out.trans (hf6.below HG5.out.size (fun q hq => by omega)))
    have HR6 := Lib.hid' hr6
    have hz6 : M < w6.heap.size := by have := hf6.size; omega
    clear hr6 hf6 HX5 HG5 HR5 HM5 hz5
    clear HW
    have m0 := HM6.out.box.1 0 _ rfl
    have m1 := HM6.out.box.1 1 _ rfl
    have m2 := HM6.out.box.1 2 _ rfl
    have m3 := HM6.out.box.1 3 _ rfl
    have mf := HM6.out.box.2.1
    go_wp2_with fail
    clear m0 m1 m2 m3 mf
    skip
    have hfs : Fr (fun q => q = M) w6 (w6.setCell ⟨M, 1, none⟩ (.int .i64 (e : Int))) := fr_set _ _ _ _
    have HX7 := Lib.hid' (HX6.out.fr hfs (by omega))
    have HM7 := Lib.hid' (HM6.out.set 1 (.int .i64 (e : Int)))
    simp only [List.set_cons_zero, List.set_cons_succ] at HM7
    have HG7 := Lib.hid' (HG6.out.trans (hfs.below HG6.out.size (fun q hq => by omega)))
    have HR7 := Lib.hid' (HR6.out.fr hfs (by omega) (fun a c hd => HM6.out.bytes ac_no hd hfs))
    have hz7 : M < (w6.setCell ⟨M, 1, none⟩ (.int .i64 (e : Int))).heap.size := by have := hfs.size; omega
    clear hfs HX6 HG6 HR6 HM6 hz6
    generalize w6.setCell ⟨M, 1, none⟩ (.int .i64 (e : Int)) = w7 at *
    have HW := within_r_any R r6 1048576 (by omega) w7 HR7.out
    have hka := RD.within_le r6 1048576
    obtain ⟨⟨an, r8⟩, hp⟩ : ∃ p, p = RD.within r6 1048576 := ⟨_, rfl⟩
    rw [← hp] at HW hka
    simp only at HW hka
    have HPA := Lib.hid' hp
    clear hp
    refine (HW).mono ?_
    rintro e8 w8 ⟨rfl, hr8, hf8⟩
    have HX8 := Lib.hid' (HX7.out.fr hf8 (by omega))
    have HM8 := Lib.hid' (HM7.out.fr hf8 (by omega))
    have HG8 := Lib.hid' (HG7.out.trans (hf8.below HG7.out.size (fun q hq => by omega)))
    have HR8 := Lib.hid' hr8
    have hz8 : M < w8.heap.size := by have := hf8.size; omega
    clear hr8 hf8 HX7 HG7 HR7 HM7 hz7
    clear HW
    have m0 := HM8.out.box.1 0 _ rfl
    have m1 := HM8.out.box.1 1 _ rfl
    have m2 := HM8.out.box.1 2 _ rfl
    have m3 := HM8.out.box.1 3 _ rfl
    have mf := HM8.out.box.2.1
    go_wp2_with fail
    clear m0 m1 m2 m3 mf
    skip
    have hfs : Fr (fun q => q = M) w8 (w8.setCell ⟨M, 2, none⟩ (.int .i64 (an : Int))) := fr_set _ _ _ _
    have HX9 := Lib.hid' (HX8.out.fr hfs (by omega))
    have HM9 := Lib.hid' (HM8.out.set 2 (.int .i64 (an : Int)))
    simp only [List.set_cons_zero, List.set_cons_succ] at HM9
    have HG9 := Lib.hid' (HG8.out.trans (hfs.below HG8.out.size (fun q hq => by omega)))
    have HR9 := Lib.hid' (HR8.out.fr hfs (by omega) (fun a c hd => HM8.out.bytes ac_no hd hfs))
    have hz9 : M < (w8.setCell ⟨M, 2, none⟩ (.int .i64 (an : Int))).heap.size := by have := hfs.size; omega
    clear hfs HX8 HG8 HR8 HM8 hz8
    generalize w8.setCell ⟨M, 2, none⟩ (.int .i64 (an : Int)) = w9 at *
    obtain ⟨d, hd⟩ : ∃ d : List UInt8, d = [] := ⟨_, rfl⟩
    have HD9 := Lib.hid' (show Bytes w9 (.slice none d.length 0) d by rw [hd]; exact SlV.empty _ _ _ (Nat.zero_le _) (fun _ => rfl))
    have hdl : d.length ≤ 9223372036854775807 := by rw [hd]; simp
    have HDD := Lib.hid' hd
    have hdn : d.length = 0 := by rw [hd]; rfl
    have HDN := Lib.hid' hdn
    clear hd hdn
    have HRD := Lib.hid' (show Ac.read ⟨t, 0⟩ = (⟨k, e, (an : Int), d⟩, r8) by
      unfold Ac.read
      simp only
      rw [← HP.out]
      simp only
      rw [if_pos (show k < 1 by omega), ← HQ4.out, ← HPE.out]
      simp only
      rw [if_pos (show k ≠ 1 by omega), ← HPA.out]
      simp only
      rw [if_neg (show ¬ k = 2 by omega), HDD.out])
    have HTK := Lib.hid' (show Ac.take b = if r8.fin ≠ 0 then (r8.fin, Ac.zero) else if (Ac.mk k e (an : Int) d).check ≠ 0 then ((Ac.mk k e (an : Int) d).check, Ac.zero) else (0, ⟨k, e, (an : Int), d⟩) by
      unfold Ac.take
      rw [← HR.out]
      simp only [ne_eq, not_true_eq_false, if_false]
      rw [HRD.out])
    clear HRD HP HPE HPA HDD HQ4
    have HCE := end_any R r8 w9 HR9.out
    obtain ⟨fn, hfn⟩ : ∃ n, n = r8.fin := ⟨_, rfl⟩
    rw [← hfn] at HCE HTK
    clear hfn
    refine HCE.mono ?_
    rintro e12 w12 ⟨rfl, rfl⟩
    clear HCE
    by_cases hf0 : fn = 0
    rotate_left
    · have HF := Lib.hid' (HTK.out.trans (if_pos hf0))
      have HE := Lib.hid' (errV_pos hf0)
      rw [errV_pos hf0]
      clear hf0 HTK HM9
      have x0 := HX9.out.box.1 0 _ rfl
      have x1 := HX9.out.box.1 1 _ rfl
      have x2 := HX9.out.box.1 2 _ rfl
      have x3 := HX9.out.box.1 3 _ rfl
      have xf := HX9.out.box.2.1
      go_wp2
      obtain ⟨y0, y1, y2, y3⟩ := set4_cells (a' := .int .i64 0) (b' := .int .i64 0) (c' := .int .i64 0) (d' := .slice none 0 0) HX9.out
      refine bodyPost_ret (v := .tuple #[.agg #[.int .i64 0, .int .i64 0, .int .i64 0, .slice none 0 0], .iface 54 (.int .i64 fn)]) (by simp [results, Tryz.results57, go_sem, y0, y1, y2, y3]) rfl ?_
      rw [HF.out, ← HE.out]
      exact RTakeR.bad (HG9.out.trans (fr_set4.below HG9.out.size (fun q hq => by omega)))
    subst hf0
    rw [errV_0]
    have HTK2 := Lib.hid' (HTK.out.trans (if_neg (by simp)))
    clear HTK
    have m0 := HM9.out.box.1 0 _ rfl
    have m1 := HM9.out.box.1 1 _ rfl
    have m2 := HM9.out.box.1 2 _ rfl
    have m3 := HM9.out.box.1 3 _ rfl
    have mf := HM9.out.box.2.1
    go_wp2_with fail
    clear m0 m1 m2 m3 mf
    have HCK := rcheck9_any ⟨k, e, (an : Int), d⟩ none 0 hdl w9
    obtain ⟨ck, hck⟩ : ∃ n, n = (Ac.mk k e (an : Int) d).check := ⟨_, rfl⟩
    rw [← hck] at HCK HTK2
    clear hck
    unfold ac9V at HCK
    simp only at HCK
    rw [HDN.out] at HCK
    refine HCK.mono ?_
    rintro e13 w13 ⟨rfl, hb13⟩
    have HX13 := Lib.hid' (HX9.out.below (Nat.le_refl _) hb13)
    have HM13 := Lib.hid' (HM9.out.below (Nat.le_refl _) hb13)
    have HG13 := Lib.hid' (HG9.out.trans (hb13.mono HG9.out.size))
    have HD13 := Lib.hid' (show Bytes w13 (.slice none d.length 0) d from SlV.below HD9.out (Nat.le_refl _) hb13)
    clear hb13 HX9 HM9 HG9 HD9 HCK HR9 hz9
    by_cases hc0 : ck = 0
    rotate_left
    · have HF := Lib.hid' (HTK2.out.trans (if_pos hc0))
      have HE := Lib.hid' (errV_pos hc0)
      rw [errV_pos hc0]
      clear hc0 HTK2 HM13
      have x0 := HX13.out.box.1 0 _ rfl
      have x1 := HX13.out.box.1 1 _ rfl
      have x2 := HX13.out.box.1 2 _ rfl
      have x3 := HX13.out.box.1 3 _ rfl
      have xf := HX13.out.box.2.1
      go_wp2
      obtain ⟨y0, y1, y2, y3⟩ := set4_cells (a' := .int .i64 0) (b' := .int .i64 0) (c' := .int .i64 0) (d' := .slice none 0 0) HX13.out
      refine bodyPost_ret (v := .tuple #[.agg #[.int .i64 0, .int .i64 0, .int .i64 0, .slice none 0 0], .iface 54 (.int .i64 ck)]) (by simp [results, Tryz.results57, go_sem, y0, y1, y2, y3]) rfl ?_
      rw [HF.out, ← HE.out]
      exact RTakeR.bad (HG13.out.trans (fr_set4.below HG13.out.size (fun q hq => by omega)))
    subst hc0
    rw [errV_0]
    have HF := Lib.hid' (HTK2.out.trans (if_neg (by simp)))
    clear HTK2
    have m0 := HM13.out.box.1 0 _ rfl
    have m1 := HM13.out.box.1 1 _ rfl
    have m2 := HM13.out.box.1 2 _ rfl
    have m3 := HM13.out.box.1 3 _ rfl
    have mf := HM13.out.box.2.1
    have x0 := HX13.out.box.1 0 _ rfl
    have x1 := HX13.out.box.1 1 _ rfl
    have x2 := HX13.out.box.1 2 _ rfl
    have x3 := HX13.out.box.1 3 _ rfl
    have xf := HX13.out.box.2.1
    go_wp2
    obtain ⟨y0, y1, y2, y3⟩ := set4_cells (a' := .int .i64 (k : Int)) (b' := .int .i64 (e : Int)) (c' := .int .i64 (an : Int)) (d' := .slice none 0 0) HX13.out
    refine bodyPost_ret (v := .tuple #[.agg #[.int .i64 (k : Int), .int .i64 (e : Int), .int .i64 (an : Int), .slice none 0 0], .nilIface]) (by simp [results, Tryz.results57, go_sem, y0, y1, y2, y3]) rfl ?_
    rw [HF.out]
    exact ⟨none, 0, by simp only [ac9V, errV_0, HDN.out], HX13.out.bytes ac_no HD13.out fr_set4, HG13.out.trans (fr_set4.below HG13.out.size (fun q hq => by omega))⟩
  by_cases hqB : k < 2
  · skip
    have hl1 : ¬ (k : Int) < 1 := by omega
    have c1 : ((k : Int) != 1) = false := by rw [bne_eq_false_iff_eq]; omega
    have b2 : ((k : Int) == 2) = false := by rw [beq_eq_false_iff_ne]; omega
    go_wp2_with fail
    have hz4 : w3.heap.size < (w3.alloc (.cells #[.int .i64 (k : Int), .int .i64 0, .int .i64 0, .slice none 0 0] 34)).heap.size := by simp
    have hg4 : Below w3.heap.size w3 (w3.alloc (.cells #[.int .i64 (k : Int), .int .i64 0, .int .i64 0, .slice none 0 0] 34)) := by go_grown
    have HM4 := Lib.hid' (BoxW.start w3 [.int .i64 (k : Int), .int .i64 0, .int .i64 0, .slice none 0 0] 34)
    have HX4 := Lib.hid' (HX3.out.below (Nat.le_refl _) hg4)
    have HG4 := Lib.hid' (HG3.out.trans (hg4.mono (by omega)))
    have HR4 := Lib.hid' (HR3.out.below (Nat.le_refl _) hg4)
    clear hg4 HX3 HG3 HR3
    generalize (w3.alloc (.cells #[.int .i64 (k : Int), .int .i64 0, .int .i64 0, .slice none 0 0] 34)) = w4 at *
    generalize w3.heap.size = M at *
    have hz5 := hz4
    have HX5 := HX4
    have HG5 := HG4
    have HR5 := HR4
    have HM5 := HM4
    clear hz4 HX4 HG4 HR4 HM4
    generalize w4 = w5 at *
    have HW := within_r_any R r3 1099511627776 (by omega) w5 HR5.out
    have hke := RD.within_le r3 1099511627776
    obtain ⟨⟨e, r6⟩, hp⟩ : ∃ p, p = RD.within r3 1099511627776 := ⟨_, rfl⟩
    rw [← hp] at HW hke
    simp only at HW hke
    have HPE := Lib.hid' hp
    clear hp
    refine (HW).mono ?_
    rintro e6 w6 ⟨rfl, hr6, hf6⟩
    have HX6 := Lib.hid' (HX5.out.fr hf6 (by omega))
    have HM6 := Lib.hid' (HM5.out.fr hf6 (by omega))
    have HG6 := Lib.hid' (HG5.out.trans (hf6.below HG5.out.size (fun q hq => by omega)))
    have HR6 := Lib.hid' hr6
    have hz6 : M < w6.heap.size := by have := hf6.size; omega
    clear hr6 hf6 HX5 HG5 HR5 HM5 hz5
    clear HW
    have m0 := HM6.out.box.1 0 _ rfl
    have m1 := HM6.out.box.1 1 _ rfl
    have m2 := HM6.out.box.1 2 _ rfl
    have m3 := HM6.out.box.1 3 _ rfl
    have mf := HM6.out.box.2.1
    go_wp2_with fail
    clear m0 m1 m2 m3 mf
    skip
    have hfs : Fr (fun q => q = M) w6 (w6.setCell ⟨M, 1, none⟩ (.int .i64 (e : Int))) := fr_set _ _ _ _
    have HX7 := Lib.hid' (HX6.out.fr hfs (by omega))
    have HM7 := Lib.hid' (HM6.out.set 1 (.int .i64 (e : Int)))
    simp only [List.set_cons_zero, List.set_cons_succ] at HM7
    have HG7 := Lib.hid' (HG6.out.trans (hfs.below HG6.out.size (fun q hq => by omega)))
    have HR7 := Lib.hid' (HR6.out.fr hfs (by omega) (fun a c hd => HM6.out.bytes ac_no hd hfs))
    have hz7 : M < (w6.setCell ⟨M, 1, none⟩ (.int .i64 (e : Int))).heap.size := by have := hfs.size; omega
    clear hfs HX6 HG6 HR6 HM6 hz6
    generalize w6.setCell ⟨M, 1, none⟩ (.int .i64 (e : Int)) = w7 at *
    obtain ⟨d, hd⟩ : ∃ d : List UInt8, d = [] := ⟨_, rfl⟩
    have HD7 := Lib.hid' (show Bytes w7 (.slice none d.length 0) d by rw [hd]; exact SlV.empty _ _ _ (Nat.zero_le _) (fun _ => rfl))
    have hdl : d.length ≤ 9223372036854775807 := by rw [hd]; simp
    have HDD := Lib.hid' hd
    have hdn : d.length = 0 := by rw [hd]; rfl
    have HDN := Lib.hid' hdn
    clear hd hdn
    have HRD := Lib.hid' (show Ac.read ⟨t, 0⟩ = (⟨k, e, 0, d⟩, r6) by
      unfold Ac.read
      simp only
      rw [← HP.out]
      simp only
      rw [if_neg (show ¬ k < 1 by omega), ← HPE.out]
      simp only
      rw [if_neg (show ¬ k ≠ 1 by omega)]
      simp only
      rw [if_neg (show ¬ k = 2 by omega), HDD.out]
      rfl)
    have HTK := Lib.hid' (show Ac.take b = if r6.fin ≠ 0 then (r6.fin, Ac.zero) else if (Ac.mk k e 0 d).check ≠ 0 then ((Ac.mk k e 0 d).check, Ac.zero) else (0, ⟨k, e, 0, d⟩) by
      unfold Ac.take
      rw [← HR.out]
      simp only [ne_eq, not_true_eq_false, if_false]
      rw [HRD.out])
    clear HRD HP HPE HDD
    have HCE := end_any R r6 w7 HR7.out
    obtain ⟨fn, hfn⟩ : ∃ n, n = r6.fin := ⟨_, rfl⟩
    rw [← hfn] at HCE HTK
    clear hfn
    skip
    refine HCE.mono ?_
    rintro e12 w12 ⟨rfl, rfl⟩
    clear HCE
    by_cases hf0 : fn = 0
    rotate_left
    · have HF := Lib.hid' (HTK.out.trans (if_pos hf0))
      have HE := Lib.hid' (errV_pos hf0)
      rw [errV_pos hf0]
      clear hf0 HTK HM7
      have x0 := HX7.out.box.1 0 _ rfl
      have x1 := HX7.out.box.1 1 _ rfl
      have x2 := HX7.out.box.1 2 _ rfl
      have x3 := HX7.out.box.1 3 _ rfl
      have xf := HX7.out.box.2.1
      go_wp2
      obtain ⟨y0, y1, y2, y3⟩ := set4_cells (a' := .int .i64 0) (b' := .int .i64 0) (c' := .int .i64 0) (d' := .slice none 0 0) HX7.out
      refine bodyPost_ret (v := .tuple #[.agg #[.int .i64 0, .int .i64 0, .int .i64 0, .slice none 0 0], .iface 54 (.int .i64 fn)]) (by simp [results, Tryz.results57, go_sem, y0, y1, y2, y3]) rfl ?_
      rw [HF.out, ← HE.out]
      exact RTakeR.bad (HG7.out.trans (fr_set4.below HG7.out.size (fun q hq => by omega)))
    subst hf0
    rw [errV_0]
    have HTK2 := Lib.hid' (HTK.out.trans (if_neg (by simp)))
    clear HTK
    have m0 := HM7.out.box.1 0 _ rfl
    have m1 := HM7.out.box.1 1 _ rfl
    have m2 := HM7.out.box.1 2 _ rfl
    have m3 := HM7.out.box.1 3 _ rfl
    have mf := HM7.out.box.2.1
    go_wp2_with fail
    clear m0 m1 m2 m3 mf
    have HCK := rcheck9_any ⟨k, e, 0, d⟩ none 0 hdl w7
    obtain ⟨ck, hck⟩ : ∃ n, n = (Ac.mk k e 0 d).check := ⟨_, rfl⟩
    rw [← hck] at HCK HTK2
    clear hck
    unfold ac9V at HCK
    simp only at HCK
    rw [HDN.out] at HCK
    refine HCK.mono ?_
    rintro e13 w13 ⟨rfl, hb13⟩
    have HX13 := Lib.hid' (HX7.out.below (Nat.le_refl _) hb13)
    have HM13 := Lib.hid' (HM7.out.below (Nat.le_refl _) hb13)
    have HG13 := Lib.hid' (HG7.out.trans (hb13.mono HG7.out.size))
    have HD13 := Lib.hid' (show Bytes w13 (.slice none d.length 0) d from SlV.below HD7.out (Nat.le_refl _) hb13)
    clear hb13 HX7 HM7 HG7 HD7 HCK HR7 hz7
    by_cases hc0 : ck = 0
    rotate_left
    · have HF := Lib.hid' (HTK2.out.trans (if_pos hc0))
      have HE := Lib.hid' (errV_pos hc0)
      rw [errV_pos hc0]
      clear hc0 HTK2 HM13
      have x0 := HX13.out.box.1 0 _ rfl
      have x1 := HX13.out.box.1 1 _ rfl
      have x2 := HX13.out.box.1 2 _ rfl
      have x3 := HX13.out.box.1 3 _ rfl
      have xf := HX13.out.box.2.1
      go_wp2
      obtain ⟨y0, y1, y2, y3⟩ := set4_cells (a' := .int .i64 0) (b' := .int .i64 0) (c' := .int .i64 0) (d' := .slice none 0 0) HX13.out
      refine bodyPost_ret (v := .tuple #[.agg #[.int .i64 0, .int .i64 0, .int .i64 0, .slice none 0 0], .iface 54 (.int .i64 ck)]) (by simp [results, Tryz.results57, go_sem, y0, y1, y2, y3]) rfl ?_
      rw [HF.out, ← HE.out]
      exact RTakeR.bad (HG13.out.trans (fr_set4.below HG13.out.size (fun q hq => by omega)))
    subst hc0
    rw [errV_0]
    have HF := Lib.hid' (HTK2.out.trans (if_neg (by simp)))
    clear HTK2
    have m0 := HM13.out.box.1 0 _ rfl
    have m1 := HM13.out.box.1 1 _ rfl
    have m2 := HM13.out.box.1 2 _ rfl
    have m3 := HM13.out.box.1 3 _ rfl
    have mf := HM13.out.box.2.1
    have x0 := HX13.out.box.1 0 _ rfl
    have x1 := HX13.out.box.1 1 _ rfl
    have x2 := HX13.out.box.1 2 _ rfl
    have x3 := HX13.out.box.1 3 _ rfl
    have xf := HX13.out.box.2.1
    go_wp2
    obtain ⟨y0, y1, y2, y3⟩ := set4_cells (a' := .int .i64 (k : Int)) (b' := .int .i64 (e : Int)) (c' := .int .i64 0) (d' := .slice none 0 0) HX13.out
    refine bodyPost_ret (v := .tuple #[.agg #[.int .i64 (k : Int), .int .i64 (e : Int), .int .i64 0, .slice none 0 0], .nilIface]) (by simp [results, Tryz.results57, go_sem, y0, y1, y2, y3]) rfl ?_
    rw [HF.out]
    exact ⟨none, 0, by simp only [ac9V, errV_0, HDN.out], HX13.out.bytes ac_no HD13.out fr_set4, HG13.out.trans (fr_set4.below HG13.out.size (fun q hq => by omega))⟩
  by_cases hqC : k < 3
  · skip
    have hl1 : ¬ (k : Int) < 1 := by omega
    have c1 : ((k : Int) != 1) = true := by rw [bne_iff_ne]; omega
    have b2 : ((k : Int) == 2) = true := by rw [beq_iff_eq]; omega
    go_wp2_with fail
    have hz4 : w3.heap.size < (w3.alloc (.cells #[.int .i64 (k : Int), .int .i64 0, .int .i64 0, .slice none 0 0] 34)).heap.size := by simp
    have hg4 : Below w3.heap.size w3 (w3.alloc (.cells #[.int .i64 (k : Int), .int .i64 0, .int .i64 0, .slice none 0 0] 34)) := by go_grown
    have HM4 := Lib.hid' (BoxW.start w3 [.int .i64 (k : Int), .int .i64 0, .int .i64 0, .slice none 0 0] 34)
    have HX4 := Lib.hid' (HX3.out.below (Nat.le_refl _) hg4)
    have HG4 := Lib.hid' (HG3.out.trans (hg4.mono (by omega)))
    have HR4 := Lib.hid' (HR3.out.below (Nat.le_refl _) hg4)
    clear hg4 HX3 HG3 HR3
    generalize (w3.alloc (.cells #[.int .i64 (k : Int), .int .i64 0, .int .i64 0, .slice none 0 0] 34)) = w4 at *
    generalize w3.heap.size = M at *
    have hz5 := hz4
    have HX5 := HX4
    have HG5 := HG4
    have HR5 := HR4
    have HM5 := HM4
    clear hz4 HX4 HG4 HR4 HM4
    generalize w4 = w5 at *
    have HW := within_r_any R r3 1099511627776 (by omega) w5 HR5.out
    have hke := RD.within_le r3 1099511627776
    obtain ⟨⟨e, r6⟩, hp⟩ : ∃ p, p = RD.within r3 1099511627776 := ⟨_, rfl⟩
    rw [← hp] at HW hke
    simp only at HW hke
    have HPE := Lib.hid' hp
    clear hp
    refine (HW).mono ?_
    rintro e6 w6 ⟨rfl, hr6, hf6⟩
    have HX6 := Lib.hid' (HX5.out.fr hf6 (by omega))
    have HM6 := Lib.hid' (HM5.out.fr hf6 (by omega))
    have HG6 := Lib.hid' (HG5.out.trans (hf6.below HG5.out.size (fun q hq => by omega)))
    have HR6 := Lib.hid' hr6
    have hz6 : M < w6.heap.size := by have := hf6.size; omega
    clear hr6 hf6 HX5 HG5 HR5 HM5 hz5
    clear HW
    have m0 := HM6.out.box.1 0 _ rfl
    have m1 := HM6.out.box.1 1 _ rfl
    have m2 := HM6.out.box.1 2 _ rfl
    have m3 := HM6.out.box.1 3 _ rfl
    have mf := HM6.out.box.2.1
    go_wp2_with fail
    clear m0 m1 m2 m3 mf
    skip
    have hfs : Fr (fun q => q = M) w6 (w6.setCell ⟨M, 1, none⟩ (.int .i64 (e : Int))) := fr_set _ _ _ _
    have HX7 := Lib.hid' (HX6.out.fr hfs (by omega))
    have HM7 := Lib.hid' (HM6.out.set 1 (.int .i64 (e : Int)))
    simp only [List.set_cons_zero, List.set_cons_succ] at HM7
    have HG7 := Lib.hid' (HG6.out.trans (hfs.below HG6.out.size (fun q hq => by omega)))
    have HR7 := Lib.hid' (HR6.out.fr hfs (by omega) (fun a c hd => HM6.out.bytes ac_no hd hfs))
    have hz7 : M < (w6.setCell ⟨M, 1, none⟩ (.int .i64 (e : Int))).heap.size := by have := hfs.size; omega
    clear hfs HX6 HG6 HR6 HM6 hz6
    generalize w6.setCell ⟨M, 1, none⟩ (.int .i64 (e : Int)) = w7 at *
    have HW := within_r_any R r6 1048576 (by omega) w7 HR7.out
    have hka := RD.within_le r6 1048576
    obtain ⟨⟨an, r8⟩, hp⟩ : ∃ p, p = RD.within r6 1048576 := ⟨_, rfl⟩
    rw [← hp] at HW hka
    simp only at HW hka
    have HPA := Lib.hid' hp
    clear hp
    refine (HW).mono ?_
    rintro e8 w8 ⟨rfl, hr8, hf8⟩
    have HX8 := Lib.hid' (HX7.out.fr hf8 (by omega))
    have HM8 := Lib.hid' (HM7.out.fr hf8 (by omega))
    have HG8 := Lib.hid' (HG7.out.trans (hf8.below HG7.out.size (fun q hq => by omega)))
    have HR8 := Lib.hid' hr8
    have hz8 : M < w8.heap.size := by have := hf8.size; omega
    clear hr8 hf8 HX7 HG7 HR7 HM7 hz7
    clear HW
    have m0 := HM8.out.box.1 0 _ rfl
    have m1 := HM8.out.box.1 1 _ rfl
    have m2 := HM8.out.box.1 2 _ rfl
    have m3 := HM8.out.box.1 3 _ rfl
    have mf := HM8.out.box.2.1
    go_wp2_with fail
    clear m0 m1 m2 m3 mf
    skip
    have hfs : Fr (fun q => q = M) w8 (w8.setCell ⟨M, 2, none⟩ (.int .i64 (an : Int))) := fr_set _ _ _ _
    have HX9 := Lib.hid' (HX8.out.fr hfs (by omega))
    have HM9 := Lib.hid' (HM8.out.set 2 (.int .i64 (an : Int)))
    simp only [List.set_cons_zero, List.set_cons_succ] at HM9
    have HG9 := Lib.hid' (HG8.out.trans (hfs.below HG8.out.size (fun q hq => by omega)))
    have HR9 := Lib.hid' (HR8.out.fr hfs (by omega) (fun a c hd => HM8.out.bytes ac_no hd hfs))
    have hz9 : M < (w8.setCell ⟨M, 2, none⟩ (.int .i64 (an : Int))).heap.size := by have := hfs.size; omega
    clear hfs HX8 HG8 HR8 HM8 hz8
    generalize w8.setCell ⟨M, 2, none⟩ (.int .i64 (an : Int)) = w9 at *
    have HW := text_r_any R r8 64 (by omega) w9 HR9.out
    obtain ⟨⟨d, r10⟩, hp⟩ : ∃ p, p = RD.text r8 64 := ⟨_, rfl⟩
    rw [← hp] at HW
    simp only at HW
    have HPD := Lib.hid' hp
    clear hp
    unfold FixR at HW
    refine (HW).mono ?_
    rintro e10 w10 ⟨a10, c10, rfl, ho10, hr10, hf10⟩
    have HD10 := Lib.hid' (show Bytes w10 (.slice a10 d.length c10) d from SlV.of_own ho10)
    have hdl := bytes_len HD10.out
    clear ho10
    have HX10 := Lib.hid' (HX9.out.fr hf10 (by omega))
    have HM10 := Lib.hid' (HM9.out.fr hf10 (by omega))
    have HG10 := Lib.hid' (HG9.out.trans (hf10.below HG9.out.size (fun q hq => by omega)))
    have HR10 := Lib.hid' hr10
    have hz10 : M < w10.heap.size := by have := hf10.size; omega
    clear hr10 hf10 HX9 HG9 HR9 HM9 hz9
    clear HW
    have m0 := HM10.out.box.1 0 _ rfl
    have m1 := HM10.out.box.1 1 _ rfl
    have m2 := HM10.out.box.1 2 _ rfl
    have m3 := HM10.out.box.1 3 _ rfl
    have mf := HM10.out.box.2.1
    go_wp2_with fail
    clear m0 m1 m2 m3 mf
    skip
    have hfs : Fr (fun q => q = M) w10 (w10.setCell ⟨M, 3, none⟩ (.slice a10 d.length c10)) := fr_set _ _ _ _
    have HX11 := Lib.hid' (HX10.out.fr hfs (by omega))
    have HM11 := Lib.hid' (HM10.out.set 3 (.slice a10 d.length c10))
    simp only [List.set_cons_zero, List.set_cons_succ] at HM11
    have HG11 := Lib.hid' (HG10.out.trans (hfs.below HG10.out.size (fun q hq => by omega)))
    have HR11 := Lib.hid' (HR10.out.fr hfs (by omega) (fun a c hd => HM10.out.bytes ac_no hd hfs))
    have hz11 : M < (w10.setCell ⟨M, 3, none⟩ (.slice a10 d.length c10)).heap.size := by have := hfs.size; omega
    have HD11 := Lib.hid' (HM10.out.bytes ac_no HD10.out hfs)
    clear HD10
    clear hfs HX10 HG10 HR10 HM10 hz10
    generalize w10.setCell ⟨M, 3, none⟩ (.slice a10 d.length c10) = w11 at *
    have HRD := Lib.hid' (show Ac.read ⟨t, 0⟩ = (⟨k, e, (an : Int), d⟩, r10) by
      unfold Ac.read
      simp only
      rw [← HP.out]
      simp only
      rw [if_neg (show ¬ k < 1 by omega), ← HPE.out]
      simp only
      rw [if_pos (show k ≠ 1 by omega), ← HPA.out]
      simp only
      rw [if_pos (show k = 2 by omega), ← HPD.out])
    have HTK := Lib.hid' (show Ac.take b = if r10.fin ≠ 0 then (r10.fin, Ac.zero) else if (Ac.mk k e (an : Int) d).check ≠ 0 then ((Ac.mk k e (an : Int) d).check, Ac.zero) else (0, ⟨k, e, (an : Int), d⟩) by
      unfold Ac.take
      rw [← HR.out]
      simp only [ne_eq, not_true_eq_false, if_false]
      rw [HRD.out])
    clear HRD HP HPE HPA HPD
    have HCE := end_any R r10 w11 HR11.out
    obtain ⟨fn, hfn⟩ : ∃ n, n = r10.fin := ⟨_, rfl⟩
    rw [← hfn] at HCE HTK
    clear hfn
    refine HCE.mono ?_
    rintro e12 w12 ⟨rfl, rfl⟩
    clear HCE
    by_cases hf0 : fn = 0
    rotate_left
    · have HF := Lib.hid' (HTK.out.trans (if_pos hf0))
      have HE := Lib.hid' (errV_pos hf0)
      rw [errV_pos hf0]
      clear hf0 HTK HM11
      have x0 := HX11.out.box.1 0 _ rfl
      have x1 := HX11.out.box.1 1 _ rfl
      have x2 := HX11.out.box.1 2 _ rfl
      have x3 := HX11.out.box.1 3 _ rfl
      have xf := HX11.out.box.2.1
      go_wp2
      obtain ⟨y0, y1, y2, y3⟩ := set4_cells (a' := .int .i64 0) (b' := .int .i64 0) (c' := .int .i64 0) (d' := .slice none 0 0) HX11.out
      refine bodyPost_ret (v := .tuple #[.agg #[.int .i64 0, .int .i64 0, .int .i64 0, .slice none 0 0], .iface 54 (.int .i64 fn)]) (by simp [results, Tryz.results57, go_sem, y0, y1, y2, y3]) rfl ?_
      rw [HF.out, ← HE.out]
      exact RTakeR.bad (HG11.out.trans (fr_set4.below HG11.out.size (fun q hq => by omega)))
    subst hf0
    rw [errV_0]
    have HTK2 := Lib.hid' (HTK.out.trans (if_neg (by simp)))
    clear HTK
    have m0 := HM11.out.box.1 0 _ rfl
    have m1 := HM11.out.box.1 1 _ rfl
    have m2 := HM11.out.box.1 2 _ rfl
    have m3 := HM11.out.box.1 3 _ rfl
    have mf := HM11.out.box.2.1
    go_wp2_with fail
    clear m0 m1 m2 m3 mf
    have HCK := rcheck9_any ⟨k, e, (an : Int), d⟩ a10 c10 hdl w11
    obtain ⟨ck, hck⟩ : ∃ n, n = (Ac.mk k e (an : Int) d).check := ⟨_, rfl⟩
    rw [← hck] at HCK HTK2
    clear hck
    unfold ac9V at HCK
    simp only at HCK
    refine HCK.mono ?_
    rintro e13 w13 ⟨rfl, hb13⟩
    have HX13 := Lib.hid' (HX11.out.below (Nat.le_refl _) hb13)
    have HM13 := Lib.hid' (HM11.out.below (Nat.le_refl _) hb13)
    have HG13 := Lib.hid' (HG11.out.trans (hb13.mono HG11.out.size))
    have HD13 := Lib.hid' (show Bytes w13 (.slice a10 d.length c10) d from SlV.below HD11.out (Nat.le_refl _) hb13)
    clear hb13 HX11 HM11 HG11 HD11 HCK HR11 hz11
    by_cases hc0 : ck = 0
    rotate_left
    · have HF := Lib.hid' (HTK2.out.trans (if_pos hc0))
      have HE := Lib.hid' (errV_pos hc0)
      rw [errV_pos hc0]
      clear hc0 HTK2 HM13
      have x0 := HX13.out.box.1 0 _ rfl
      have x1 := HX13.out.box.1 1 _ rfl
      have x2 := HX13.out.box.1 2 _ rfl
      have x3 := HX13.out.box.1 3 _ rfl
      have xf := HX13.out.box.2.1
      go_wp2
      obtain ⟨y0, y1, y2, y3⟩ := set4_cells (a' := .int .i64 0) (b' := .int .i64 0) (c' := .int .i64 0) (d' := .slice none 0 0) HX13.out
      refine bodyPost_ret (v := .tuple #[.agg #[.int .i64 0, .int .i64 0, .int .i64 0, .slice none 0 0], .iface 54 (.int .i64 ck)]) (by simp [results, Tryz.results57, go_sem, y0, y1, y2, y3]) rfl ?_
      rw [HF.out, ← HE.out]
      exact RTakeR.bad (HG13.out.trans (fr_set4.below HG13.out.size (fun q hq => by omega)))
    subst hc0
    rw [errV_0]
    have HF := Lib.hid' (HTK2.out.trans (if_neg (by simp)))
    clear HTK2
    have m0 := HM13.out.box.1 0 _ rfl
    have m1 := HM13.out.box.1 1 _ rfl
    have m2 := HM13.out.box.1 2 _ rfl
    have m3 := HM13.out.box.1 3 _ rfl
    have mf := HM13.out.box.2.1
    have x0 := HX13.out.box.1 0 _ rfl
    have x1 := HX13.out.box.1 1 _ rfl
    have x2 := HX13.out.box.1 2 _ rfl
    have x3 := HX13.out.box.1 3 _ rfl
    have xf := HX13.out.box.2.1
    go_wp2
    obtain ⟨y0, y1, y2, y3⟩ := set4_cells (a' := .int .i64 (k : Int)) (b' := .int .i64 (e : Int)) (c' := .int .i64 (an : Int)) (d' := .slice a10 d.length c10) HX13.out
    refine bodyPost_ret (v := .tuple #[.agg #[.int .i64 (k : Int), .int .i64 (e : Int), .int .i64 (an : Int), .slice a10 d.length c10], .nilIface]) (by simp [results, Tryz.results57, go_sem, y0, y1, y2, y3]) rfl ?_
    rw [HF.out]
    exact ⟨a10, c10, by simp only [ac9V, errV_0], HX13.out.bytes ac_no HD13.out fr_set4, HG13.out.trans (fr_set4.below HG13.out.size (fun q hq => by omega))⟩
  have hl1 : ¬ (k : Int) < 1 := by omega
  have c1 : ((k : Int) != 1) = true := by rw [bne_iff_ne]; omega
  have b2 : ((k : Int) == 2) = false := by rw [beq_eq_false_iff_ne]; omega
  go_wp2_with fail
  have hz4 : w3.heap.size < (w3.alloc (.cells #[.int .i64 (k : Int), .int .i64 0, .int .i64 0, .slice none 0 0] 34)).heap.size := by simp
  have hg4 : Below w3.heap.size w3 (w3.alloc (.cells #[.int .i64 (k : Int), .int .i64 0, .int .i64 0, .slice none 0 0] 34)) := by go_grown
  have HM4 := Lib.hid' (BoxW.start w3 [.int .i64 (k : Int), .int .i64 0, .int .i64 0, .slice none 0 0] 34)
  have HX4 := Lib.hid' (HX3.out.below (Nat.le_refl _) hg4)
  have HG4 := Lib.hid' (HG3.out.trans (hg4.mono (by omega)))
  have HR4 := Lib.hid' (HR3.out.below (Nat.le_refl _) hg4)
  clear hg4 HX3 HG3 HR3
  generalize (w3.alloc (.cells #[.int .i64 (k : Int), .int .i64 0, .int .i64 0, .slice none 0 0] 34)) = w4 at *
  generalize w3.heap.size = M at *
  have hz5 := hz4
  have HX5 := HX4
  have HG5 := HG4
  have HR5 := HR4
  have HM5 := HM4
  clear hz4 HX4 HG4 HR4 HM4
  generalize w4 = w5 at *
  have HW := within_r_any R r3 1099511627776 (by omega) w5 HR5.out
  have hke := RD.within_le r3 1099511627776
  obtain ⟨⟨e, r6⟩, hp⟩ : ∃ p, p = RD.within r3 1099511627776 := ⟨_, rfl⟩
  rw [← hp] at HW hke
  simp only at HW hke
  have HPE := Lib.hid' hp
  clear hp
  refine (HW).mono ?_
  rintro e6 w6 ⟨rfl, hr6, hf6⟩
  have HX6 := Lib.hid' (HX5.out.fr hf6 (by omega))
  have HM6 := Lib.hid' (HM5.out.fr hf6 (by omega))
  have HG6 := Lib.hid' (HG5.out.trans (hf6.below HG5.out.size (fun q hq => by omega)))
  have HR6 := Lib.hid' hr6
  have hz6 : M < w6.heap.size := by have := hf6.size; omega
  clear hr6 hf6 HX5 HG5 HR5 HM5 hz5
  clear HW
  have m0 := HM6.out.box.1 0 _ rfl
  have m1 := HM6.out.box.1 1 _ rfl
  have m2 := HM6.out.box.1 2 _ rfl
  have m3 := HM6.out.box.1 3 _ rfl
  have mf := HM6.out.box.2.1
  go_wp2_with fail
  clear m0 m1 m2 m3 mf
  skip
  have hfs : Fr (fun q => q = M) w6 (w6.setCell ⟨M, 1, none⟩ (.int .i64 (e : Int))) := fr_set _ _ _ _
  have HX7 := Lib.hid' (HX6.out.fr hfs (by omega))
  have HM7 := Lib.hid' (HM6.out.set 1 (.int .i64 (e : Int)))
  simp only [List.set_cons_zero, List.set_cons_succ] at HM7
  have HG7 := Lib.hid' (HG6.out.trans (hfs.below HG6.out.size (fun q hq => by omega)))
  have HR7 := Lib.hid' (HR6.out.fr hfs (by omega) (fun a c hd => HM6.out.bytes ac_no hd hfs))
  have hz7 : M < (w6.setCell ⟨M, 1, none⟩ (.int .i64 (e : Int))).heap.size := by have := hfs.size; omega
  clear hfs HX6 HG6 HR6 HM6 hz6
  generalize w6.setCell ⟨M, 1, none⟩ (.int .i64 (e : Int)) = w7 at *
  have HW := within_r_any R r6 1048576 (by omega) w7 HR7.out
  have hka := RD.within_le r6 1048576
  obtain ⟨⟨an, r8⟩, hp⟩ : ∃ p, p = RD.within r6 1048576 := ⟨_, rfl⟩
  rw [← hp] at HW hka
  simp only at HW hka
  have HPA := Lib.hid' hp
  clear hp
  refine (HW).mono ?_
  rintro e8 w8 ⟨rfl, hr8, hf8⟩
  have HX8 := Lib.hid' (HX7.out.fr hf8 (by omega))
  have HM8 := Lib.hid' (HM7.out.fr hf8 (by omega))
  have HG8 := Lib.hid' (HG7.out.trans (hf8.below HG7.out.size (fun q hq => by omega)))
  have HR8 := Lib.hid' hr8
  have hz8 : M < w8.heap.size := by have := hf8.size; omega
  clear hr8 hf8 HX7 HG7 HR7 HM7 hz7
  clear HW
  have m0 := HM8.out.box.1 0 _ rfl
  have m1 := HM8.out.box.1 1 _ rfl
  have m2 := HM8.out.box.1 2 _ rfl
  have m3 := HM8.out.box.1 3 _ rfl
  have mf := HM8.out.box.2.1
  go_wp2_with fail
  clear m0 m1 m2 m3 mf
  skip
  have hfs : Fr (fun q => q = M) w8 (w8.setCell ⟨M, 2, none⟩ (.int .i64 (an : Int))) := fr_set _ _ _ _
  have HX9 := Lib.hid' (HX8.out.fr hfs (by omega))
  have HM9 := Lib.hid' (HM8.out.set 2 (.int .i64 (an : Int)))
  simp only [List.set_cons_zero, List.set_cons_succ] at HM9
  have HG9 := Lib.hid' (HG8.out.trans (hfs.below HG8.out.size (fun q hq => by omega)))
  have HR9 := Lib.hid' (HR8.out.fr hfs (by omega) (fun a c hd => HM8.out.bytes ac_no hd hfs))
  have hz9 : M < (w8.setCell ⟨M, 2, none⟩ (.int .i64 (an : Int))).heap.size := by have := hfs.size; omega
  clear hfs HX8 HG8 HR8 HM8 hz8
  generalize w8.setCell ⟨M, 2, none⟩ (.int .i64 (an : Int)) = w9 at *
  obtain ⟨d, hd⟩ : ∃ d : List UInt8, d = [] := ⟨_, rfl⟩
  have HD9 := Lib.hid' (show Bytes w9 (.slice none d.length 0) d by rw [hd]; exact SlV.empty _ _ _ (Nat.zero_le _) (fun _ => rfl))
  have hdl : d.length ≤ 9223372036854775807 := by rw [hd]; simp
  have HDD := Lib.hid' hd
  have hdn : d.length = 0 := by rw [hd]; rfl
  have HDN := Lib.hid' hdn
  clear hd hdn
  have HRD := Lib.hid' (show Ac.read ⟨t, 0⟩ = (⟨k, e, (an : Int), d⟩, r8) by
    unfold Ac.read
    simp only
    rw [← HP.out]
    simp only
    rw [if_neg (show ¬ k < 1 by omega), ← HPE.out]
    simp only
    rw [if_pos (show k ≠ 1 by omega), ← HPA.out]
    simp only
    rw [if_neg (show ¬ k = 2 by omega), HDD.out])
  have HTK := Lib.hid' (show Ac.take b = if r8.fin ≠ 0 then (r8.fin, Ac.zero) else if (Ac.mk k e (an : Int) d).check ≠ 0 then ((Ac.mk k e (an : Int) d).check, Ac.zero) else (0, ⟨k, e, (an : Int), d⟩) by
    unfold Ac.take
    rw [← HR.out]
    simp only [ne_eq, not_true_eq_false, if_false]
    rw [HRD.out])
  clear HRD HP HPE HPA HDD
  have HCE := end_any R r8 w9 HR9.out
  obtain ⟨fn, hfn⟩ : ∃ n, n = r8.fin := ⟨_, rfl⟩
  rw [← hfn] at HCE HTK
  clear hfn
  refine HCE.mono ?_
  rintro e12 w12 ⟨rfl, rfl⟩
  clear HCE
  by_cases hf0 : fn = 0
  rotate_left
  · have HF := Lib.hid' (HTK.out.trans (if_pos hf0))
    have HE := Lib.hid' (errV_pos hf0)
    rw [errV_pos hf0]
    clear hf0 HTK HM9
    have x0 := HX9.out.box.1 0 _ rfl
    have x1 := HX9.out.box.1 1 _ rfl
    have x2 := HX9.out.box.1 2 _ rfl
    have x3 := HX9.out.box.1 3 _ rfl
    have xf := HX9.out.box.2.1
    go_wp2
    obtain ⟨y0, y1, y2, y3⟩ := set4_cells (a' := .int .i64 0) (b' := .int .i64 0) (c' := .int .i64 0) (d' := .slice none 0 0) HX9.out
    refine bodyPost_ret (v := .tuple #[.agg #[.int .i64 0, .int .i64 0, .int .i64 0, .slice none 0 0], .iface 54 (.int .i64 fn)]) (by simp [results, Tryz.results57, go_sem, y0, y1, y2, y3]) rfl ?_
    rw [HF.out, ← HE.out]
    exact RTakeR.bad (HG9.out.trans (fr_set4.below HG9.out.size (fun q hq => by omega)))
  subst hf0
  rw [errV_0]
  have HTK2 := Lib.hid' (HTK.out.trans (if_neg (by simp)))
  clear HTK
  have m0 := HM9.out.box.1 0 _ rfl
  have m1 := HM9.out.box.1 1 _ rfl
  have m2 := HM9.out.box.1 2 _ rfl
  have m3 := HM9.out.box.1 3 _ rfl
  have mf := HM9.out.box.2.1
  go_wp2_with fail
  clear m0 m1 m2 m3 mf
  have HCK := rcheck9_any ⟨k, e, (an : Int), d⟩ none 0 hdl w9
  obtain ⟨ck, hck⟩ : ∃ n, n = (Ac.mk k e (an : Int) d).check := ⟨_, rfl⟩
  rw [← hck] at HCK HTK2
  clear hck
  unfold ac9V at HCK
  simp only at HCK
  rw [HDN.out] at HCK
  refine HCK.mono ?_
  rintro e13 w13 ⟨rfl, hb13⟩
  have HX13 := Lib.hid' (HX9.out.below (Nat.le_refl _) hb13)
  have HM13 := Lib.hid' (HM9.out.below (Nat.le_refl _) hb13)
  have HG13 := Lib.hid' (HG9.out.trans (hb13.mono HG9.out.size))
  have HD13 := Lib.hid' (show Bytes w13 (.slice none d.length 0) d from SlV.below HD9.out (Nat.le_refl _) hb13)
  clear hb13 HX9 HM9 HG9 HD9 HCK HR9 hz9
  by_cases hc0 : ck = 0
  rotate_left
  · have HF := Lib.hid' (HTK2.out.trans (if_pos hc0))
    have HE := Lib.hid' (errV_pos hc0)
    rw [errV_pos hc0]
    clear hc0 HTK2 HM13
    have x0 := HX13.out.box.1 0 _ rfl
    have x1 := HX13.out.box.1 1 _ rfl
    have x2 := HX13.out.box.1 2 _ rfl
    have x3 := HX13.out.box.1 3 _ rfl
    have xf := HX13.out.box.2.1
    go_wp2
    obtain ⟨y0, y1, y2, y3⟩ := set4_cells (a' := .int .i64 0) (b' := .int .i64 0) (c' := .int .i64 0) (d' := .slice none 0 0) HX13.out
    refine bodyPost_ret (v := .tuple #[.agg #[.int .i64 0, .int .i64 0, .int .i64 0, .slice none 0 0], .iface 54 (.int .i64 ck)]) (by simp [results, Tryz.results57, go_sem, y0, y1, y2, y3]) rfl ?_
    rw [HF.out, ← HE.out]
    exact RTakeR.bad (HG13.out.trans (fr_set4.below HG13.out.size (fun q hq => by omega)))
  subst hc0
  rw [errV_0]
  have HF := Lib.hid' (HTK2.out.trans (if_neg (by simp)))
  clear HTK2
  have m0 := HM13.out.box.1 0 _ rfl
  have m1 := HM13.out.box.1 1 _ rfl
  have m2 := HM13.out.box.1 2 _ rfl
  have m3 := HM13.out.box.1 3 _ rfl
  have mf := HM13.out.box.2.1
  have x0 := HX13.out.box.1 0 _ rfl
  have x1 := HX13.out.box.1 1 _ rfl
  have x2 := HX13.out.box.1 2 _ rfl
  have x3 := HX13.out.box.1 3 _ rfl
  have xf := HX13.out.box.2.1
  go_wp2
  obtain ⟨y0, y1, y2, y3⟩ := set4_cells (a' := .int .i64 (k : Int)) (b' := .int .i64 (e : Int)) (c' := .int .i64 (an : Int)) (d' := .slice none 0 0) HX13.out
  refine bodyPost_ret (v := .tuple #[.agg #[.int .i64 (k : Int), .int .i64 (e : Int), .int .i64 (an : Int), .slice none 0 0], .nilIface]) (by simp [results, Tryz.results57, go_sem, y0, y1, y2, y3]) rfl ?_
  rw [HF.out]
  exact ⟨none, 0, by simp only [ac9V, errV_0, HDN.out], HX13.out.bytes ac_no HD13.out fr_set4, HG13.out.trans (fr_set4.below HG13.out.size (fun q hq => by omega))⟩
end Go.Proofs.YtkhnbdbcaebdaaaGreatDoor

namespace Go.Proofs.YtkhnbdbcaebdaaaGreatDoor
open Go.RowKit
set_option linter.unusedSimpArgs false
set_option linter.unusedVariables false
set_option maxRecDepth 20000

/-- a block of which nothing is told -/
def Asn.blk (N : Nat) : Asn where
  holds := fun w => N < w.heap.size
  foot := fun b => b = N
  lt := fun _ h b e => by subst e; exact h
  keep := fun w w' h k => by
    have h1 := k N rfl
    rw [Array.getElem?_eq_getElem h] at h1
    exact (Array.getElem?_eq_some_iff.1 h1).1
theorem Sep.blk0 {w : World} {N : Nat} (h : N < w.heap.size) : Sep w (fun k => k = N) [Asn.blk N] w := Sep.start1 (Asn.blk N) h
/-- a call that writes that block alone -/
theorem Sep.rd {w0 w w' : World} {F : Nat → Prop} {L : List Asn} (h : Sep w0 F L w) (i : Nat) {N : Nat} (hi : L[i]? = some (Asn.blk N)) (hf : Fr (fun k => k = N) w w') : Sep w0 F (Asn.blk N :: L.eraseIdx i) w' :=
  (h.focus i hi).fr1 (A := Asn.blk N) (B := Asn.blk N) hf (Nat.lt_of_lt_of_le (h.at i hi) hf.size) (fun b hb => .inr hb)
/-- .. and makes a row -/
theorem Sep.rdRow {w0 w w' : World} {F : Nat → Prop} {L : List Asn} (h : Sep w0 F L w) (i : Nat) {N : Nat} (hi : L[i]? = some (Asn.blk N)) (hf : Fr (fun k => k = N) w w') {e size n : Nat} {v : Value} {xs : List Value} (hr : w'.ownsRow w.heap.size e size v n xs) : Sep w0 F (.row e size v n xs :: Asn.blk N :: L.eraseIdx i) w' := by
  refine (h.focus i hi).call (A := Asn.blk N) (K := [.row e size v n xs, Asn.blk N]) ⟨hf, ?_, ?_, ?_⟩
  · simp only [List.mem_cons, List.not_mem_nil, or_false]
    rintro A (rfl | rfl)
    · exact own_base hr (Nat.zero_le _)
    · exact Nat.lt_of_lt_of_le (h.at i hi) hf.size
  · simp only [List.pairwise_cons, List.mem_singleton, forall_eq, List.not_mem_nil, false_implies, implies_true, List.Pairwise.nil, and_true]
    intro b hb1 hb2
    have h1 := (own_blk hr hb1).1
    have h2 : b = N := hb2
    have h3 : N < w.heap.size := h.at i hi
    omega
  · simp only [List.mem_cons, List.not_mem_nil, or_false]
    rintro A (rfl | rfl) b hb
    · exact .inl (own_blk hr hb).1
    · exact .inr hb
/-- a row lies in a new block, the block N being told of beside it -/
theorem Sep.own1 {w0 w : World} {N : Nat} {L : List Asn} (h : Sep w0 (fun k => k = N) L w) (i j : Nat) (hij : i ≠ j) {e size n : Nat} {v : Value} {xs : List Value} (hi : L[i]? = some (.row e size v n xs)) (hj : L[j]? = some (Asn.blk N)) : w.ownsRow w0.heap.size e size v n xs := by
  have h1 := h.row i hi
  refine ⟨h1.1, ?_⟩
  rcases h1.2 with h2 | ⟨g, cap, cur, hv, hg, r⟩
  · exact Or.inl h2
  · refine Or.inr ⟨g, cap, cur, hv, ?_, r⟩
    have hf : (Asn.row e size v n xs).foot g := by show v.ownBlock = some g; rw [hv]; rfl
    rcases h.new _ (List.mem_of_getElem? hi) g hf with h3 | h3
    · exact h3
    · exact absurd h3 (h.off i j hi hj hij g hf)
theorem Sep.push {α : Type} (f : α → Asn) {w0 w : World} {F : Nat → Prop} {L : List Asn} {Ks : List α} {y : α} (h : Sep w0 F (f y :: Asn.all (Ks.map f) :: L) w) : Sep w0 F (Asn.all ((Ks ++ [y]).map f) :: L) w := by
  have h1 := h.join
  have h2 := (h1.at 0 rfl)
  refine h1.turn ?_ ?_
  · obtain ⟨a, b, c⟩ := h2
    obtain ⟨b1, b2⟩ := Asn.all_holds.1 b
    rw [List.map_append]
    refine Asn.all_holds.2 ⟨?_, List.pairwise_append.2 ⟨b2, List.pairwise_singleton _ _, ?_⟩⟩
    · intro A hA
      rcases List.mem_append.1 hA with hA | hA
      · exact b1 A hA
      · simp only [List.map_cons, List.map_nil, List.mem_singleton] at hA; subst hA; exact a
    · intro A hA B hB k hk hk2
      simp only [List.map_cons, List.map_nil, List.mem_singleton] at hB; subst hB
      exact c k hk2 (Asn.all_foot.2 ⟨A, hA, hk⟩)
  · intro k hk
    rw [List.map_append] at hk
    obtain ⟨A, hA, hk⟩ := Asn.all_foot.1 hk
    rcases List.mem_append.1 hA with hA | hA
    · exact .inr (Asn.all_foot.2 ⟨A, hA, hk⟩)
    · simp only [List.map_cons, List.map_nil, List.mem_singleton] at hA; subst hA; exact .inl hk
theorem Sep.none {α : Type} (f : α → Asn) {w0 w : World} {F : Nat → Prop} {L : List Asn} (h : Sep w0 F L w) : Sep w0 F (Asn.all (([] : List α).map f) :: L) w := h.addEmp trivial (fun _ h => h)
/-- one of many parts holds -/
theorem Sep.one {α : Type} (f : α → Asn) {w0 w : World} {F : Nat → Prop} {L : List Asn} {Ks : List α} (h : Sep w0 F L w) (i : Nat) (hi : L[i]? = some (Asn.all (Ks.map f))) {x : α} (hx : x ∈ Ks) : (f x).holds w := (Asn.all_holds.1 (h.at i hi)).1 (f x) (List.mem_map_of_mem hx)
/-- .. and lies in a new block, the block N being told of beside it -/
theorem Sep.oneAt {w0 w : World} {N : Nat} {α : Type} (f : α → Asn) {L : List Asn} {Ks : List α} (h : Sep w0 (fun k => k = N) L w) (i j : Nat) (hij : i ≠ j) (hi : L[i]? = some (Asn.all (Ks.map f))) (hj : L[j]? = some (Asn.blk N)) {x : α} (hx : x ∈ Ks) {e size n : Nat} {v : Value} {xs : List Value} (hf : f x = .row e size v n xs) : w.ownsRow w0.heap.size e size v n xs := by
  have h1 := h.one f i hi hx
  rw [hf] at h1
  refine ⟨h1.1, ?_⟩
  rcases h1.2 with h2 | ⟨g, cap, cur, hv, hg, r⟩
  · exact Or.inl h2
  · refine Or.inr ⟨g, cap, cur, hv, ?_, r⟩
    have hg2 : (Asn.all (Ks.map f)).foot g := Asn.all_foot.2 ⟨f x, List.mem_map_of_mem hx, by rw [hf]; show v.ownBlock = some g; rw [hv]; rfl⟩
    rcases h.new _ (List.mem_of_getElem? hi) g hg2 with h3 | h3
    · exact h3
    · exact absurd h3 (h.off i j hi hj hij g hg2)
theorem Sep.rowHi {w0 w : World} {N : Nat} {L : List Asn} (h : Sep w0 (fun k => k = N) L w) (hN : N < w0.heap.size) (i j : Nat) (hij : i ≠ j) {e size n : Nat} {v : Value} {xs : List Value} (hi : L[i]? = some (.row e size v n xs)) (hj : L[j]? = some (Asn.blk N)) : ∀ k, v.ownBlock = some k → N < k := by
  intro k hk
  rcases h.new _ (List.mem_of_getElem? hi) k hk with h3 | h3
  · omega
  · exact absurd h3 (h.off i j hi hj hij k hk)
theorem Fr.allocH {F : Nat → Prop} {w0 w : World} (h : Fr F w0 w) (o : Obj) : Fr F w0 (w.alloc o) := h.trans_below ((Below.refl _ w).alloc (Nat.le_refl _) o)
theorem Fr.setH {F : Nat → Prop} {w0 w : World} (h : Fr F w0 w) {N : Nat} (hN : F N) (j : Nat) (v : Value) : Fr F w0 (w.setCell ⟨N, j, none⟩ v) :=
  h.trans (fr_set w N j v) (fun i hi => .inl (by subst hi; exact hN))
theorem RAt.hi {w w' : World} {b : Nat} {r : RD} (h : RAt w b r) (hf : Fr (fun k => b < k) w w') : RAt w' b r := h.high hf (fun _ h => h)
end Go.Proofs.YtkhnbdbcaebdaaaGreatDoor

namespace Go.Proofs.YtkhnbdbcaebdaaaGreatDoor
open Go.RowKit
set_option linter.unusedSimpArgs false
set_option linter.unusedVariables false
set_option maxRecDepth 20000

/-- a list of entries, and where their data lie -/
def EL (w : World) (a : Option Addr) (c : Nat) (E : List Ent) : Prop := SlV w (.slice a E.length c) E.length (E.flatMap entV) ∧ ∀ x ∈ E, Bytes w (.slice x.2.2.1 x.2.1.d.length x.2.2.2) x.2.1.d
theorem EL.below {w w' : World} {a : Option Addr} {c : Nat} {E : List Ent} (h : EL w a c E) {B : Nat} (hB : w.heap.size ≤ B) (hb : Below B w w') : EL w' a c E :=
  ⟨SlV.below h.1 hB hb, fun x hx => SlV.below (h.2 x hx) hB hb⟩
theorem EL.len {w : World} {a : Option Addr} {c : Nat} {E : List Ent} (h : EL w a c E) : E.length ≤ 9223372036854775807 := by
  obtain ⟨_, _, he, h1, h2, _⟩ := h.1; cases he; unfold maxLen at h2; omega
def withinN (l : Int) (E : List Ent) : Nat := if E.any (fun x => outE l (noAd x)) then 1 else 0
def docE (E : List Ent) : List (Int × C) := E.map noAd
theorem take_any {α : Type} (f : α → Bool) (L : List α) (k : Nat) (hk : k < L.length) : (L.take (k + 1)).any f = ((L.take k).any f || f L[k]) := by
  rw [List.take_succ_eq_append_getElem hk, List.any_append]; simp
set_option maxHeartbeats 1000000 in
theorem within_any (l : Int) (E : List Ent) (a : Option Addr) (c : Nat) (W : World) (h : EL W a c E) :
    Calls Tryz.prog 142 #[.int .i64 l, .slice a E.length c] W fun e w' => e = .returned (errV (withinN l E)) ∧ Below W.heap.size W w' := by
  have HS := Lib.hid' h
  have hlen := h.len
  clear h
  go_enter Tryz.func142, Tryz.ntmps142
  go_wp2_with fail
  go_loopw [9] (fun v9 wr => ∃ k : Nat, v9 = .int .i64 k ∧ k ≤ E.length ∧ (E.take k).any (fun x => outE l (noAd x)) = false ∧ Below W.heap.size W wr) (fun v9 _ => E.length - (intOf v9).toNat)
  case atStart => exact ⟨0, rfl, Nat.zero_le _, by simp, Below.refl _ _⟩
  case round =>
    obtain ⟨k, rfl, hk, hno, hbw⟩ := hrel
    have HNO := Lib.hid' hno
    have HBW := Lib.hid' hbw
    clear hno hbw
    by_cases hlt : k < E.length
    · obtain ⟨hsl, hby⟩ := HS.out.below (Nat.le_refl _) HBW.out
      obtain ⟨b, off, rfl, hb, hc⟩ := SlV.row (s := 3) (fun _ => rfl) (by decide) hsl hlt
      have c0 := hc 0 _ rfl; have c1 := hc 1 _ rfl; have c2 := hc 2 _ rfl
      simp only [Nat.add_zero] at c0
      have HTK := Lib.hid' (take_any (fun x => outE l (noAd x)) E k hlt)
      have HMEM := Lib.hid' (List.getElem_mem hlt)
      clear hc hsl hby
      generalize E[k] = x at *
      obtain ⟨xa, xc, xd, xn⟩ := x
      by_cases hq : xa < l ∨ 1048576 ≤ xa
      · have HF := Lib.hid' (show withinN l E = 1 from if_pos (List.any_eq_true.2 ⟨_, HMEM.out, by show (decide (xa < l) || decide (1048576 ≤ xa)) = true; simpa using hq⟩))
        have hq2 : xa < l ∨ (¬ xa < l ∧ xa ≥ 1048576) := by omega
        clear hq
        rcases hq2 with hq | ⟨hq1, hq⟩
        all_goals
          go_wp2_with fail
          go_ret
          exact ⟨ret_eq (by rw [HF.out]; rfl), HBW.out.trans ((show Below wr.heap.size wr _ by go_grown).mono HBW.out.size)⟩
      · have HT := Lib.hid' (show (E.take (k + 1)).any (fun x => outE l (noAd x)) = false by
          rw [HTK.out, HNO.out]; show (false || (decide (xa < l) || decide (1048576 ≤ xa))) = false; rw [Bool.false_or, Bool.or_eq_false_iff, decide_eq_false_iff_not, decide_eq_false_iff_not]; omega)
        have q1 : ¬ xa < l := by omega
        have q2 : ¬ xa ≥ 1048576 := by omega
        clear hq HTK
        go_wp2_with fail
        go_roundw
        case rel => exact ⟨k + 1, by go_num, by omega, HT.out, HBW.out.trans ((show Below wr.heap.size wr _ by go_grown).mono HBW.out.size)⟩
        case measure => simp [intOf]; omega
    · have HF := Lib.hid' (show withinN l E = 0 by
        have := HNO.out; rw [List.take_of_length_le (by omega)] at this; unfold withinN; rw [this]; rfl)
      go_wp2_with fail
      go_ret
      exact ⟨ret_eq (by rw [HF.out]; rfl), HBW.out⟩

end Go.Proofs.YtkhnbdbcaebdaaaGreatDoor

namespace Go.Proofs.YtkhnbdbcaebdaaaGreatDoor
open Go.RowKit
set_option linter.unusedSimpArgs false
set_option linter.unusedVariables false
set_option maxRecDepth 20000

theorem risesB_iff : ∀ E : List (Int × C), risesB E = true ↔ ∀ j, 0 < j → (h : j < E.length) → (E[j - 1]'(by omega)).1 < E[j].1
  | [] => by simp [risesB]
  | [x] => by
    simp only [risesB, true_iff]
    intro j h0 h1; simp at h1; omega
  | x :: y :: E => by
    have ih := risesB_iff (y :: E)
    simp only [risesB, Bool.and_eq_true, decide_eq_true_eq, ih]
    constructor
    · rintro ⟨h1, h2⟩ j h0 hj
      match j, h0 with
      | 1, _ => exact h1
      | j + 2, _ => have := h2 (j + 1) (by omega) (by simpa using hj); simpa using this
    · intro h
      refine ⟨h 1 (by omega) (by simp), fun j h0 hj => ?_⟩
      obtain ⟨i, rfl⟩ : ∃ i, j = i + 1 := ⟨j - 1, by omega⟩
      have := h (i + 2) (by omega) (by simpa using hj)
      simpa using this
theorem right1_any (x y : Ent) (w : World) : Calls Tryz.prog 182 #[.agg #[.int .i64 x.1, .int .i64 x.2.1.k, .slice x.2.2.1 x.2.1.d.length x.2.2.2], .agg #[.int .i64 y.1, .int .i64 y.2.1.k, .slice y.2.2.1 y.2.1.d.length y.2.2.2]] w
    fun e w' => e = .returned (.int .i64 (if x.1 ≤ y.1 then -1 else 1)) ∧ Below w.heap.size w w' := by
  by_cases h : x.1 ≤ y.1
  · rw [if_pos h]
    go_enter Tryz.func182, Tryz.ntmps182
    go_wp2
    go_ret
    exact ⟨rfl, by go_grown⟩
  · rw [if_neg h]
    go_enter Tryz.func182, Tryz.ntmps182
    go_wp2
    go_ret
    exact ⟨rfl, by go_grown⟩
set_option maxHeartbeats 1000000 in
theorem rises_any (E : List Ent) (a : Option Addr) (c : Nat) (W : World) (h : EL W a c E) :
    Calls Tryz.prog 181 #[.slice a E.length c, .func (.func 182) #[] #[]] W fun e w' => e = .returned (.bool (risesB (docE E))) ∧ Below W.heap.size W w' := by
  have HS := Lib.hid' h
  have hlen := h.len
  clear h
  go_enter Tryz.func181, Tryz.ntmps181
  go_wp2_with fail
  go_loopw [5] (fun v5 wr => ∃ k : Int, v5 = .int .i64 k ∧ -1 ≤ k ∧ k < E.length ∧ (∀ j, k < (j : Nat) → (hj : j < E.length) → 0 < j → (E[j - 1]'(by omega)).1 < E[j].1) ∧ Below W.heap.size W wr) (fun v5 _ => (intOf v5 + 1).toNat)
  case atStart => exact ⟨(E.length : Int) - 1, rfl, by omega, by omega, fun j h1 h2 _ => by omega, Below.refl _ _⟩
  case round =>
    obtain ⟨k, rfl, hk0, hk1, hok, hbw⟩ := hrel
    have HOK := Lib.hid' hok
    have HBW := Lib.hid' hbw
    clear hok hbw
    by_cases hpos : 0 < k
    rotate_left
    · have HF := Lib.hid' (show risesB (docE E) = true by
        rw [risesB_iff]
        intro j h0 hj
        have hj' : j < E.length := by simpa [docE] using hj
        have := HOK.out j (by omega) hj' h0
        simpa [docE, noAd] using this)
      go_wp2_with fail
      go_ret
      exact ⟨ret_eq (by rw [HF.out]; rfl), HBW.out⟩
    obtain ⟨n, rfl⟩ : ∃ n : Nat, k = (n : Int) + 1 := ⟨(k - 1).toNat, by omega⟩
    have hn : n + 1 < E.length := by omega
    have hn0 : n < E.length := by omega
    obtain ⟨hsl, hby⟩ := HS.out.below (Nat.le_refl _) HBW.out
    obtain ⟨b, off, hae, hb, hc⟩ := SlV.row (s := 3) (fun _ => rfl) (by decide) hsl hn
    obtain ⟨b', off', hae', _, hc'⟩ := SlV.row (s := 3) (fun _ => rfl) (by decide) hsl hn0
    subst hae
    simp only [Option.some.injEq, Addr.mk.injEq, and_true] at hae'
    obtain ⟨rfl, rfl⟩ := hae'
    have c0 := hc 0 _ rfl; have c1 := hc 1 _ rfl; have c2 := hc 2 _ rfl
    have e0 := hc' 0 _ rfl; have e1 := hc' 1 _ rfl; have e2 := hc' 2 _ rfl
    simp only [Nat.add_zero] at c0 e0
    have HX := Lib.hid' (show (E[n + 1 - 1]'(by omega)) = E[n] from rfl)
    clear hc hc' hsl hby
    generalize hx : E[n + 1] = x at *
    generalize hy : E[n] = y at *
    have HXE := Lib.hid' hx
    have HYE := Lib.hid' hy
    clear hx hy
    obtain ⟨xa, xc, xd, xn⟩ := x
    obtain ⟨ya, yc, yd, yn⟩ := y
    go_upto_region 4 with fail
    by_cases hle : xa ≤ ya
    · refine wp_region_held_drew (S := (fun w' => w'.cell? ⟨b, off + (n + 1) * 3, none⟩ = some (.int .i64 xa) ∧ w'.cell? ⟨b, off + (n + 1) * 3 + 1, none⟩ = some (.int .i64 xc.k) ∧ w'.cell? ⟨b, off + (n + 1) * 3 + 2, none⟩ = some (.slice xd xc.d.length xn) ∧ w'.cell? ⟨b, off + n * 3, none⟩ = some (.int .i64 ya) ∧ w'.cell? ⟨b, off + n * 3 + 1, none⟩ = some (.int .i64 yc.k) ∧ w'.cell? ⟨b, off + n * 3 + 2, none⟩ = some (.slice yd yc.d.length yn))) (by kernel_rfl) ⟨by simpa using c0, by simpa using c1, by simpa using c2, by simpa using e0, by simpa using e1, by simpa using e2⟩ (fun hH0 => ?_)
      refine wpAnyH_take (i := 0) (oi := _) (v := .func (.func 182) #[] #[]) rfl (by kernel_rfl) (by kernel_rfl) (by kernel_rfl) (fun _ _ _ h => h) (Or.inl ⟨by rfl, ?_⟩) hH0 ?_
      · intro w hSw; go_simp
      simp only [Act.put, List.getElem_toArray, List.getElem_cons_zero, List.getElem_cons_succ, List.setIfInBounds_toArray, List.set_cons_zero, List.set_cons_succ]
      refine wpAnyH_take (i := 1) (oi := _) (v := .slice (some ⟨b, off, none⟩) E.length c) rfl (by kernel_rfl) (by kernel_rfl) (by kernel_rfl) (fun _ _ _ h => h) (Or.inl ⟨by rfl, ?_⟩) hH0 ?_
      · intro w hSw; go_simp
      simp only [Act.put, List.getElem_toArray, List.getElem_cons_zero, List.getElem_cons_succ, List.setIfInBounds_toArray, List.set_cons_zero, List.set_cons_succ]
      refine wpAnyH_take (i := 2) (oi := _) (v := .int .i64 ((n : Int) + 1)) rfl (by kernel_rfl) (by kernel_rfl) (by kernel_rfl) (fun _ _ _ h => h) (Or.inl ⟨by rfl, ?_⟩) hH0 ?_
      · intro w hSw; go_simp
      simp only [Act.put, List.getElem_toArray, List.getElem_cons_zero, List.getElem_cons_succ, List.setIfInBounds_toArray, List.set_cons_zero, List.set_cons_succ]
      refine wpAnyH_take (i := 3) (oi := _) (v := .pointer (some ⟨b, off + (n + 1) * 3, none⟩)) rfl (by kernel_rfl) (by kernel_rfl) (by kernel_rfl) (fun _ _ _ h => h) (Or.inl ⟨by rfl, ?_⟩) hH0 ?_
      · intro w hSw; go_simp; (try (intro h; exfalso; omega))
      simp only [Act.put, List.getElem_toArray, List.getElem_cons_zero, List.getElem_cons_succ, List.setIfInBounds_toArray, List.set_cons_zero, List.set_cons_succ]
      refine wpAnyH_take (i := 4) (oi := _) (v := .agg #[.int .i64 xa, .int .i64 xc.k, .slice xd xc.d.length xn]) rfl (by kernel_rfl) (by kernel_rfl) (by kernel_rfl) (fun _ _ _ h => h) (Or.inl ⟨by rfl, ?_⟩) hH0 ?_
      · intro w hSw; go_simp
      simp only [Act.put, List.getElem_toArray, List.getElem_cons_zero, List.getElem_cons_succ, List.setIfInBounds_toArray, List.set_cons_zero, List.set_cons_succ]
      refine wpAnyH_take (i := 5) (oi := _) (v := .slice (some ⟨b, off, none⟩) E.length c) rfl (by kernel_rfl) (by kernel_rfl) (by kernel_rfl) (fun _ _ _ h => h) (Or.inl ⟨by rfl, ?_⟩) hH0 ?_
      · intro w hSw; go_simp
      simp only [Act.put, List.getElem_toArray, List.getElem_cons_zero, List.getElem_cons_succ, List.setIfInBounds_toArray, List.set_cons_zero, List.set_cons_succ]
      refine wpAnyH_take (i := 6) (oi := _) (v := .int .i64 ((n : Int) + 1)) rfl (by kernel_rfl) (by kernel_rfl) (by kernel_rfl) (fun _ _ _ h => h) (Or.inl ⟨by rfl, ?_⟩) hH0 ?_
      · intro w hSw; go_simp
      simp only [Act.put, List.getElem_toArray, List.getElem_cons_zero, List.getElem_cons_succ, List.setIfInBounds_toArray, List.set_cons_zero, List.set_cons_succ]
      refine wpAnyH_take (i := 7) (oi := _) (v := .int .i64 (n : Int)) rfl (by kernel_rfl) (by kernel_rfl) (by kernel_rfl) (fun _ _ _ h => h) (Or.inl ⟨by rfl, ?_⟩) hH0 ?_
      · intro w hSw; go_simp; first | exact IntWalk.i64_in _ (by omega) | exact IntWalk.i64_in _ (by omega) (by omega)
      simp only [Act.put, List.getElem_toArray, List.getElem_cons_zero, List.getElem_cons_succ, List.setIfInBounds_toArray, List.set_cons_zero, List.set_cons_succ]
      refine wpAnyH_take (i := 8) (oi := _) (v := .pointer (some ⟨b, off + n * 3, none⟩)) rfl (by kernel_rfl) (by kernel_rfl) (by kernel_rfl) (fun _ _ _ h => h) (Or.inl ⟨by rfl, ?_⟩) hH0 ?_
      · intro w hSw; go_simp
      simp only [Act.put, List.getElem_toArray, List.getElem_cons_zero, List.getElem_cons_succ, List.setIfInBounds_toArray, List.set_cons_zero, List.set_cons_succ]
      refine wpAnyH_take (i := 9) (oi := _) (v := .agg #[.int .i64 ya, .int .i64 yc.k, .slice yd yc.d.length yn]) rfl (by kernel_rfl) (by kernel_rfl) (by kernel_rfl) (fun _ _ _ h => h) (Or.inl ⟨by rfl, ?_⟩) hH0 ?_
      · intro w hSw; go_simp
      simp only [Act.put, List.getElem_toArray, List.getElem_cons_zero, List.getElem_cons_succ, List.setIfInBounds_toArray, List.set_cons_zero, List.set_cons_succ]
      refine wpAnyH_ready (rs := [10]) (by kernel_rfl) (by simp) (AllReadyH.cons (o := _) rfl (fun K hK => ?_) AllReadyH.nil)
      go_simp
      refine (right1_any (xa, xc, xd, xn) (ya, yc, yd, yn) _).mono ?_
      rintro en w5 ⟨rfl, hb5'⟩
      have hb5 : Below wr.heap.size wr w5 := (Below.drew (Below.refl _ _)).trans hb5'
      clear hb5'
      rw [if_pos hle]
      have HB5 := Lib.hid' hb5
      have d0 := (hb5.cell (p := ⟨b, off + (n + 1) * 3, none⟩) hb).trans c0
      have d1 := (hb5.cell (p := ⟨b, off + (n + 1) * 3 + 1, none⟩) hb).trans c1
      have d2 := (hb5.cell (p := ⟨b, off + (n + 1) * 3 + 2, none⟩) hb).trans c2
      have d3 := (hb5.cell (p := ⟨b, off + n * 3, none⟩) hb).trans e0
      have d4 := (hb5.cell (p := ⟨b, off + n * 3 + 1, none⟩) hb).trans e1
      have d5 := (hb5.cell (p := ⟨b, off + n * 3 + 2, none⟩) hb).trans e2
      refine hK.out _ _ ?_ (fun hH1 => ?_)
      · exact ⟨d0, d1, d2, d3, d4, d5⟩
      clear hK K
      refine wpAnyH_take (i := 11) (oi := _) (v := .bool true) rfl (by kernel_rfl) (by kernel_rfl) (by kernel_rfl) (fun _ _ _ h => h) (Or.inl ⟨by rfl, ?_⟩) hH1 ?_
      · intro w hSw; go_simp
      simp only [Act.put, List.getElem_toArray, List.getElem_cons_zero, List.getElem_cons_succ, List.setIfInBounds_toArray, List.set_cons_zero, List.set_cons_succ]
      refine wpAnyH_done (by kernel_rfl) ?_ _
      have HF := Lib.hid' (show risesB (docE E) = false by
        rw [Bool.eq_false_iff]; intro hr
        have h5 := (risesB_iff _).1 hr (n + 1) (by omega) (by simpa [docE] using hn)
        simp only [docE, List.getElem_map, noAd, Nat.add_sub_cancel, HXE.out, HYE.out] at h5
        omega)
      go_wp2_with fail
      go_ret
      exact ⟨ret_eq (by rw [HF.out]; rfl), HBW.out.trans (HB5.out.mono HBW.out.size)⟩
    · refine wp_region_held_drew (S := (fun w' => w'.cell? ⟨b, off + (n + 1) * 3, none⟩ = some (.int .i64 xa) ∧ w'.cell? ⟨b, off + (n + 1) * 3 + 1, none⟩ = some (.int .i64 xc.k) ∧ w'.cell? ⟨b, off + (n + 1) * 3 + 2, none⟩ = some (.slice xd xc.d.length xn) ∧ w'.cell? ⟨b, off + n * 3, none⟩ = some (.int .i64 ya) ∧ w'.cell? ⟨b, off + n * 3 + 1, none⟩ = some (.int .i64 yc.k) ∧ w'.cell? ⟨b, off + n * 3 + 2, none⟩ = some (.slice yd yc.d.length yn))) (by kernel_rfl) ⟨by simpa using c0, by simpa using c1, by simpa using c2, by simpa using e0, by simpa using e1, by simpa using e2⟩ (fun hH0 => ?_)
      refine wpAnyH_take (i := 0) (oi := _) (v := .func (.func 182) #[] #[]) rfl (by kernel_rfl) (by kernel_rfl) (by kernel_rfl) (fun _ _ _ h => h) (Or.inl ⟨by rfl, ?_⟩) hH0 ?_
      · intro w hSw; go_simp
      simp only [Act.put, List.getElem_toArray, List.getElem_cons_zero, List.getElem_cons_succ, List.setIfInBounds_toArray, List.set_cons_zero, List.set_cons_succ]
      refine wpAnyH_take (i := 1) (oi := _) (v := .slice (some ⟨b, off, none⟩) E.length c) rfl (by kernel_rfl) (by kernel_rfl) (by kernel_rfl) (fun _ _ _ h => h) (Or.inl ⟨by rfl, ?_⟩) hH0 ?_
      · intro w hSw; go_simp
      simp only [Act.put, List.getElem_toArray, List.getElem_cons_zero, List.getElem_cons_succ, List.setIfInBounds_toArray, List.set_cons_zero, List.set_cons_succ]
      refine wpAnyH_take (i := 2) (oi := _) (v := .int .i64 ((n : Int) + 1)) rfl (by kernel_rfl) (by kernel_rfl) (by kernel_rfl) (fun _ _ _ h => h) (Or.inl ⟨by rfl, ?_⟩) hH0 ?_
      · intro w hSw; go_simp
      simp only [Act.put, List.getElem_toArray, List.getElem_cons_zero, List.getElem_cons_succ, List.setIfInBounds_toArray, List.set_cons_zero, List.set_cons_succ]
      refine wpAnyH_take (i := 3) (oi := _) (v := .pointer (some ⟨b, off + (n + 1) * 3, none⟩)) rfl (by kernel_rfl) (by kernel_rfl) (by kernel_rfl) (fun _ _ _ h => h) (Or.inl ⟨by rfl, ?_⟩) hH0 ?_
      · intro w hSw; go_simp; (try (intro h; exfalso; omega))
      simp only [Act.put, List.getElem_toArray, List.getElem_cons_zero, List.getElem_cons_succ, List.setIfInBounds_toArray, List.set_cons_zero, List.set_cons_succ]
      refine wpAnyH_take (i := 4) (oi := _) (v := .agg #[.int .i64 xa, .int .i64 xc.k, .slice xd xc.d.length xn]) rfl (by kernel_rfl) (by kernel_rfl) (by kernel_rfl) (fun _ _ _ h => h) (Or.inl ⟨by rfl, ?_⟩) hH0 ?_
      · intro w hSw; go_simp
      simp only [Act.put, List.getElem_toArray, List.getElem_cons_zero, List.getElem_cons_succ, List.setIfInBounds_toArray, List.set_cons_zero, List.set_cons_succ]
      refine wpAnyH_take (i := 5) (oi := _) (v := .slice (some ⟨b, off, none⟩) E.length c) rfl (by kernel_rfl) (by kernel_rfl) (by kernel_rfl) (fun _ _ _ h => h) (Or.inl ⟨by rfl, ?_⟩) hH0 ?_
      · intro w hSw; go_simp
      simp only [Act.put, List.getElem_toArray, List.getElem_cons_zero, List.getElem_cons_succ, List.setIfInBounds_toArray, List.set_cons_zero, List.set_cons_succ]
      refine wpAnyH_take (i := 6) (oi := _) (v := .int .i64 ((n : Int) + 1)) rfl (by kernel_rfl) (by kernel_rfl) (by kernel_rfl) (fun _ _ _ h => h) (Or.inl ⟨by rfl, ?_⟩) hH0 ?_
      · intro w hSw; go_simp
      simp only [Act.put, List.getElem_toArray, List.getElem_cons_zero, List.getElem_cons_succ, List.setIfInBounds_toArray, List.set_cons_zero, List.set_cons_succ]
      refine wpAnyH_take (i := 7) (oi := _) (v := .int .i64 (n : Int)) rfl (by kernel_rfl) (by kernel_rfl) (by kernel_rfl) (fun _ _ _ h => h) (Or.inl ⟨by rfl, ?_⟩) hH0 ?_
      · intro w hSw; go_simp; first | exact IntWalk.i64_in _ (by omega) | exact IntWalk.i64_in _ (by omega) (by omega)
      simp only [Act.put, List.getElem_toArray, List.getElem_cons_zero, List.getElem_cons_succ, List.setIfInBounds_toArray, List.set_cons_zero, List.set_cons_succ]
      refine wpAnyH_take (i := 8) (oi := _) (v := .pointer (some ⟨b, off + n * 3, none⟩)) rfl (by kernel_rfl) (by kernel_rfl) (by kernel_rfl) (fun _ _ _ h => h) (Or.inl ⟨by rfl, ?_⟩) hH0 ?_
      · intro w hSw; go_simp
      simp only [Act.put, List.getElem_toArray, List.getElem_cons_zero, List.getElem_cons_succ, List.setIfInBounds_toArray, List.set_cons_zero, List.set_cons_succ]
      refine wpAnyH_take (i := 9) (oi := _) (v := .agg #[.int .i64 ya, .int .i64 yc.k, .slice yd yc.d.length yn]) rfl (by kernel_rfl) (by kernel_rfl) (by kernel_rfl) (fun _ _ _ h => h) (Or.inl ⟨by rfl, ?_⟩) hH0 ?_
      · intro w hSw; go_simp
      simp only [Act.put, List.getElem_toArray, List.getElem_cons_zero, List.getElem_cons_succ, List.setIfInBounds_toArray, List.set_cons_zero, List.set_cons_succ]
      refine wpAnyH_ready (rs := [10]) (by kernel_rfl) (by simp) (AllReadyH.cons (o := _) rfl (fun K hK => ?_) AllReadyH.nil)
      go_simp
      refine (right1_any (xa, xc, xd, xn) (ya, yc, yd, yn) _).mono ?_
      rintro en w5 ⟨rfl, hb5'⟩
      have hb5 : Below wr.heap.size wr w5 := (Below.drew (Below.refl _ _)).trans hb5'
      clear hb5'
      rw [if_neg hle]
      have HB5 := Lib.hid' hb5
      have d0 := (hb5.cell (p := ⟨b, off + (n + 1) * 3, none⟩) hb).trans c0
      have d1 := (hb5.cell (p := ⟨b, off + (n + 1) * 3 + 1, none⟩) hb).trans c1
      have d2 := (hb5.cell (p := ⟨b, off + (n + 1) * 3 + 2, none⟩) hb).trans c2
      have d3 := (hb5.cell (p := ⟨b, off + n * 3, none⟩) hb).trans e0
      have d4 := (hb5.cell (p := ⟨b, off + n * 3 + 1, none⟩) hb).trans e1
      have d5 := (hb5.cell (p := ⟨b, off + n * 3 + 2, none⟩) hb).trans e2
      refine hK.out _ _ ?_ (fun hH1 => ?_)
      · exact ⟨d0, d1, d2, d3, d4, d5⟩
      clear hK K
      refine wpAnyH_take (i := 11) (oi := _) (v := .bool false) rfl (by kernel_rfl) (by kernel_rfl) (by kernel_rfl) (fun _ _ _ h => h) (Or.inl ⟨by rfl, ?_⟩) hH1 ?_
      · intro w hSw; go_simp
      simp only [Act.put, List.getElem_toArray, List.getElem_cons_zero, List.getElem_cons_succ, List.setIfInBounds_toArray, List.set_cons_zero, List.set_cons_succ]
      refine wpAnyH_done (by kernel_rfl) ?_ _
      go_wp2_with fail
      go_roundw
      case rel =>
        refine ⟨(n : Int), by go_num, by omega, by omega, fun j h1 h2 h3 => ?_, HBW.out.trans (HB5.out.mono HBW.out.size)⟩
        by_cases hj : j = n + 1
        · subst hj
          have h6 := HXE.out; have h7 := HYE.out
          rw [h6, show (E[n + 1 - 1]'(by omega)) = (ya, yc, yd, yn) from h7]
          show ya < xa
          omega
        · exact HOK.out j (by omega) h2 h3
      case measure => simp [intOf]; omega

end Go.Proofs.YtkhnbdbcaebdaaaGreatDoor

namespace Go.Proofs.YtkhnbdbcaebdaaaGreatDoor
open Go.RowKit
set_option linter.unusedSimpArgs false
set_option linter.unusedVariables false
set_option maxRecDepth 20000

theorem firstBad_take {L : List (Int × C)} {k : Nat} (hk : k < L.length) (h : firstBad (L.take k) = 0) : firstBad (L.take (k + 1)) = L[k].2.check ∧ (L[k].2.check ≠ 0 → firstBad L = L[k].2.check) := by
  induction L generalizing k with
  | nil => simp at hk
  | cons q L ih =>
    cases k with
    | zero =>
      refine ⟨?_, fun h0 => ?_⟩
      · simp only [List.take_succ_cons, List.take_zero, firstBad, List.getElem_cons_zero]
        split <;> simp_all
      · simp only [List.getElem_cons_zero] at h0 ⊢
        unfold firstBad; rw [if_pos h0]
    | succ k =>
      simp only [List.take_succ_cons, firstBad] at h
      split at h
      · rename_i h1; exact absurd h h1
      · rename_i h1
        obtain ⟨i1, i2⟩ := ih (by simpa using hk) h
        refine ⟨?_, fun h0 => ?_⟩
        · simp only [List.take_succ_cons, firstBad, if_neg h1, List.getElem_cons_succ]; exact i1
        · simp only [List.getElem_cons_succ] at h0 ⊢
          unfold firstBad; rw [if_neg h1]; exact i2 h0
theorem docE_get (E : List Ent) (k : Nat) (hk : k < E.length) : (docE E)[k]'(by simpa [docE] using hk) = (E[k].1, E[k].2.1) := by simp [docE, noAd]
theorem docE_len (E : List Ent) : (docE E).length = E.length := by simp [docE]
set_option maxHeartbeats 2000000 in
theorem right_any (E : List Ent) (a : Option Addr) (c : Nat) (W : World) (h : EL W a c E) :
    Calls Tryz.prog 143 #[.slice a E.length c] W fun e w' => e = .returned (errV (rightErr (docE E))) ∧ Below W.heap.size W w' := by
  have HS := Lib.hid' h
  have hlen := h.len
  clear h
  go_enter Tryz.func143, Tryz.ntmps143
  go_wp2_with fail
  go_loopw [11] (fun v11 wr => ∃ k : Nat, v11 = .int .i64 k ∧ k ≤ E.length ∧ firstBad ((docE E).take k) = 0 ∧ Below W.heap.size W wr) (fun v11 _ => E.length - (intOf v11).toNat)
  case atStart => exact ⟨0, rfl, Nat.zero_le _, by simp [firstBad], Below.refl _ _⟩
  case round =>
    obtain ⟨k, rfl, hk, hno, hbw⟩ := hrel
    have HNO := Lib.hid' hno
    have HBW := Lib.hid' hbw
    clear hno hbw
    by_cases hlt : k < E.length
    · obtain ⟨hsl, hby⟩ := HS.out.below (Nat.le_refl _) HBW.out
      obtain ⟨b, off, rfl, hb, hc⟩ := SlV.row (s := 3) (fun _ => rfl) (by decide) hsl hlt
      have c0 := hc 0 _ rfl; have c1 := hc 1 _ rfl; have c2 := hc 2 _ rfl
      simp only [Nat.add_zero] at c0
      have hFB := firstBad_take (L := docE E) (k := k) (by rw [docE_len]; exact hlt) HNO.out
      rw [docE_get E k hlt] at hFB
      have HFB := Lib.hid' hFB
      have HY := Lib.hid' (hby _ (List.getElem_mem hlt))
      clear hc hsl hby hFB
      generalize E[k] = x at *
      obtain ⟨xa, xc, xd, xn⟩ := x
      simp only at HFB HY
      go_wp2_with fail
      have hg : Below wr.heap.size wr (wr.alloc (.cells #[.int .i64 xa, .int .i64 xc.k, .slice xd xc.d.length xn] 121)) := by go_grown
      refine (check_any _ xc _ ⟨xd, xn, rfl, SlV.below HY.out (Nat.le_refl _) hg⟩).mono ?_
      rintro en w5 ⟨rfl, hb5⟩
      have HB5 := Lib.hid' (HBW.out.trans ((hg.trans (hb5.mono hg.size)).mono HBW.out.size))
      clear hb5 hg
      by_cases hq : xc.check = 0
      · have HT := Lib.hid' (show firstBad ((docE E).take (k + 1)) = 0 from HFB.out.1.trans hq)
        rw [hq, errV_0]
        clear hq
        go_wp2_with fail
        go_roundw
        case rel => exact ⟨k + 1, by go_num, by omega, HT.out, HB5.out⟩
        case measure => simp [intOf]; omega
      · have HF := Lib.hid' (show rightErr (docE E) = xc.check by
          have h1 := HFB.out.2 hq
          unfold rightErr; rw [h1, if_pos hq])
        have HQ := Lib.hid' hq
        rw [errV_pos hq]
        clear hq
        go_wp2_with fail
        go_ret
        exact ⟨ret_eq (by rw [HF.out, errV_pos HQ.out]; rfl), HB5.out⟩
    · have HFB := Lib.hid' (show firstBad (docE E) = 0 by have := HNO.out; rwa [List.take_of_length_le (by rw [docE_len]; omega)] at this)
      go_wp2_with fail
      have HB0 := HBW
      obtain ⟨wo, rfl⟩ : ∃ wo : World, wo = wr := ⟨_, rfl⟩
      go_loopw [24] (fun v24 wr => ∃ k : Nat, v24 = .int .i64 k ∧ k ≤ E.length ∧ (E.take k).any (fun x => noneE (noAd x)) = false ∧ Below W.heap.size W wr) (fun v24 _ => E.length - (intOf v24).toNat)
      case atStart => exact ⟨0, rfl, Nat.zero_le _, by simp, HB0.out⟩
      case round =>
        obtain ⟨j, rfl, hj, hno2, hbw2⟩ := hrel
        have HN2 := Lib.hid' hno2
        have HBW2 := Lib.hid' hbw2
        clear hno2 hbw2
        have hAny : E.any (fun x => noneE (noAd x)) = (docE E).any noneE := by simp [docE, List.any_map, Function.comp_def]
        have HANY := Lib.hid' hAny
        clear hAny
        by_cases hltj : j < E.length
        · obtain ⟨hsl, hby⟩ := HS.out.below (Nat.le_refl _) HBW2.out
          obtain ⟨b, off, rfl, hb, hc⟩ := SlV.row (s := 3) (fun _ => rfl) (by decide) hsl hltj
          have c0 := hc 0 _ rfl; have c1 := hc 1 _ rfl; have c2 := hc 2 _ rfl
          simp only [Nat.add_zero] at c0
          have HTK := Lib.hid' (take_any (fun x => noneE (noAd x)) E j hltj)
          have HMEM := Lib.hid' (List.getElem_mem hltj)
          clear hc hsl hby
          generalize E[j] = x at *
          obtain ⟨xa, xc, xd, xn⟩ := x
          by_cases hq : xc.k = 0 ∨ xc.k = 3
          · have HF := Lib.hid' (show rightErr (docE E) = 2 by
              unfold rightErr
              rw [HFB.out, if_neg (by decide), if_pos]
              rw [← HANY.out, List.any_eq_true]
              exact ⟨_, HMEM.out, by simp only [noneE, noAd, Bool.or_eq_true, beq_iff_eq]; exact hq⟩)
            have hq2 : (xc.k == 0) = true ∨ ((xc.k == 0) = false ∧ (xc.k == 3) = true) := by
              by_cases h0 : xc.k = 0
              · left; simp [h0]
              · right; exact ⟨by simpa using h0, by rcases hq with h | h; exact absurd h h0; simp [h]⟩
            clear hq
            rcases hq2 with hq | ⟨hq1, hq⟩
            all_goals
              go_wp2_with fail
              go_ret
              exact ⟨ret_eq (by rw [HF.out]; rfl), HBW2.out.trans ((show Below wr.heap.size wr _ by go_grown).mono HBW2.out.size)⟩
          · have HT := Lib.hid' (show (E.take (j + 1)).any (fun x => noneE (noAd x)) = false by
              rw [HTK.out, HN2.out]; show (false || (xc.k == 0 || xc.k == 3)) = false
              rw [Bool.false_or, Bool.or_eq_false_iff, beq_eq_false_iff_ne, beq_eq_false_iff_ne]; omega)
            have q1 : (xc.k == 0) = false := by rw [beq_eq_false_iff_ne]; omega
            have q2 : (xc.k == 3) = false := by rw [beq_eq_false_iff_ne]; omega
            clear hq HTK
            go_wp2_with fail
            go_roundw
            case rel => exact ⟨j + 1, by go_num, by omega, HT.out, HBW2.out.trans ((show Below wr.heap.size wr _ by go_grown).mono HBW2.out.size)⟩
            case measure => simp [intOf]; omega
        · have HNN := Lib.hid' (show (docE E).any noneE = false by
            have := HN2.out; rw [List.take_of_length_le (by omega)] at this; rw [← HANY.out]; exact this)
          go_wp2_with fail
          refine (rises_any E a c _ (HS.out.below (Nat.le_refl _) HBW2.out)).mono ?_
          rintro en w5 ⟨rfl, hb5⟩
          have HB5 := Lib.hid' (HBW2.out.trans (hb5.mono HBW2.out.size))
          clear hb5
          cases hr : risesB (docE E)
          · have HF := Lib.hid' (show rightErr (docE E) = 13 by unfold rightErr; rw [HFB.out, if_neg (by decide), HNN.out, if_neg (by decide), hr, if_neg (by decide)])
            clear hr
            go_wp2_with fail
            go_ret
            exact ⟨ret_eq (by rw [HF.out]; rfl), HB5.out⟩
          · have HF := Lib.hid' (show rightErr (docE E) = 0 by unfold rightErr; rw [HFB.out, if_neg (by decide), HNN.out, if_neg (by decide), hr, if_pos rfl])
            clear hr
            go_wp2_with fail
            go_ret
            exact ⟨ret_eq (by rw [HF.out]; rfl), HB5.out⟩
theorem withinN_doc (l : Int) (E : List Ent) : withinN l E = if (docE E).any (outE l) = true then 1 else 0 := by
  unfold withinN docE
  rw [List.any_map]; rfl
def OfR (e l : Int) (E : List Ent) (W : World) (en : Ending) (w' : World) : Prop :=
  ∃ bu bm, en = .returned (.tuple #[.pointer (some ⟨bu, 0, none⟩), .nilIface]) ∧ W.heap.size ≤ bu ∧ W.heap.size ≤ bm ∧ UnitAt (fun k => k = bu ∨ k = bm ∨ k < W.heap.size) w' bu bm ⟨e, l, docE E⟩ ∧ Below W.heap.size W w'
theorem ok_take {e l : Int} {L : List (Int × C)} (h : U.ok ⟨e, l, L⟩) (k : Nat) : U.ok ⟨e, l, L.take k⟩ :=
  ⟨h.e0, h.e1, h.l0, h.l1, fun p hp => h.addr p (List.mem_of_mem_take hp), fun p hp => h.kind p (List.mem_of_mem_take hp), h.nodup.sublist ((List.take_sublist _ _).map _)⟩
set_option maxHeartbeats 4000000 in
theorem of_good (e l : Int) (E : List Ent) (a : Option Addr) (c : Nat) (W : World) (h : EL W a c E) (hgood : ofErr e l (docE E) = 0) :
    Calls Tryz.prog 105 #[.int .i64 e, .int .i64 l, .slice a E.length c] W (OfR e l E W) := by
  have HS := Lib.hid' h
  have HOK := Lib.hid' (of_ok hgood)
  have hlen := h.len
  have hg0 := hgood
  unfold ofErr at hg0
  split at hg0; · cases hg0
  rename_i g1
  split at hg0; · cases hg0
  rename_i g2
  have h1 : inR e 1099511627776 = true := by simp [inR]; omega
  have h2 : inR l 1048576 = true := by simp [inR]; omega
  have HR0 := Lib.hid' hg0
  clear h hgood g1 hg0
  go_enter Tryz.func105, Tryz.ntmps105
  go_wp2_with (go_at_call 78; refine (in_any _ _ _).mono ?_; rintro en w' ⟨rfl, rfl⟩; first | rw [h1] | rw [h2])
  refine (within_any l E a c _ HS.out).mono ?_
  rintro en w1 ⟨rfl, hb1⟩
  have HB1 := Lib.hid' hb1
  rw [show errV (withinN l E) = .nilIface from by rw [withinN_doc, if_neg g2]; rfl]
  clear hb1 g2 h1 h2
  go_wp2_with fail
  refine (right_any E a c _ (HS.out.below (Nat.le_refl _) HB1.out)).mono ?_
  rintro en w2 ⟨rfl, hb2⟩
  have HB2 := Lib.hid' (HB1.out.trans (hb2.mono HB1.out.size))
  rw [HR0.out, errV_0]
  clear hb2 HB1
  go_wp2_with fail
  refine (new_any _).mono ?_
  rintro en w3 ⟨rfl, hb3, hz3, hu3⟩
  have HU3 := Lib.hid' (hu3 (fun k => k = w2.heap.size + 1 ∨ k = w2.heap.size ∨ k < W.heap.size) (.inr (.inl rfl)) (.inl rfl))
  have HB3 := Lib.hid' (HB2.out.trans (hb3.mono HB2.out.size))
  have HN := Lib.hid' HB2.out.size
  obtain ⟨q0, q1, q2⟩ := HU3.out.cell
  have qf0 := HU3.out.free 0; have qf1 := HU3.out.free 1
  have ql := HU3.out.lt.1
  clear hb3 hz3 hu3 HB2
  go_wp2_with fail
  have HU4 := Lib.hid' (show UnitAt (fun k => k = w2.heap.size + 1 ∨ k = w2.heap.size ∨ k < W.heap.size) ((w3.setCell ⟨w2.heap.size + 1, 0, none⟩ (.int .i64 e)).setCell ⟨w2.heap.size + 1, 1, none⟩ (.int .i64 l)) (w2.heap.size + 1) w2.heap.size ⟨e, l, (docE E).take 0⟩ from by
    have hk := ok_take HOK.out.1 0
    have h1 := HU3.out.set0 (e := e) ⟨hk.e0, hk.e1, by show (0 : Int) ≤ 0; decide, by show (0 : Int) ≤ 1048576; decide, by simp [U.new], by simp [U.new], by simp [U.new]⟩
    exact h1.set1 (l := l) hk)
  have HB4 := Lib.hid' (show Below W.heap.size W ((w3.setCell ⟨w2.heap.size + 1, 0, none⟩ (.int .i64 e)).setCell ⟨w2.heap.size + 1, 1, none⟩ (.int .i64 l)) from (HB3.out.setCell (p := ⟨w2.heap.size + 1, 0, none⟩) (by have := HN.out; show W.heap.size ≤ w2.heap.size + 1; omega) _).setCell (p := ⟨w2.heap.size + 1, 1, none⟩) (by have := HN.out; show W.heap.size ≤ w2.heap.size + 1; omega) _)
  generalize ((w3.setCell ⟨w2.heap.size + 1, 0, none⟩ (.int .i64 e)).setCell ⟨w2.heap.size + 1, 1, none⟩ (.int .i64 l)) = w4 at *
  clear q0 q1 q2 qf0 qf1 ql HU3 HB3
  generalize w2.heap.size = bm at *
  go_loopw [44] (fun v44 wr => ∃ k : Nat, v44 = .int .i64 k ∧ k ≤ E.length ∧ UnitAt (fun q => q = bm + 1 ∨ q = bm ∨ q < W.heap.size) wr (bm + 1) bm ⟨e, l, (docE E).take k⟩ ∧ Below W.heap.size W wr) (fun v44 _ => E.length - (intOf v44).toNat)
  case atStart => exact ⟨0, rfl, Nat.zero_le _, HU4.out, HB4.out⟩
  case round =>
    obtain ⟨k, rfl, hk, hu, hbw⟩ := hrel
    have HU := Lib.hid' hu
    have HBW := Lib.hid' hbw
    clear hu hbw HU4 HB4
    by_cases hlt : k < E.length
    rotate_left
    · have HUE := Lib.hid' (show UnitAt (fun q => q = bm + 1 ∨ q = bm ∨ q < W.heap.size) wr (bm + 1) bm ⟨e, l, docE E⟩ by have := HU.out; rwa [List.take_of_length_le (by rw [docE_len]; omega)] at this)
      go_wp2_with fail
      go_ret2
      have := HN.out
      exact ⟨bm + 1, bm, rfl, by omega, HN.out, HUE.out, HBW.out⟩
    obtain ⟨hsl, hby⟩ := HS.out.below (Nat.le_refl _) HBW.out
    obtain ⟨b, off, rfl, hb, hc⟩ := SlV.row (s := 3) (fun _ => rfl) (by decide) hsl hlt
    have c0 := hc 0 _ rfl; have c1 := hc 1 _ rfl; have c2 := hc 2 _ rfl
    simp only [Nat.add_zero] at c0
    have HST := Lib.hid' (of_step HOK.out.2 (k := k) (by rw [docE_len]; exact hlt))
    rw [docE_get E k hlt] at HST
    have HKD := Lib.hid' (HOK.out.1.kind _ (List.getElem_mem (l := docE E) (n := k) (by rw [docE_len]; exact hlt)))
    rw [docE_get E k hlt] at HKD
    have HY := Lib.hid' (hby _ (List.getElem_mem hlt))
    clear hc hsl hby
    generalize E[k] = x at *
    obtain ⟨xa, xc, xd, xn⟩ := x
    simp only at HST HKD HY
    go_upto_region 14 with fail
    have HG := Lib.hid' (show Below wr.heap.size wr (wr.alloc (.cells #[.int .i64 xa, .int .i64 xc.k, .slice xd xc.d.length xn] 121)) by go_grown)
    have HX := Lib.hid' (show BoxW wr.heap.size [.int .i64 xa, .int .i64 xc.k, .slice xd xc.d.length xn] 121 (wr.alloc (.cells #[.int .i64 xa, .int .i64 xc.k, .slice xd xc.d.length xn] 121)) from BoxW.start wr [.int .i64 xa, .int .i64 xc.k, .slice xd xc.d.length xn] 121)
    generalize wr.alloc (.cells #[.int .i64 xa, .int .i64 xc.k, .slice xd xc.d.length xn] 121) = wy at *
    clear c0 c1 c2 hb
    have HUy := Lib.hid' (HU.out.below (Nat.le_refl _) HG.out)
    have x0 := HX.out.box.1 0 _ rfl; have x1 := HX.out.box.1 1 _ rfl; have x2 := HX.out.box.1 2 _ rfl
    have m2 := HUy.out.cell.2.2
    have hxl := HX.out.lt
    have hul := HUy.out.lt.1
    have HLT := Lib.hid' HU.out.lt
    refine wp_region_held_drew (S := (fun w' => w'.cell? ⟨bm + 1, 2, none⟩ = some (.map (some bm)) ∧ w'.cell? ⟨wr.heap.size, 0, none⟩ = some (.int .i64 xa) ∧ w'.cell? ⟨wr.heap.size, 1, none⟩ = some (.int .i64 xc.k) ∧ w'.cell? ⟨wr.heap.size, 2, none⟩ = some (.slice xd xc.d.length xn))) (by kernel_rfl) ⟨by simpa using m2, by simpa using x0, by simpa using x1, by simpa using x2⟩ (fun hH0 => ?_)
    refine wpAnyH_take (i := 0) (oi := _) (v := .pointer (some ⟨bm + 1, 0, none⟩)) rfl (by kernel_rfl) (by kernel_rfl) (by kernel_rfl) (fun _ _ _ h => h) (Or.inl ⟨by rfl, ?_⟩) hH0 ?_
    · intro w hSw; go_simp
    simp only [Act.put, List.getElem_toArray, List.getElem_cons_zero, List.getElem_cons_succ, List.setIfInBounds_toArray, List.set_cons_zero, List.set_cons_succ]
    refine wpAnyH_take (i := 1) (oi := _) (v := .pointer (some ⟨bm + 1, 0, none⟩)) rfl (by kernel_rfl) (by kernel_rfl) (by kernel_rfl) (fun _ _ _ h => h) (Or.inl ⟨by rfl, ?_⟩) hH0 ?_
    · intro w hSw; go_simp
    simp only [Act.put, List.getElem_toArray, List.getElem_cons_zero, List.getElem_cons_succ, List.setIfInBounds_toArray, List.set_cons_zero, List.set_cons_succ]
    refine wpAnyH_take (i := 2) (oi := _) (v := .pointer (some ⟨bm + 1, 2, none⟩)) rfl (by kernel_rfl) (by kernel_rfl) (by kernel_rfl) (fun _ _ _ h => h) (Or.inl ⟨by rfl, ?_⟩) hH0 ?_
    · intro w hSw; go_simp
    simp only [Act.put, List.getElem_toArray, List.getElem_cons_zero, List.getElem_cons_succ, List.setIfInBounds_toArray, List.set_cons_zero, List.set_cons_succ]
    refine wpAnyH_take (i := 3) (oi := _) (v := .map (some bm)) rfl (by kernel_rfl) (by kernel_rfl) (by kernel_rfl) (fun _ _ _ h => h) (Or.inl ⟨by rfl, ?_⟩) hH0 ?_
    · intro w hSw; go_simp
    simp only [Act.put, List.getElem_toArray, List.getElem_cons_zero, List.getElem_cons_succ, List.setIfInBounds_toArray, List.set_cons_zero, List.set_cons_succ]
    refine wpAnyH_take (i := 4) (oi := _) (v := .pointer (some ⟨wr.heap.size, 0, none⟩)) rfl (by kernel_rfl) (by kernel_rfl) (by kernel_rfl) (fun _ _ _ h => h) (Or.inl ⟨by rfl, ?_⟩) hH0 ?_
    · intro w hSw; go_simp
    simp only [Act.put, List.getElem_toArray, List.getElem_cons_zero, List.getElem_cons_succ, List.setIfInBounds_toArray, List.set_cons_zero, List.set_cons_succ]
    refine wpAnyH_take (i := 5) (oi := _) (v := .int .i64 xa) rfl (by kernel_rfl) (by kernel_rfl) (by kernel_rfl) (fun _ _ _ h => h) (Or.inl ⟨by rfl, ?_⟩) hH0 ?_
    · intro w hSw; go_simp
    simp only [Act.put, List.getElem_toArray, List.getElem_cons_zero, List.getElem_cons_succ, List.setIfInBounds_toArray, List.set_cons_zero, List.set_cons_succ]
    refine wpAnyH_take (i := 6) (oi := _) (v := .pointer (some ⟨wr.heap.size, 1, none⟩)) rfl (by kernel_rfl) (by kernel_rfl) (by kernel_rfl) (fun _ _ _ h => h) (Or.inl ⟨by rfl, ?_⟩) hH0 ?_
    · intro w hSw; go_simp
    simp only [Act.put, List.getElem_toArray, List.getElem_cons_zero, List.getElem_cons_succ, List.setIfInBounds_toArray, List.set_cons_zero, List.set_cons_succ]
    refine wpAnyH_take (i := 7) (oi := _) (v := .agg #[.int .i64 xc.k, .slice xd xc.d.length xn]) rfl (by kernel_rfl) (by kernel_rfl) (by kernel_rfl) (fun _ _ _ h => h) (Or.inl ⟨by rfl, ?_⟩) hH0 ?_
    · intro w hSw; go_simp
    simp only [Act.put, List.getElem_toArray, List.getElem_cons_zero, List.getElem_cons_succ, List.setIfInBounds_toArray, List.set_cons_zero, List.set_cons_succ]
    refine wpAnyH_ready (rs := [8]) (by kernel_rfl) (by simp) (AllReadyH.cons (o := _) rfl (fun K hK => ?_) AllReadyH.nil)
    go_simp
    refine (copy_any _ xc _ ⟨xd, xn, rfl, SlV.below (SlV.below HY.out (Nat.le_refl _) HG.out) (Nat.le_refl _) (by go_grown)⟩ (by have := HKD.out.2; omega)).mono ?_
    rintro en w6 ⟨a6, cp6, rfl, ho6, hb6'⟩
    have HO6 := Lib.hid' (show w6.ownsRow wy.heap.size 5 1 (.slice a6 xc.d.length cp6) xc.d.length (byteVs xc.d) from ho6)
    have hb6 : Below wy.heap.size wy w6 := (Below.drew (Below.refl _ _)).trans hb6'
    have HB6 := Lib.hid' hb6
    have HU6 := Lib.hid' (HUy.out.below (Nat.le_refl _) hb6)
    have z2 := (hb6.cell (p := ⟨bm + 1, 2, none⟩) hul).trans m2; have z3 := (hb6.cell (p := ⟨wr.heap.size, 0, none⟩) hxl).trans x0; have z4 := (hb6.cell (p := ⟨wr.heap.size, 1, none⟩) hxl).trans x1; have z5 := (hb6.cell (p := ⟨wr.heap.size, 2, none⟩) hxl).trans x2
    obtain ⟨L, hm, hL⟩ := HU6.out.map
    obtain ⟨ob, hrun, hm7⟩ := run_store mtCells hm xa (.agg #[.int .i64 xc.k, .slice a6 xc.d.length cp6])
    have HL := Lib.hid' hL
    have HM7 := Lib.hid' hm7
    have hne1 : ¬ bm + 1 = bm := by omega
    have hne2 : ¬ wr.heap.size = bm := by have := HLT.out.2; omega
    clear ho6 hb6' hb6 hL hm7
    refine hK.out _ _ ?_ (fun hH1 => ?_)
    · exact ⟨z2, z3, z4, z5⟩
    clear hK K
    refine wpAnyH_ready (rs := [9]) (by kernel_rfl) (by simp) (AllReadyH.cons (o := _) rfl (fun K hK => ?_) AllReadyH.nil)
    go_simp
    refine hK.out _ _ ?_ (fun hH2 => ?_)
    · exact ⟨(setBlk_fr _ _ _).cell z2 hne1, (setBlk_fr _ _ _).cell z3 hne2, (setBlk_fr _ _ _).cell z4 hne2, (setBlk_fr _ _ _).cell z5 hne2⟩
    clear hK K
    refine wpAnyH_done (by kernel_rfl) ?_ _
    have HF7 := Lib.hid' (show Fr (· = bm) w6 (setBlk w6 bm ob) from setBlk_fr _ _ _)
    have HBLK := Lib.hid' ((HF7.out.block (bm + 1) HU6.out.lt.1 hne1).trans HU6.out.blk)
    clear hrun hm
    generalize setBlk w6 bm ob = w7 at *
    go_wp2_with fail
    go_roundw
    case rel =>
      have hroom := HUy.out.lt
      have hcells := CellsAt.put (A := fun q => q = bm + 1 ∨ q = bm ∨ q < W.heap.size) (F := fun q => q = bm) (w := wy) (fun q hq => by rcases hq with rfl | rfl | hq; exact hroom.1; exact hroom.2; exact Nat.lt_of_lt_of_le hq (Nat.le_trans HBW.out.size HG.out.size)) HL.out HM7.out HF7.out (fun q hq => .inr (.inl hq)) (SlV.of_own HO6.out) (fun y hy => by have := own_in HO6.out y _ _ (by rw [hy]); simpa using this)
      rw [HST.out] at hcells
      refine ⟨k + 1, by go_num, by omega, ⟨HBLK.out, hcells, ok_take HOK.out.1 _, .inl rfl, .inr (.inl rfl)⟩, ?_⟩
      exact ((HBW.out.trans (HG.out.mono HBW.out.size)).trans (HB6.out.mono (Nat.le_trans HBW.out.size HG.out.size))).trans (HF7.out.below (Nat.le_trans (Nat.le_trans HBW.out.size HG.out.size) HB6.out.size) (fun q hq => by subst hq; exact HN.out))
    case measure => simp [intOf]; omega

end Go.Proofs.YtkhnbdbcaebdaaaGreatDoor
