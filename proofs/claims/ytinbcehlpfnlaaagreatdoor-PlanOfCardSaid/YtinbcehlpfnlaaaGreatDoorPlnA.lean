/- Layer 21 (plan): the plan of a chain up to an address. -/
import Derived.Test.YtinbcehlpfnlaaaGreatDoorChnF
import Derived.Deep.DeepCutAuto
import Derived.Deep.CutBlock
namespace Go.Proofs.YtinbcehlpfnlaaaGreatDoor
open Go.RowKit
set_option linter.unusedSimpArgs false
set_option linter.unusedVariables false
set_option maxRecDepth 100000

structure Pln where
  n : Int
  b : Int
  r : Int
  its : List It
def zeroPln : Pln := ⟨0, 0, 0, []⟩
def planOf (X : List MfP) (n : Int) : Nat × Pln :=
  if (chkM X).2 ≠ 0 then ((chkM X).2, zeroPln) else if X.length = 0 then (4, zeroPln) else if n < beginM X ∨ (lastM X).1.t < n then (1, zeroPln)
  else (0, ⟨n, beginM X, markAt X n, planItems n (markAt X n) X⟩)
def plV (n b mk : Int) (a : Option Addr) (l c : Nat) : List Value := [.int .i64 n, .int .i64 b, .int .i64 mk, .slice a l c]
def plZ : List Value := plV 0 0 0 none 0 0
def PlanR (q : Nat × Pln) (w : World) (en : Ending) (w' : World) : Prop :=
  ∃ a c, en = .returned (.tuple #[.agg (plV q.2.n q.2.b q.2.r a q.2.its.length c).toArray, errV q.1]) ∧ SlV w' (.slice a q.2.its.length c) q.2.its.length (q.2.its.flatMap itV) ∧ Below w.heap.size w w'
theorem etItems : ElemT Tryz.prog 25 56 4 32 := ElemT.mk' (z := .agg #[.int .i64 0, .int .i64 0, .int .i64 0, .int .i64 0]) Tryz.underlying25 (by kernel_rfl) rfl (by decide) (by decide)
theorem pl_size : (Tryz.prog.info? 27).map (·.size) = some 4 := by kernel_rfl
theorem it_size : (Tryz.prog.info? 56).map (·.size) = some 4 := by kernel_rfl
theorem good_each : ∀ {L A : List MfP}, Good A L → ∀ m ∈ L, m.1.check = 0
  | [], _, _, m, hm => by cases hm
  | x :: L, A, h, m, hm => by
    cases h with
    | cons hc hf h =>
      rcases List.mem_cons.1 hm with rfl | hm
      · exact hc
      · exact good_each h m hm
theorem partItem_len (n mk num : Int) (i : Nat) (p : Pt) : (partItem n mk num i p).length ≤ 1 := by unfold partItem; split <;> simp
theorem partItems_len (n mk num : Int) : ∀ (L : List Pt) (i : Nat), (partItems n mk num i L).length ≤ L.length
  | [], _ => Nat.le_refl _
  | p :: L, i => by
    have h1 := partItem_len n mk num i p
    have h2 := partItems_len n mk num L (i + 1)
    show (partItem n mk num i p ++ partItems n mk num (i + 1) L).length ≤ _
    rw [List.length_append, List.length_cons]; omega
theorem planItems_len (n mk : Int) : ∀ (X : List MfP), (∀ m ∈ X, m.1.check = 0) → (planItems n mk X).length ≤ 1024 * X.length
  | [], _ => Nat.le_refl _
  | x :: X, h => by
    have h1 := (mcheck_0 (h x List.mem_cons_self)).2.2.2.2.2.2.1
    have h2 := partItems_len n mk x.1.n x.1.ps 0
    have h3 := planItems_len n mk X (fun m hm => h m (List.mem_cons_of_mem _ hm))
    show (partItems n mk x.1.n 0 x.1.ps ++ planItems n mk X).length ≤ _
    rw [List.length_append, List.length_cons]; omega
theorem planItems_next {X : List MfP} {k : Nat} (hk : k < X.length) (n mk : Int) : planItems n mk (X.drop k) = partItems n mk X[k].1.n 0 (X[k].1.ps.drop 0) ++ planItems n mk (X.drop (k + 1)) := by
  rw [List.drop_eq_getElem_cons hk]; rfl
theorem partItems_next {l : List Pt} {j : Nat} (hj : j < l.length) (n mk num : Int) : partItems n mk num j (l.drop j) = partItem n mk num j l[j] ++ partItems n mk num (j + 1) (l.drop (j + 1)) := by
  rw [List.drop_eq_getElem_cons hj]; rfl
theorem part_in {m : Mf} (h : m.check = 0) : ∀ y ∈ m.ps, 0 ≤ y.f ∧ y.f ≤ 1048576 ∧ 1 ≤ y.m ∧ y.m ≤ 64 := by
  obtain ⟨_, b2, b3, _, _, _, _, b8⟩ := mcheck_0 h
  intro y hy
  have h1 := (pc_of_check b8).low b2.1 b3.2 y hy
  have h2 := parts_in b8 y hy
  omega
theorem itV_one' (l : List It) : ∀ u ∈ l.flatMap itV, u.oneCell' = true := by
  intro u hu
  obtain ⟨x, _, hx⟩ := List.mem_flatMap.1 hu
  simp only [itV, List.mem_cons, List.not_mem_nil, or_false] at hx
  rcases hx with rfl | rfl | rfl | rfl <;> rfl
set_option maxHeartbeats 16000000 in
theorem plan_any (X : List MfP) (a : Option Addr) (c : Nat) (n : Int) (w : World) (hX : MsAt w a c X) (hL : Laid w) (hxl : X.length ≤ 1048576) (hn : IR n) :
    Calls Tryz.prog 6 #[.slice a X.length c, .int .i64 n] w (PlanR (planOf X n) w) := by
  have HX := Lib.hid' hX
  have hzs : (Tryz.prog.info? 27).map (·.size) = some plZ.length := pl_size
  have HCK := Lib.hid' (fun w1 (H : Below w.heap.size w w1) => ccheck_any X a c w1 (hX.below (Nat.le_refl _) H) (hL.below (Nat.le_refl _) H))
  have HBG := Lib.hid' (fun w1 (H : Below w.heap.size w w1) => begin_any X a c w1 (hX.below (Nat.le_refl _) H))
  have HEN := Lib.hid' (fun w1 (H : Below w.heap.size w w1) => end_any X a c w1 (hX.below (Nat.le_refl _) H))
  have HMK := Lib.hid' (fun w1 (H : Below w.heap.size w w1) hex => pmark_any X a c n w1 (hX.below (Nat.le_refl _) H) hex)
  have HQ := Lib.hid' (show planOf X n = if (chkM X).2 ≠ 0 then ((chkM X).2, zeroPln) else if X.length = 0 then (4, zeroPln) else if n < beginM X ∨ (lastM X).1.t < n then (1, zeroPln) else (0, ⟨n, beginM X, markAt X n, planItems n (markAt X n) X⟩) from rfl)
  have HEX := Lib.hid' (show X.length ≠ 0 → n ≤ (lastM X).1.t → ∃ y ∈ X, n ≤ y.1.t from fun h h2 => by
    cases X with
    | nil => exact absurd rfl h
    | cons x L => exact ⟨_, lastM_mem x L, h2⟩)
  have HGE := Lib.hid' (fun (h : (chkM X).2 = 0) => good_each (good_of_chk (A := []) (L := X) h))
  clear hX hL
  generalize (chkM X).2 = ck at *
  generalize (chkM X).1 = cp at *
  generalize beginM X = bg at *
  generalize (lastM X).1.t = en' at *
  go_enter Tryz.func6, Tryz.ntmps6
  go_upto_region 1 with fail
  have H0 : Sep w NoF [.box w.heap.size plZ 27] (w.alloc (.cells plZ.toArray 27)) := (Sep.start w).allocAt w.heap.size plZ 27 rfl
  rw [show (#[.int .i64 0, .int .i64 0, .int .i64 0, .slice none 0 0] : Array Value) = plZ.toArray from rfl]
  generalize w.alloc (.cells plZ.toArray 27) = w1 at *
  have HCK1 := Lib.hid' (HCK.out w1 H0.toBelow)
  clear HCK
  by_cases hck : ck = 0
  case neg =>
    have HR := Lib.hid' (HQ.out.trans (if_pos hck))
    rw [errV_pos hck] at HCK1
    have HE := Lib.hid' (errV_pos hck)
    clear hck HQ
    go_upto_region 3 with (go_at_call 15; refine HCK1.out.mono ?_; rintro e w2 ⟨rfl, hb⟩; have H2 := H0.below hb)
    go_wp2_with (refine Sep.storeB H2 0 rfl rfl 27 (.tmp 4) (.tmp 21) rfl plZ rfl rfl hzs rfl rfl ?_)
    have H4 := H2.setRow 0 rfl plZ
    refine bodyPost_ret (box_result2 Tryz.results6 (H4.box 0 rfl) _ rfl (.iface 59 (.int .i64 (ck : Nat))) rfl _ Tryz.underlying27 rfl hzs) rfl ?_
    exact ⟨none, 0, by rw [HR.out, HE.out]; rfl, by rw [HR.out]; exact SlV.empty _ _ _ (Nat.zero_le _) (fun _ => rfl), H4.toBelow⟩
  replace HQ := Lib.hid' (HQ.out.trans (if_neg (by simpa using hck)))
  have HGD := Lib.hid' (HGE.out hck)
  rw [hck, errV_0] at HCK1
  clear hck HGE
  by_cases h0 : X.length = 0
  · have HR := Lib.hid' (HQ.out.trans (if_pos h0))
    rw [h0] at HCK1 ⊢
    go_upto_region 5 with (go_at_call 15; refine HCK1.out.mono ?_; rintro e w2 ⟨rfl, hb⟩; have H2 := H0.below hb)
    go_wp2_with (refine Sep.storeB H2 0 rfl rfl 27 (.tmp 4) (.tmp 27) rfl plZ rfl rfl hzs rfl rfl ?_)
    have H4 := H2.setRow 0 rfl plZ
    refine bodyPost_ret (box_result2 Tryz.results6 (H4.box 0 rfl) _ rfl (.iface 59 (.int .i64 4)) rfl _ Tryz.underlying27 rfl hzs) rfl ?_
    exact ⟨none, 0, by rw [HR.out]; rfl, by rw [HR.out]; exact SlV.empty _ _ _ (Nat.zero_le _) (fun _ => rfl), H4.toBelow⟩
  replace HQ := Lib.hid' (HQ.out.trans (if_neg h0))
  have hx0 : ((X.length : Int) == 0) = false := by rw [beq_eq_false_iff_ne]; omega
  go_upto_region 6 with (go_at_call 15; refine HCK1.out.mono ?_; rintro e w2 ⟨rfl, hb⟩; have H2 := H0.below hb)
  clear HCK1 H0 hb
  have HBG2 := Lib.hid' (HBG.out w2 H2.toBelow)
  have HEN2 := Lib.hid' (HEN.out w2 H2.toBelow)
  clear HEN
  by_cases hnb : n < bg
  · have HR := Lib.hid' (HQ.out.trans (if_pos (.inl hnb)))
    clear HQ
    go_upto_region 7 with (first | (go_at_call 16; refine HBG2.out.mono ?_; rintro e w' ⟨rfl, rfl⟩))
    go_wp2_with (refine Sep.storeB H2 0 rfl rfl 27 (.tmp 4) (.tmp 40) rfl plZ rfl rfl hzs rfl rfl ?_)
    have H4 := H2.setRow 0 rfl plZ
    refine bodyPost_ret (box_result2 Tryz.results6 (H4.box 0 rfl) _ rfl (.iface 59 (.int .i64 1)) rfl _ Tryz.underlying27 rfl hzs) rfl ?_
    exact ⟨none, 0, by rw [HR.out]; rfl, by rw [HR.out]; exact SlV.empty _ _ _ (Nat.zero_le _) (fun _ => rfl), H4.toBelow⟩
  by_cases hne : en' < n
  · have HR := Lib.hid' (HQ.out.trans (if_pos (.inr hne)))
    clear HQ
    go_upto_region 7 with (first | (go_at_call 16; refine HBG2.out.mono ?_; rintro e w' ⟨rfl, rfl⟩) | (go_at_call 17; refine HEN2.out.mono ?_; rintro e w3 ⟨rfl, hb⟩; have H3 := H2.below hb))
    go_wp2_with (refine Sep.storeB H3 0 rfl rfl 27 (.tmp 4) (.tmp 40) rfl plZ rfl rfl hzs rfl rfl ?_)
    have H4 := H3.setRow 0 rfl plZ
    refine bodyPost_ret (box_result2 Tryz.results6 (H4.box 0 rfl) _ rfl (.iface 59 (.int .i64 1)) rfl _ Tryz.underlying27 rfl hzs) rfl ?_
    exact ⟨none, 0, by rw [HR.out]; rfl, by rw [HR.out]; exact SlV.empty _ _ _ (Nat.zero_le _) (fun _ => rfl), H4.toBelow⟩
  replace HQ := Lib.hid' (HQ.out.trans (if_neg (by omega)))
  have hex := HEX.out h0 (by omega)
  have hitl := planItems_len n (markAt X n) X HGD.out
  have HMX := Lib.hid' (show markAt X n = markAt X n from rfl)
  generalize markAt X n = mk at *
  generalize hITS : planItems n mk X = ITS at *
  have HITS := Lib.hid' hITS
  clear hITS
  go_upto_region 8 with (first | (go_at_call 16; refine HBG2.out.mono ?_; rintro e w' ⟨rfl, rfl⟩) | (go_at_call 17; refine HEN2.out.mono ?_; rintro e w3 ⟨rfl, hb⟩; have H3 := H2.below hb))
  have HBG3 := Lib.hid' (HBG.out w3 H3.toBelow)
  have HMK3 := Lib.hid' (HMK.out w3 H3.toBelow hex)
  clear HBG HMK HBG2 HEN2 H2 hex HEX hb
  go_upto_region 9 with (first | (go_at_call 16; refine HBG3.out.mono ?_; rintro e w' ⟨rfl, rfl⟩) | (go_at_call 18; refine HMK3.out.mono ?_; rintro e w4 ⟨rfl, hb⟩; have H4 := H3.below hb))
  have H5 : Sep w NoF [.row 56 4 (.slice none 0 0) 0 [], .box w4.heap.size (plV n bg mk none 0 0) 27, .box w.heap.size plZ 27] (w4.alloc (.cells #[.int .i64 n, .int .i64 bg, .int .i64 mk, .slice none 0 0] 27)) := (H4.allocAt w4.heap.size (plV n bg mk none 0 0) 27 rfl).nilRow 56 4
  generalize w4.alloc (.cells #[.int .i64 n, .int .i64 bg, .int .i64 mk, .slice none 0 0] 27) = w5 at *
  generalize w4.heap.size = N8 at *
  generalize hN4 : w.heap.size = N4 at H5
  have HN4 := Lib.hid' hN4
  clear hN4
  have hlen : X.length ≤ 9223372036854775807 := by omega
  clear H4 H3 HBG3 HMK3 hb HMX hx0 h0 hnb hne
  go_wp2_with fail
  go_loopw [51] (fun v51 wr => ∃ (k : Nat) (L : List It) (ia : Option Addr) (ic : Nat), v51 = .int .i64 k ∧ k ≤ X.length ∧ Hid (ITS = L ++ planItems n mk (X.drop k)) ∧ Hid (Sep w NoF [.row 56 4 (.slice ia L.length ic) L.length (L.flatMap itV), .box N8 (plV n bg mk ia L.length ic) 27, .box N4 plZ 27] wr)) (fun v51 _ => X.length - (intOf v51).toNat)
  case atStart => exact ⟨0, [], none, 0, rfl, Nat.zero_le _, Lib.hid' (by rw [← HITS.out]; rfl), Lib.hid' H5⟩
  case round =>
    obtain ⟨k, L, ia, ic, rfl, hk, HI, HS⟩ := hrel
    by_cases hlt : k < X.length
    · have HXr := Lib.hid' (HX.out.below (Nat.le_refl _) HS.out.toBelow)
      obtain ⟨bb, off, rfl, hbb, hrg⟩ := MsAt.at HXr.out hlt
      have HG := Lib.hid' hrg
      have hok := HX.out.ok _ (List.getElem_mem hlt)
      have HPS := Lib.hid' (HX.out.each _ (List.getElem_mem hlt))
      have HPI := Lib.hid' (part_in (HGD.out _ (List.getElem_mem hlt)))
      have HI2 := Lib.hid' (HI.out.trans (by rw [planItems_next hlt]))
      have hy37 := mfV_len hok X[k].2.1 X[k].2.2
      have c36 := mfV_36 hok X[k].2.1 X[k].2.2
      have hpl := HPS.out.len
      have hmz : (Tryz.prog.info? 48).map (·.size) = some (mV X[k]).length := by unfold mV; rw [hy37]; exact mf_size
      have hpl0 : zeroMV.length = (mV X[k]).length := by unfold mV; rw [hy37]; rfl
      have hp1 : (mV X[k]).all (·.oneCell') = true := List.all_eq_true.2 mfV_one
      have hY36 : (mV X[k])[36]? = some (.slice X[k].2.1 X[k].1.ps.length X[k].2.2) := c36
      have hY0 : (mV X[k])[0]? = some (.int .i64 X[k].1.n) := rfl
      have HPO := Lib.hid' hok.ps
      clear hrg hok hy37 HXr c36 HI
      generalize mV X[k] = Y at *
      generalize X[k].2.1 = ya at *
      generalize X[k].2.2 = yc at *
      generalize X[k].1.n = num at *
      generalize X[k].1.ps = ps at *
      have HZ : Sep w NoF [.box wr.heap.size zeroMV 48, .row 56 4 (.slice ia L.length ic) L.length (L.flatMap itV), .box N8 (plV n bg mk ia L.length ic) 27, .box N4 plZ 27] (wr.alloc (.cells #[.int .i64 0, .int .i64 0, .int .i64 0, .int .i64 0, .int .u8 0, .int .u8 0, .int .u8 0, .int .u8 0, .int .u8 0, .int .u8 0, .int .u8 0, .int .u8 0, .int .u8 0, .int .u8 0, .int .u8 0, .int .u8 0, .int .u8 0, .int .u8 0, .int .u8 0, .int .u8 0, .int .u8 0, .int .u8 0, .int .u8 0, .int .u8 0, .int .u8 0, .int .u8 0, .int .u8 0, .int .u8 0, .int .u8 0, .int .u8 0, .int .u8 0, .int .u8 0, .int .u8 0, .int .u8 0, .int .u8 0, .int .u8 0, .slice none 0 0] 48)) := HS.out.allocAt wr.heap.size zeroMV 48 rfl
      have HY := HZ.setRow 0 rfl Y
      go_upto_region 12 with (first | (refine wpList_load_at HG.out rfl 48 (.tmp 53) rfl rfl _ Tryz.underlying48 rfl hmz ?_) | (refine Sep.storeB HZ 0 rfl rfl 48 (.tmp 10) (.tmp 54) rfl Y rfl rfl hmz hpl0 hp1 ?_))
      generalize ((wr.alloc (.cells #[.int .i64 0, .int .i64 0, .int .i64 0, .int .i64 0, .int .u8 0, .int .u8 0, .int .u8 0, .int .u8 0, .int .u8 0, .int .u8 0, .int .u8 0, .int .u8 0, .int .u8 0, .int .u8 0, .int .u8 0, .int .u8 0, .int .u8 0, .int .u8 0, .int .u8 0, .int .u8 0, .int .u8 0, .int .u8 0, .int .u8 0, .int .u8 0, .int .u8 0, .int .u8 0, .int .u8 0, .int .u8 0, .int .u8 0, .int .u8 0, .int .u8 0, .int .u8 0, .int .u8 0, .int .u8 0, .int .u8 0, .int .u8 0, .slice none 0 0] 48)).setRow wr.heap.size Y.toArray) = w6 at *
      generalize wr.heap.size = M at *
      clear HZ HG hpl0 hp1 HS
      have y36 := HY.cell 0 rfl 36 hY36
      have HY6 := Lib.hid' HY
      clear HY
      go_wp2_with fail
      go_loopw [58] (fun v58 wi => ∃ (j : Nat) (L2 : List It) (ia2 : Option Addr) (ic2 : Nat), v58 = .int .i64 j ∧ j ≤ ps.length ∧ Hid (ITS = L2 ++ (partItems n mk num j (ps.drop j) ++ planItems n mk (X.drop (k + 1)))) ∧ Hid (Sep w NoF [.box M Y 48, .row 56 4 (.slice ia2 L2.length ic2) L2.length (L2.flatMap itV), .box N8 (plV n bg mk ia2 L2.length ic2) 27, .box N4 plZ 27] wi)) (fun v58 _ => ps.length - (intOf v58).toNat)
      case atStart => exact ⟨0, L, ia, ic, rfl, Nat.zero_le _, HI2, HY6⟩
      case round =>
        obtain ⟨j, L2, ia2, ic2, rfl, hj, HJ, HW⟩ := hrel
        by_cases hjl : j < ps.length
        · obtain ⟨pb, po, rfl, hpb, hprg⟩ := PtsAt.at (HPS.out.below (Nat.le_refl _) HW.out.toBelow) HPO.out hjl
          have HG := Lib.hid' hprg
          have hpin := HPI.out _ (List.getElem_mem hjl)
          have hl35 := ptV_len (HPO.out _ (List.getElem_mem hjl))
          have HJ2 := Lib.hid' (HJ.out.trans (by rw [partItems_next hjl]))
          have hlen2 : L2.length + 1 ≤ 1073741824 + 1 := by
            have h1 := HJ.out
            have h2 : ITS.length ≤ 1073741824 := by omega
            rw [h1, List.length_append] at h2
            omega
          have hpz : (Tryz.prog.info? 53).map (·.size) = some (ptV ps[j]).length := by rw [hl35]; exact pt_size
          have hpl0 : zeroPt.length = (ptV ps[j]).length := by rw [hl35]; rfl
          have hp1 : (ptV ps[j]).all (·.oneCell') = true := List.all_eq_true.2 ptV_one
          have hq0 : (ptV ps[j])[0]? = some (.int .i64 ps[j].f) := rfl
          have hq1 : (ptV ps[j])[1]? = some (.int .i64 ps[j].m) := rfl
          have HPA := Lib.hid' (show partItem n mk num j ps[j] = if max ps[j].f mk < min (ps[j].f + ps[j].m) n then [⟨num, j, max ps[j].f mk, min (ps[j].f + ps[j].m) n⟩] else [] from rfl)
          clear hprg hl35 HJ
          generalize partItem n mk num j ps[j] = PI at *
          generalize ptV ps[j] = V at *
          generalize ps[j].f = pf at *
          generalize ps[j].m = pm at *
          have HZ : Sep w NoF [.box wr.heap.size zeroPt 53, .box M Y 48, .row 56 4 (.slice ia2 L2.length ic2) L2.length (L2.flatMap itV), .box N8 (plV n bg mk ia2 L2.length ic2) 27, .box N4 plZ 27] (wr.alloc (.cells #[.int .i64 0, .int .i64 0, .int .i64 0, .int .u8 0, .int .u8 0, .int .u8 0, .int .u8 0, .int .u8 0, .int .u8 0, .int .u8 0, .int .u8 0, .int .u8 0, .int .u8 0, .int .u8 0, .int .u8 0, .int .u8 0, .int .u8 0, .int .u8 0, .int .u8 0, .int .u8 0, .int .u8 0, .int .u8 0, .int .u8 0, .int .u8 0, .int .u8 0, .int .u8 0, .int .u8 0, .int .u8 0, .int .u8 0, .int .u8 0, .int .u8 0, .int .u8 0, .int .u8 0, .int .u8 0, .int .u8 0] 53)) := HW.out.allocAt wr.heap.size zeroPt 53 rfl
          have HV := HZ.setRow 0 rfl V
          go_upto_region 15 with (first | (refine wpList_load_at HG.out rfl 53 (.tmp 61) rfl rfl _ Tryz.underlying53 rfl hpz ?_) | (refine Sep.storeB HZ 0 rfl rfl 53 (.tmp 12) (.tmp 62) rfl V rfl rfl hpz hpl0 hp1 ?_))
          generalize ((wr.alloc (.cells #[.int .i64 0, .int .i64 0, .int .i64 0, .int .u8 0, .int .u8 0, .int .u8 0, .int .u8 0, .int .u8 0, .int .u8 0, .int .u8 0, .int .u8 0, .int .u8 0, .int .u8 0, .int .u8 0, .int .u8 0, .int .u8 0, .int .u8 0, .int .u8 0, .int .u8 0, .int .u8 0, .int .u8 0, .int .u8 0, .int .u8 0, .int .u8 0, .int .u8 0, .int .u8 0, .int .u8 0, .int .u8 0, .int .u8 0, .int .u8 0, .int .u8 0, .int .u8 0, .int .u8 0, .int .u8 0, .int .u8 0] 53)).setRow wr.heap.size V.toArray) = w7 at *
          generalize wr.heap.size = Q at *
          clear HZ HG hpl0 hp1 HW
          have v0 := HV.cell 0 rfl 0 hq0
          have v1 := HV.cell 0 rfl 1 hq1
          have y0 := HV.cell 1 rfl 0 hY0
          have z2 := HV.cell 3 rfl 2 (v := .int .i64 mk) rfl
          go_upto_region 16 with fail
          have HT : Sep w NoF [.box w7.heap.size [.int .i64 num, .int .i64 (j : Int), .int .i64 (max pf mk), .int .i64 (min (pf + pm) n)] 56, .box Q V 53, .box M Y 48, .row 56 4 (.slice ia2 L2.length ic2) L2.length (L2.flatMap itV), .box N8 (plV n bg mk ia2 L2.length ic2) 27, .box N4 plZ 27] (w7.alloc (.cells #[.int .i64 num, .int .i64 (j : Int), .int .i64 (max pf mk), .int .i64 (min (pf + pm) n)] 56)) :=
            HV.allocAt w7.heap.size [.int .i64 num, .int .i64 (j : Int), .int .i64 (max pf mk), .int .i64 (min (pf + pm) n)] 56 rfl
          generalize w7.alloc (.cells #[.int .i64 num, .int .i64 (j : Int), .int .i64 (max pf mk), .int .i64 (min (pf + pm) n)] 56) = w8 at *
          generalize w7.heap.size = U at *
          generalize max pf mk = xa at *
          generalize min (pf + pm) n = xb at *
          clear HV v0 v1 y0 z2 hpin
          have i0 := HT.cell 0 rfl 0 (v := .int .i64 num) rfl
          have i1 := HT.cell 0 rfl 1 (v := .int .i64 (j : Int)) rfl
          have i2 := HT.cell 0 rfl 2 (v := .int .i64 xa) rfl
          have i3 := HT.cell 0 rfl 3 (v := .int .i64 xb) rfl
          by_cases hx : xa < xb
          · have HJ3 := Lib.hid' (show ITS = (L2 ++ [⟨num, j, xa, xb⟩]) ++ (partItems n mk num (j + 1) (ps.drop (j + 1)) ++ planItems n mk (X.drop (k + 1))) by rw [HJ2.out, HPA.out, if_pos hx]; simp)
            have z3 := HT.cell 4 rfl 3 (v := .slice ia2 L2.length ic2) rfl
            go_upto_region 17 with fail
            go_wp2_with (at_builtin; refine Sep.append etItems rfl (.tmp 85) (.tmp 87) rfl [.int .i64 num, .int .i64 (j : Int), .int .i64 xa, .int .i64 xb] rfl HT 3 rfl rfl rfl (by simp [Value.oneCell']) (by omega) ?_)
            intro a9 c9 w9 H9
            clear i0 i1 i2 i3 z3 HT HJ2 HPA
            have z3 := H9.cell 4 rfl 3 (v := .slice ia2 L2.length ic2) rfl
            have zf := H9.free 4 rfl 3
            have H10 := H9.set 4 rfl 3 (.slice a9 (L2.length + 1) c9)
            have H11 : Sep w NoF [.box M Y 48, .row 56 4 (.slice a9 (L2.length + 1) c9) (L2.length + 1) (L2.flatMap itV ++ [.int .i64 num, .int .i64 (j : Int), .int .i64 xa, .int .i64 xb]), .box N8 (plV n bg mk a9 (L2.length + 1) c9) 27, .box N4 plZ 27] (w9.setCell ⟨N8, 3, none⟩ (.slice a9 (L2.length + 1) c9)) :=
              ((((((H10.drop 2).drop 2).focus 3 rfl).focus 1 rfl).focus 2 rfl).focus 3 rfl)
            have e1 : (L2 ++ [(⟨num, j, xa, xb⟩ : It)]).length = L2.length + 1 := by simp
            have e2 : (L2 ++ [(⟨num, j, xa, xb⟩ : It)]).flatMap itV = L2.flatMap itV ++ [.int .i64 num, .int .i64 (j : Int), .int .i64 xa, .int .i64 xb] := by rw [List.flatMap_append]; rfl
            have H12 : Hid (∃ L3 : List It, ITS = L3 ++ (partItems n mk num (j + 1) (ps.drop (j + 1)) ++ planItems n mk (X.drop (k + 1))) ∧ Sep w NoF [.box M Y 48, .row 56 4 (.slice a9 L3.length c9) L3.length (L3.flatMap itV), .box N8 (plV n bg mk a9 L3.length c9) 27, .box N4 plZ 27] (w9.setCell ⟨N8, 3, none⟩ (.slice a9 (L2.length + 1) c9))) :=
              Lib.hid' ⟨L2 ++ [⟨num, j, xa, xb⟩], HJ3.out, by rw [e1, e2]; exact H11⟩
            clear e1 e2 H11 H10 H9 HJ3
            go_wp2_with fail
            obtain ⟨L3, g1, g2⟩ := H12.out
            have g1' := Lib.hid' g1
            have g2' := Lib.hid' g2
            clear g1 g2 H12
            go_roundw
            case rel => exact ⟨j + 1, L3, a9, c9, by go_num, by omega, g1', g2'⟩
            case measure => simp [intOf]; omega
          · have HJ3 := Lib.hid' (show ITS = L2 ++ (partItems n mk num (j + 1) (ps.drop (j + 1)) ++ planItems n mk (X.drop (k + 1))) by rw [HJ2.out, HPA.out, if_neg hx]; simp)
            have HT3 := Lib.hid' ((HT.drop 0).drop 0)
            clear HT HJ2 HPA
            go_wp2_with fail
            go_roundw
            case rel => exact ⟨j + 1, L2, ia2, ic2, by go_num, by omega, HJ3, HT3⟩
            case measure => simp [intOf]; omega
        · obtain rfl : j = ps.length := by omega
          have HJ3 := Lib.hid' (show ITS = L2 ++ planItems n mk (X.drop (k + 1)) by rw [HJ.out, List.drop_length]; rfl)
          have HT3 := Lib.hid' (HW.out.drop 0)
          clear HJ HW
          go_wp2_with fail
          go_roundw
          case rel => exact ⟨k + 1, L2, ia2, ic2, by go_num, by omega, HJ3, HT3⟩
          case measure => simp [intOf]; omega
    · obtain rfl : k = X.length := by omega
      have HJ3 := Lib.hid' (show ITS = L by rw [HI.out, List.drop_length]; simp [planItems])
      have HF := HS.out
      have hzq : (Tryz.prog.info? 27).map (·.size) = some (plV n bg mk ia L.length ic).length := pl_size
      go_wp2_with (first | (refine Sep.loadB HF 1 rfl rfl 27 (.tmp 8) rfl rfl _ Tryz.underlying27 rfl hzq ?_) | (refine Sep.storeB HF 2 rfl rfl 27 (.tmp 4) (.tmp 92) rfl (plV n bg mk ia L.length ic) rfl rfl hzq rfl rfl ?_))
      have H4 := HF.setRow 2 rfl (plV n bg mk ia L.length ic)
      refine bodyPost_ret (box_result2 Tryz.results6 (H4.box 0 rfl) _ rfl .nilIface rfl _ Tryz.underlying27 rfl hzq) rfl ?_
      exact ⟨ia, ic, by rw [HQ.out, HJ3.out]; rfl, by rw [HQ.out, HJ3.out]; exact SlV.of_own (H4.row 1 rfl), H4.toBelow⟩

end Go.Proofs.YtinbcehlpfnlaaaGreatDoor
