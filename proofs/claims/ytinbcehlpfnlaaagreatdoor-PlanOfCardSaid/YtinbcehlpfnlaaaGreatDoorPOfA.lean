/- Law 21 (plan): holdfastref21.Of, the document's plan, PlanOf's walk and its closing. -/
import Derived.Test.YtinbcehlpfnlaaaGreatDoorChkS
import Derived.Test.YtinbcehlpfnlaaaGreatDoorPlnA
import Derived.Deep.DeepCutAuto
import Derived.Deep.CutBlock
import Derived.Test.YtinbcehlpfnlaaaGreatDoorSlyS
import Derived.Test.YtinbcehlpfnlaaaGreatDoorStpL
import Derived.Test.YtinbcehlpfnlaaaGreatDoorAlvS
import Derived.Test.YtinbcehlpfnlaaaGreatDoorOpenM
import Derived.Test.YtinbcehlpfnlaaaGreatDoorRtS
import Derived.Test.YtinbcehlpfnlaaaGreatDoorRows
import Derived.Test.YtinbcehlpfnlaaaGreatDoorCards
import Derived.Test.YtinbcehlpfnlaaaGreatDoorTie
import Derived.Test.YtinbcehlpfnlaaaGreatDoorChecked
import Derived.ProofKit
import Derived.LaidMore
import Derived.OpenShut
import Derived.Stop.Joined
import Derived.MakeChecks
import Derived.SevenTiedAt
namespace Go.Proofs.YtinbcehlpfnlaaaGreatDoor
open Go.RowKit
set_option linter.unusedSimpArgs false
set_option linter.unusedVariables false
set_option maxRecDepth 100000

theorem rpl_size : (Tryz.prog.info? 34).map (·.size) = some 4 := by kernel_rfl
theorem ri_size : (Tryz.prog.info? 70).map (·.size) = some 4 := by kernel_rfl
theorem etRIt : ElemT Tryz.prog 32 70 4 32 := ElemT.mk' (z := .agg #[.int .i64 0, .int .i64 0, .int .i64 0, .int .i64 0]) Tryz.underlying32 (by kernel_rfl) rfl (by decide) (by decide)
def RPlanR (q : Nat × Pln) (w : World) (en : Ending) (w' : World) : Prop :=
  ∃ a c, en = .returned (.tuple #[.agg (plV q.2.n q.2.b q.2.r a q.2.its.length c).toArray, .int .i64 (q.1 : Int)]) ∧ SlV w' (.slice a q.2.its.length c) q.2.its.length (q.2.its.flatMap itV) ∧ Below w.heap.size w w'
/-- the mark of the first manifest that reaches n; 0, if none does -/
def markF (L : List MfP) (n : Int) : Int := match L.find? (fun m => decide (n ≤ m.1.t)) with
  | none => 0
  | some m => min m.1.r n
theorem markF_hit {X : List MfP} {j : Nat} (hj : j < X.length) {n : Int} (h : n ≤ X[j].1.t) : markF (X.drop j) n = min X[j].1.r n := by
  unfold markF; rw [List.drop_eq_getElem_cons hj, List.find?_cons_of_pos (by simpa using h)]
theorem markF_miss {X : List MfP} {j : Nat} (hj : j < X.length) {n : Int} (h : ¬ n ≤ X[j].1.t) : markF (X.drop j) n = markF (X.drop (j + 1)) n := by
  unfold markF; rw [List.drop_eq_getElem_cons hj, List.find?_cons_of_neg (by simpa using h)]
theorem markF_all {X : List MfP} {n : Int} (h : ∃ y ∈ X, n ≤ y.1.t) : markF X n = markAt X n := by
  unfold markF markAt
  cases hf : X.find? (fun m => decide (n ≤ m.1.t)) with
  | none =>
    obtain ⟨y, hy, hn⟩ := h
    have := List.find?_eq_none.1 hf y hy
    simp at this; omega
  | some m => rfl
def runF (f mk n a : Int) : Int := if max f mk < min a n then max f mk else -1
def runT (f mk n a : Int) : Int := if max f mk < min a n then min a n else 0
theorem run_skip {f mk n a : Int} (h : a < mk ∨ n ≤ a) : runF f mk n (a + 1) = runF f mk n a ∧ runT f mk n (a + 1) = runT f mk n a := by
  unfold runF runT
  rcases h with h | h
  · rw [if_neg (by omega), if_neg (by omega), if_neg (by omega), if_neg (by omega)]; exact ⟨rfl, rfl⟩
  · rw [show min (a + 1) n = min a n by omega]; exact ⟨rfl, rfl⟩
theorem run_first {f mk n a : Int} (hf : 0 ≤ f) (ha : f ≤ a) (h1 : mk ≤ a) (h2 : a < n) (h : runF f mk n a < 0) : runF f mk n (a + 1) = a ∧ runT f mk n (a + 1) = a + 1 := by
  unfold runF runT at *
  split at h
  · omega
  · rw [if_pos (by omega), if_pos (by omega)]; omega
theorem run_more {f mk n a : Int} (ha : f ≤ a) (h1 : mk ≤ a) (h2 : a < n) (h : ¬ runF f mk n a < 0) : runF f mk n (a + 1) = runF f mk n a ∧ runT f mk n (a + 1) = a + 1 := by
  unfold runF runT at *
  split at h
  · rename_i h3
    rw [if_pos h3, if_pos (by omega), if_pos (by omega)]; omega
  · omega
theorem run_start (f mk n : Int) : runF f mk n f = -1 ∧ runT f mk n f = 0 := by
  unfold runF runT
  rw [if_neg (by omega), if_neg (by omega)]; exact ⟨rfl, rfl⟩
theorem run_end {n mk num : Int} {j : Nat} {x : Pt} (hf : 0 ≤ x.f) : partItem n mk num j x = if 0 ≤ runF x.f mk n (x.f + x.m) then [⟨num, j, runF x.f mk n (x.f + x.m), runT x.f mk n (x.f + x.m)⟩] else [] := by
  unfold partItem runF runT
  split
  · rw [if_pos (by omega)]
  · rw [if_neg (by omega)]
set_option maxHeartbeats 32000000 in
theorem rplan_any (HSum : RSumLaw) (X : List MfP) (a : Option Addr) (c : Nat) (n : Int) (w : World) (hX : MsAt w a c X) (hxl : X.length ≤ 12) (hn : IR n) :
    Calls Tryz.prog 7 #[.slice a X.length c, .int .i64 n] w (RPlanR (planOf X n) w) := by
  have HX := Lib.hid' hX
  have HCK := Lib.hid' (fun w1 (H : Below w.heap.size w w1) => rchk_any HSum X a c w1 (hX.below (Nat.le_refl _) H))
  have HQ := Lib.hid' (show planOf X n = if (chkM X).2 ≠ 0 then ((chkM X).2, zeroPln) else if X.length = 0 then (4, zeroPln) else if n < beginM X ∨ (lastM X).1.t < n then (1, zeroPln) else (0, ⟨n, beginM X, markAt X n, planItems n (markAt X n) X⟩) from rfl)
  have HEX := Lib.hid' (show X.length ≠ 0 → n ≤ (lastM X).1.t → ∃ y ∈ X, n ≤ y.1.t from fun h h2 => by
    cases X with
    | nil => exact absurd rfl h
    | cons x L => exact ⟨_, lastM_mem x L, h2⟩)
  have HGE := Lib.hid' (fun (h : (chkM X).2 = 0) => good_each (good_of_chk (A := []) (L := X) h))
  have hzs : (Tryz.prog.info? 34).map (·.size) = some plZ.length := rpl_size
  have HQ0 : ∀ e w', Hid (RPlanR (planOf X n) w e w') → RPlanR (planOf X n) w e w' := fun _ _ h => h.out
  have HN := Lib.hid' hn
  clear hX HSum hn
  generalize (chkM X).2 = ck at *
  generalize (chkM X).1 = cp at *
  go_enter Tryz.func7, Tryz.ntmps7
  go_upto_region 1 with fail
  have H0 : Sep w NoF [.box w.heap.size plZ 34] (w.alloc (.cells plZ.toArray 34)) := (Sep.start w).allocAt w.heap.size plZ 34 rfl
  rw [show (#[.int .i64 0, .int .i64 0, .int .i64 0, .slice none 0 0] : Array Value) = plZ.toArray from rfl]
  generalize w.alloc (.cells plZ.toArray 34) = w1 at *
  have HCK1 := Lib.hid' (HCK.out w1 H0.toBelow)
  clear HCK
  go_upto_region 2 with (go_at_call 19; (with_reducible refine HCK1.out.mono ?_); rintro e w2 ⟨rfl, hb⟩; have H2 := H0.below hb)
  clear HCK1 H0 hb
  by_cases hck : ck = 0
  case neg =>
    have HR := Lib.hid' (HQ.out.trans (if_pos hck))
    have b1 : ((ck : Int) != 0) = true := by rw [bne_iff_ne]; omega
    clear hck HQ
    go_wp2_with (refine Sep.storeB H2 0 rfl rfl 34 (.tmp 4) (.tmp 23) rfl plZ rfl rfl hzs rfl rfl ?_)
    have H4 := H2.setRow 0 rfl plZ
    refine bodyPost_ret (box_result2 Tryz.results7 (H4.box 0 rfl) _ rfl (.int .i64 (ck : Nat)) rfl _ Tryz.underlying34 rfl hzs) rfl ?_
    exact HQ0 _ _ (Lib.hid' ⟨none, 0, by rw [HR.out]; rfl, by rw [HR.out]; exact SlV.empty _ _ _ (Nat.zero_le _) (fun _ => rfl), H4.toBelow⟩)
  replace HQ := Lib.hid' (HQ.out.trans (if_neg (by simpa using hck)))
  have HGD := Lib.hid' (HGE.out hck)
  have b1 : ((ck : Int) != 0) = false := by rw [bne_eq_false_iff_eq]; omega
  clear hck HGE
  by_cases h0 : X.length = 0
  · have HR := Lib.hid' (HQ.out.trans (if_pos h0))
    have hx0 : ((X.length : Int) == 0) = true := by rw [beq_iff_eq]; omega
    clear h0
    go_wp2_with (refine Sep.storeB H2 0 rfl rfl 34 (.tmp 4) (.tmp 28) rfl plZ rfl rfl hzs rfl rfl ?_)
    have H4 := H2.setRow 0 rfl plZ
    refine bodyPost_ret (box_result2 Tryz.results7 (H4.box 0 rfl) _ rfl (.int .i64 4) rfl _ Tryz.underlying34 rfl hzs) rfl ?_
    exact HQ0 _ _ (Lib.hid' ⟨none, 0, by rw [HR.out]; rfl, by rw [HR.out]; exact SlV.empty _ _ _ (Nat.zero_le _) (fun _ => rfl), H4.toBelow⟩)
  replace HQ := Lib.hid' (HQ.out.trans (if_neg h0))
  have hx0 : ((X.length : Int) == 0) = false := by rw [beq_eq_false_iff_ne]; omega
  obtain ⟨n1, hn1⟩ : ∃ n, X.length = n + 1 := ⟨X.length - 1, by omega⟩
  have e1 : IntKind.i64.wrap ((X.length : Int) - 1) = (n1 : Int) := by rw [show (X.length : Int) - 1 = (n1 : Int) by omega]; exact IntWalk.i64_in _ (by omega)
  have e1' : (X.length : Int) - 1 = (n1 : Int) := by omega
  have hnl : (n1 : Int) < (X.length : Int) := by omega
  have hxp : (0 : Int) < (X.length : Int) := by omega
  obtain ⟨ba, oa, rfl, hba, hr0⟩ := MsAt.at HX.out (k := 0) (by omega)
  have HAT := Lib.hid' (fun (k : Nat) (hk : k < X.length) => show w.rangeAt ba (oa + k * 37) (mV X[k]) from by
    obtain ⟨b2, o2, he, _, hr⟩ := MsAt.at HX.out hk
    simp only [Option.some.injEq, Addr.mk.injEq] at he
    obtain ⟨rfl, rfl, _⟩ := he
    exact hr)
  have HC0 := Lib.hid' (fun wq (hb : Below w.heap.size w wq) => show wq.cell? ⟨ba, oa + 1, none⟩ = some (.int .i64 (beginM X)) from by
    have := World.rangeAt.below hr0 hb 1 (.int .i64 (X[0]'(by omega)).1.f) rfl
    rw [Nat.zero_mul, Nat.add_zero] at this
    rw [this]; unfold beginM; rw [List.head?_eq_getElem?, List.getElem?_eq_getElem (by omega)]; rfl)
  have HCN := Lib.hid' (fun wq (hb : Below w.heap.size w wq) => show wq.cell? ⟨ba, oa + n1 * 37 + 2, none⟩ = some (.int .i64 (lastM X).1.t) from by
    have := World.rangeAt.below (HAT.out n1 (by omega)) hb 2 (.int .i64 (X[n1]'(by omega)).1.t) rfl
    rw [this, lastM_in hn1])
  have HXT := Lib.hid' (HEX.out h0)
  clear hr0 hba HEX h0
  have k0 := HC0.out _ H2.toBelow
  have kn := HCN.out _ H2.toBelow
  generalize beginM X = bg at *
  generalize (lastM X).1.t = en' at *
  by_cases hnb : n < bg
  · have HR := Lib.hid' (HQ.out.trans (if_pos (.inl hnb)))
    clear HQ
    go_wp2_with (refine Sep.storeB H2 0 rfl rfl 34 (.tmp 4) (.tmp 46) rfl plZ rfl rfl hzs rfl rfl ?_)
    have H4 := H2.setRow 0 rfl plZ
    refine bodyPost_ret (box_result2 Tryz.results7 (H4.box 0 rfl) _ rfl (.int .i64 1) rfl _ Tryz.underlying34 rfl hzs) rfl ?_
    exact HQ0 _ _ (Lib.hid' ⟨none, 0, by rw [HR.out]; rfl, by rw [HR.out]; exact SlV.empty _ _ _ (Nat.zero_le _) (fun _ => rfl), H4.toBelow⟩)
  by_cases hne : en' < n
  · have HR := Lib.hid' (HQ.out.trans (if_pos (.inr hne)))
    clear HQ
    go_wp2_with (refine Sep.storeB H2 0 rfl rfl 34 (.tmp 4) (.tmp 46) rfl plZ rfl rfl hzs rfl rfl ?_)
    have H4 := H2.setRow 0 rfl plZ
    refine bodyPost_ret (box_result2 Tryz.results7 (H4.box 0 rfl) _ rfl (.int .i64 1) rfl _ Tryz.underlying34 rfl hzs) rfl ?_
    exact HQ0 _ _ (Lib.hid' ⟨none, 0, by rw [HR.out]; rfl, by rw [HR.out]; exact SlV.empty _ _ _ (Nat.zero_le _) (fun _ => rfl), H4.toBelow⟩)
  replace HQ := Lib.hid' (HQ.out.trans (if_neg (by omega)))
  have HMA := Lib.hid' (markF_all (HXT.out (by omega)))
  go_upto_region 8 with fail
  have HZ : Sep w NoF [.box w2.heap.size plZ 34, .box w.heap.size plZ 34] (w2.alloc (.cells #[.int .i64 0, .int .i64 0, .int .i64 0, .slice none 0 0] 34)) := H2.allocAt w2.heap.size plZ 34 rfl
  go_upto_region 9 with (refine Sep.storeB HZ 0 rfl rfl 34 (.tmp 8) (.tmp 52) rfl (plV n bg 0 none 0 0) rfl rfl hzs rfl rfl ?_)
  have H5 : Sep w NoF [.row 70 4 (.slice none 0 0) 0 [], .box w2.heap.size (plV n bg 0 none 0 0) 34, .box w.heap.size plZ 34] ((w2.alloc (.cells #[.int .i64 0, .int .i64 0, .int .i64 0, .slice none 0 0] 34)).setRow w2.heap.size (plV n bg 0 none 0 0).toArray) := (HZ.setRow 0 rfl (plV n bg 0 none 0 0)).nilRow 70 4
  generalize (w2.alloc (.cells #[.int .i64 0, .int .i64 0, .int .i64 0, .slice none 0 0] 34)).setRow w2.heap.size (plV n bg 0 none 0 0).toArray = w5 at *
  generalize w2.heap.size = N8 at *
  clear H2 HZ k0 kn hnb hne HC0 HCN HXT
  go_wp2_with fail
  go_loopw [9] (fun v9 wr => ∃ (k : Nat) (s mk : Int), v9 = .int .i64 s ∧ s = (k : Int) - 1 ∧ k ≤ X.length ∧ Hid (mk = markF (X.drop k) n) ∧ Hid (Sep w NoF [.row 70 4 (.slice none 0 0) 0 [], .box N8 (plV n bg mk none 0 0) 34, .box w.heap.size plZ 34] wr)) (fun v9 _ => (intOf v9 + 1).toNat)
  case atStart => exact ⟨X.length, _, 0, rfl, e1'.symm ▸ rfl, Nat.le_refl _, Lib.hid' (by rw [List.drop_length]; rfl), Lib.hid' H5⟩
  case round =>
    clear H5
    obtain ⟨k, s, mk, rfl, hs, hk, HM, HS⟩ := hrel
    cases k with
    | succ j =>
      obtain rfl : s = (j : Int) := by omega
      have hj : j < X.length := by omega
      have hjl : (j : Int) < (X.length : Int) := by omega
      have rj := World.rangeAt.below (HAT.out j hj) HS.out.toBelow
      have t2 := rj 2 (.int .i64 X[j].1.t) rfl
      have t3 := rj 3 (.int .i64 X[j].1.r) rfl
      have HM1 := Lib.hid' (fun h => markF_hit hj (n := n) h)
      have HM2 := Lib.hid' (fun h => (markF_miss hj (n := n) h).trans HM.out.symm)
      have ej : IntKind.i64.wrap ((j : Int) - 1) = (j : Int) - 1 := IntWalk.i64_in _ (by omega)
      clear rj HM hs
      generalize X[j].1.t = jt at *
      generalize X[j].1.r = jr at *
      by_cases hc : n ≤ jt
      · have HM3 := Lib.hid' (HM1.out hc).symm
        have z2 := HS.out.cell 1 rfl 2 (v := .int .i64 mk) rfl
        have zf := HS.out.free 1 rfl 2
        have H6 := (HS.out.set 1 rfl 2 (.int .i64 (min jr n))).focus 1 rfl
        have H7 : Hid (Sep w NoF [.row 70 4 (.slice none 0 0) 0 [], .box N8 (plV n bg (min jr n) none 0 0) 34, .box w.heap.size plZ 34] _) := Lib.hid' H6
        clear H6 HM1 HM2
        go_wp2_with fail
        go_roundw
        case rel => exact ⟨j, (j : Int) - 1, min jr n, rfl, rfl, by omega, HM3, H7⟩
        case measure => simp [intOf] <;> omega
      · have HM3 := Lib.hid' (HM2.out hc).symm
        clear HM1 HM2
        go_wp2_with fail
        go_roundw
        case rel => exact ⟨j, (j : Int) - 1, mk, rfl, rfl, by omega, HM3, HS⟩
        case measure => simp [intOf] <;> omega
    | zero =>
    obtain rfl : s = -1 := by omega
    have HMK := Lib.hid' (show mk = markAt X n from HM.out.trans HMA.out)
    rw [← HMK.out] at HQ
    have hitl := planItems_len n mk X HGD.out
    generalize hITS : planItems n mk X = ITS at *
    have HITS := Lib.hid' hITS
    have hpos : ¬ (0 : Int) ≤ -1 := by omega
    clear hITS HM hs hk HMA HMK
    go_wp2_with fail
    go_loopw [77] (fun v77 wr => ∃ (k : Nat) (L : List It) (ia : Option Addr) (ic : Nat), v77 = .int .i64 k ∧ k ≤ X.length ∧ Hid (ITS = L ++ planItems n mk (X.drop k)) ∧ Hid (Sep w NoF [.row 70 4 (.slice ia L.length ic) L.length (L.flatMap itV), .box N8 (plV n bg mk ia L.length ic) 34, .box w.heap.size plZ 34] wr)) (fun v77 _ => X.length - (intOf v77).toNat)
    case atStart => exact ⟨0, [], none, 0, rfl, Nat.zero_le _, Lib.hid' (by rw [← HITS.out]; rfl), HS⟩
    case round =>
      clear HS HITS
      obtain ⟨k, L, ia, ic, rfl, hk, HI, HS⟩ := hrel
      by_cases hlt : k < X.length
      rotate_left
      · obtain rfl : k = X.length := by omega
        have HJ3 := Lib.hid' (show ITS = L by rw [HI.out, List.drop_length]; simp [planItems])
        have HF := HS.out
        have hzq : (Tryz.prog.info? 34).map (·.size) = some (plV n bg mk ia L.length ic).length := rpl_size
        clear HI HS hlt hk
        go_wp2_with (first | (refine Sep.loadB HF 1 rfl rfl 34 (.tmp 8) rfl rfl _ Tryz.underlying34 rfl hzq ?_) | (refine Sep.storeB HF 2 rfl rfl 34 (.tmp 4) (.tmp 132) rfl (plV n bg mk ia L.length ic) rfl rfl hzq rfl rfl ?_))
        have H4 := HF.setRow 2 rfl (plV n bg mk ia L.length ic)
        refine bodyPost_ret (box_result2 Tryz.results7 (H4.box 0 rfl) _ rfl (.int .i64 0) rfl _ Tryz.underlying34 rfl hzq) rfl ?_
        exact HQ0 _ _ (Lib.hid' ⟨ia, ic, by rw [HQ.out, HJ3.out]; rfl, by rw [HQ.out, HJ3.out]; exact SlV.of_own (H4.row 1 rfl), H4.toBelow⟩)
      have hlt' : (k : Int) < (X.length : Int) := by omega
      have hrg := World.rangeAt.below (HAT.out k hlt) HS.out.toBelow
      have HG := Lib.hid' hrg
      have hok := HX.out.ok _ (List.getElem_mem hlt)
      have HPS := Lib.hid' (HX.out.each _ (List.getElem_mem hlt))
      have HPI := Lib.hid' (part_in (HGD.out _ (List.getElem_mem hlt)))
      have HI2 := Lib.hid' (HI.out.trans (by rw [planItems_next hlt]))
      have hy37 := mfV_len hok X[k].2.1 X[k].2.2
      have c36 := mfV_36 hok X[k].2.1 X[k].2.2
      have hpl := HPS.out.len
      have hmz : (Tryz.prog.info? 67).map (·.size) = some (mV X[k]).length := by unfold mV; rw [hy37]; exact m15_size
      have hpl0 : zeroMV.length = (mV X[k]).length := by unfold mV; rw [hy37]; rfl
      have hp1 : (mV X[k]).all (·.oneCell') = true := List.all_eq_true.2 mfV_one
      have hY36 : (mV X[k])[36]? = some (.slice X[k].2.1 X[k].1.ps.length X[k].2.2) := c36
      have hY0 : (mV X[k])[0]? = some (.int .i64 X[k].1.n) := rfl
      have HPO := Lib.hid' hok.ps
      clear hrg hok hy37 c36 HI
      generalize mV X[k] = Y at *
      generalize X[k].2.1 = ya at *
      generalize X[k].2.2 = yc at *
      generalize X[k].1.n = num at *
      generalize X[k].1.ps = ps at *
      have HZ : Sep w NoF [.box wr.heap.size zeroMV 67, .row 70 4 (.slice ia L.length ic) L.length (L.flatMap itV), .box N8 (plV n bg mk ia L.length ic) 34, .box w.heap.size plZ 34] (wr.alloc (.cells #[.int .i64 0, .int .i64 0, .int .i64 0, .int .i64 0, .int .u8 0, .int .u8 0, .int .u8 0, .int .u8 0, .int .u8 0, .int .u8 0, .int .u8 0, .int .u8 0, .int .u8 0, .int .u8 0, .int .u8 0, .int .u8 0, .int .u8 0, .int .u8 0, .int .u8 0, .int .u8 0, .int .u8 0, .int .u8 0, .int .u8 0, .int .u8 0, .int .u8 0, .int .u8 0, .int .u8 0, .int .u8 0, .int .u8 0, .int .u8 0, .int .u8 0, .int .u8 0, .int .u8 0, .int .u8 0, .int .u8 0, .int .u8 0, .slice none 0 0] 67)) := HS.out.allocAt wr.heap.size zeroMV 67 rfl
      have HY := HZ.setRow 0 rfl Y
      go_upto_region 17 with (first | (refine wpList_load_at HG.out rfl 67 (.tmp 79) rfl rfl _ Tryz.underlying67 rfl hmz ?_) | (refine Sep.storeB HZ 0 rfl rfl 67 (.tmp 11) (.tmp 80) rfl Y rfl rfl hmz hpl0 hp1 ?_))
      generalize ((wr.alloc (.cells #[.int .i64 0, .int .i64 0, .int .i64 0, .int .i64 0, .int .u8 0, .int .u8 0, .int .u8 0, .int .u8 0, .int .u8 0, .int .u8 0, .int .u8 0, .int .u8 0, .int .u8 0, .int .u8 0, .int .u8 0, .int .u8 0, .int .u8 0, .int .u8 0, .int .u8 0, .int .u8 0, .int .u8 0, .int .u8 0, .int .u8 0, .int .u8 0, .int .u8 0, .int .u8 0, .int .u8 0, .int .u8 0, .int .u8 0, .int .u8 0, .int .u8 0, .int .u8 0, .int .u8 0, .int .u8 0, .int .u8 0, .int .u8 0, .slice none 0 0] 67)).setRow wr.heap.size Y.toArray) = w6 at *
      generalize wr.heap.size = M at *
      clear HZ HG hpl0 hp1 HS
      have y36 := HY.cell 0 rfl 36 hY36
      have HY6 := Lib.hid' HY
      clear HY
      go_wp2_with fail
      go_loopw [84] (fun v84 wi => ∃ (j : Nat) (L2 : List It) (ia2 : Option Addr) (ic2 : Nat), v84 = .int .i64 j ∧ j ≤ ps.length ∧ Hid (ITS = L2 ++ (partItems n mk num j (ps.drop j) ++ planItems n mk (X.drop (k + 1)))) ∧ Hid (Sep w NoF [.box M Y 67, .row 70 4 (.slice ia2 L2.length ic2) L2.length (L2.flatMap itV), .box N8 (plV n bg mk ia2 L2.length ic2) 34, .box w.heap.size plZ 34] wi)) (fun v84 _ => ps.length - (intOf v84).toNat)
      case atStart => exact ⟨0, L, ia, ic, rfl, Nat.zero_le _, HI2, HY6⟩
      case round =>
        clear HY6 HI2 y36
        obtain ⟨j, L2, ia2, ic2, rfl, hj, HJ, HW⟩ := hrel
        by_cases hjl : j < ps.length
        rotate_left
        · obtain rfl : j = ps.length := by omega
          have HJ3 := Lib.hid' (show ITS = L2 ++ planItems n mk (X.drop (k + 1)) by rw [HJ.out, List.drop_length]; rfl)
          have HT3 := Lib.hid' (HW.out.drop 0)
          clear HJ HW
          go_wp2_with fail
          go_roundw
          case rel => exact ⟨k + 1, L2, ia2, ic2, by go_num, by omega, HJ3, HT3⟩
          case measure => simp [intOf]; omega
        obtain ⟨pb, po, rfl, hpb, hprg⟩ := PtsAt.at (HPS.out.below (Nat.le_refl _) HW.out.toBelow) HPO.out hjl
        have HG := Lib.hid' hprg
        have hpin := HPI.out _ (List.getElem_mem hjl)
        have hl35 := ptV_len (HPO.out _ (List.getElem_mem hjl))
        have HJ2 := Lib.hid' (HJ.out.trans (by rw [partItems_next hjl]))
        have hlen2 : L2.length + 1 ≤ 1073741824 + 1 := by
          have h1 := HJ.out
          have h2 : ITS.length ≤ 1073741824 := by omega
          rw [h1, List.length_append] at h2
          omega
        have hpz : (Tryz.prog.info? 69).map (·.size) = some (ptV ps[j]).length := by rw [hl35]; exact pt15_size
        have hpl0 : zeroPt.length = (ptV ps[j]).length := by rw [hl35]; rfl
        have hp1 : (ptV ps[j]).all (·.oneCell') = true := List.all_eq_true.2 ptV_one
        have hq0 : (ptV ps[j])[0]? = some (.int .i64 ps[j].f) := rfl
        have hq1 : (ptV ps[j])[1]? = some (.int .i64 ps[j].m) := rfl
        have HPA := Lib.hid' (run_end (n := n) (mk := mk) (num := num) (j := j) (x := ps[j]) hpin.1)
        clear hprg hl35 HJ
        generalize partItem n mk num j ps[j] = PI at *
        generalize ptV ps[j] = V at *
        generalize ps[j].f = pf at *
        generalize ps[j].m = pm at *
        have HZ : Sep w NoF [.box wr.heap.size zeroPt 69, .box M Y 67, .row 70 4 (.slice ia2 L2.length ic2) L2.length (L2.flatMap itV), .box N8 (plV n bg mk ia2 L2.length ic2) 34, .box w.heap.size plZ 34] (wr.alloc (.cells #[.int .i64 0, .int .i64 0, .int .i64 0, .int .u8 0, .int .u8 0, .int .u8 0, .int .u8 0, .int .u8 0, .int .u8 0, .int .u8 0, .int .u8 0, .int .u8 0, .int .u8 0, .int .u8 0, .int .u8 0, .int .u8 0, .int .u8 0, .int .u8 0, .int .u8 0, .int .u8 0, .int .u8 0, .int .u8 0, .int .u8 0, .int .u8 0, .int .u8 0, .int .u8 0, .int .u8 0, .int .u8 0, .int .u8 0, .int .u8 0, .int .u8 0, .int .u8 0, .int .u8 0, .int .u8 0, .int .u8 0] 69)) := HW.out.allocAt wr.heap.size zeroPt 69 rfl
        have HV := HZ.setRow 0 rfl V
        go_upto_region 20 with (first | (refine wpList_load_at HG.out rfl 69 (.tmp 87) rfl rfl _ Tryz.underlying69 rfl hpz ?_) | (refine Sep.storeB HZ 0 rfl rfl 69 (.tmp 13) (.tmp 88) rfl V rfl rfl hpz hpl0 hp1 ?_))
        generalize ((wr.alloc (.cells #[.int .i64 0, .int .i64 0, .int .i64 0, .int .u8 0, .int .u8 0, .int .u8 0, .int .u8 0, .int .u8 0, .int .u8 0, .int .u8 0, .int .u8 0, .int .u8 0, .int .u8 0, .int .u8 0, .int .u8 0, .int .u8 0, .int .u8 0, .int .u8 0, .int .u8 0, .int .u8 0, .int .u8 0, .int .u8 0, .int .u8 0, .int .u8 0, .int .u8 0, .int .u8 0, .int .u8 0, .int .u8 0, .int .u8 0, .int .u8 0, .int .u8 0, .int .u8 0, .int .u8 0, .int .u8 0, .int .u8 0] 69)).setRow wr.heap.size V.toArray) = w7 at *
        generalize wr.heap.size = Q at *
        clear HZ HG hpl0 hp1 HW
        have v0 := HV.cell 0 rfl 0 hq0
        have y0 := HV.cell 1 rfl 0 hY0
        have HT0 : Sep w NoF [.box w7.heap.size [.int .i64 0, .int .i64 0, .int .i64 0, .int .i64 0] 70, .box Q V 69, .box M Y 67, .row 70 4 (.slice ia2 L2.length ic2) L2.length (L2.flatMap itV), .box N8 (plV n bg mk ia2 L2.length ic2) 34, .box w.heap.size plZ 34] (w7.alloc (.cells #[.int .i64 0, .int .i64 0, .int .i64 0, .int .i64 0] 70)) := HV.allocAt w7.heap.size [.int .i64 0, .int .i64 0, .int .i64 0, .int .i64 0] 70 rfl
        have hz4 : (Tryz.prog.info? 70).map (·.size) = some [Value.int .i64 num, .int .i64 (j : Int), .int .i64 (-1), .int .i64 0].length := ri_size
        go_upto_region 21 with (refine Sep.storeB HT0 0 rfl rfl 70 (.tmp 14) (.tmp 92) rfl [.int .i64 num, .int .i64 (j : Int), .int .i64 (-1), .int .i64 0] rfl rfl hz4 rfl rfl ?_)
        have HT := HT0.setRow 0 rfl [.int .i64 num, .int .i64 (j : Int), .int .i64 (-1), .int .i64 0]
        generalize ((w7.alloc (.cells #[.int .i64 0, .int .i64 0, .int .i64 0, .int .i64 0] 70)).setRow w7.heap.size [.int .i64 num, .int .i64 (j : Int), .int .i64 (-1), .int .i64 0].toArray) = w8 at *
        generalize w7.heap.size = U at *
        clear HT0 HV v0 y0
        have v0 := HT.cell 1 rfl 0 hq0
        have hrs := run_start pf mk n
        have HT1 : Hid (Sep w NoF [.box U [.int .i64 num, .int .i64 (j : Int), .int .i64 (runF pf mk n pf), .int .i64 (runT pf mk n pf)] 70, .box Q V 69, .box M Y 67, .row 70 4 (.slice ia2 L2.length ic2) L2.length (L2.flatMap itV), .box N8 (plV n bg mk ia2 L2.length ic2) 34, .box w.heap.size plZ 34] w8) := Lib.hid' (by rw [hrs.1, hrs.2]; exact HT)
        clear HT hrs
        have hpw : IntKind.i64.wrap (pf + pm) = pf + pm := IntWalk.i64_in _ (by omega)
        go_wp2_with fail
        go_loopw [15] (fun v15 wi => ∃ ad : Int, v15 = .int .i64 ad ∧ pf ≤ ad ∧ ad ≤ pf + pm ∧ Hid (Sep w NoF [.box U [.int .i64 num, .int .i64 (j : Int), .int .i64 (runF pf mk n ad), .int .i64 (runT pf mk n ad)] 70, .box Q V 69, .box M Y 67, .row 70 4 (.slice ia2 L2.length ic2) L2.length (L2.flatMap itV), .box N8 (plV n bg mk ia2 L2.length ic2) 34, .box w.heap.size plZ 34] wi)) (fun v15 _ => (pf + pm - intOf v15).toNat)
        case atStart => exact ⟨pf, rfl, Int.le_refl _, by omega, HT1⟩
        case round =>
          clear HT1 v0
          obtain ⟨ad, rfl, had1, had2, HT⟩ := hrel
          have v0 := HT.out.cell 1 rfl 0 hq0
          have v1 := HT.out.cell 1 rfl 1 hq1
          have z2 := HT.out.cell 4 rfl 2 (v := .int .i64 mk) rfl
          by_cases hal : ad < pf + pm
          · have HK1 := Lib.hid' (fun h => @run_skip pf mk n ad h)
            have HK2 := Lib.hid' (fun h1 h2 h3 => @run_first pf mk n ad hpin.1 had1 h1 h2 h3)
            have HK3 := Lib.hid' (fun h1 h2 h3 => @run_more pf mk n ad had1 h1 h2 h3)
            have i2 := HT.out.cell 0 rfl 2 (v := .int .i64 (runF pf mk n ad)) rfl
            have i3 := HT.out.cell 0 rfl 3 (v := .int .i64 (runT pf mk n ad)) rfl
            have f2 := HT.out.free 0 rfl 2
            have f3 := HT.out.free 0 rfl 3
            have eaw : IntKind.i64.wrap (ad + 1) = ad + 1 := IntWalk.i64_in _ (by omega)
            generalize runF pf mk n ad = F at *
            generalize runT pf mk n ad = T at *
            by_cases h1 : ad < mk
            · have HK := HK1.out (.inl h1)
              have HT2 : Hid (Sep w NoF [.box U [.int .i64 num, .int .i64 (j : Int), .int .i64 (runF pf mk n (ad + 1)), .int .i64 (runT pf mk n (ad + 1))] 70, .box Q V 69, .box M Y 67, .row 70 4 (.slice ia2 L2.length ic2) L2.length (L2.flatMap itV), .box N8 (plV n bg mk ia2 L2.length ic2) 34, .box w.heap.size plZ 34] wr) := Lib.hid' (by rw [HK.1, HK.2]; exact HT.out)
              clear HK HK1 HK2 HK3 HT
              go_wp2_with fail
              go_roundw
              case rel => exact ⟨ad + 1, by rfl, by omega, by omega, HT2⟩
              case measure => simp [intOf]; omega
            by_cases h2 : n ≤ ad
            · have HK := HK1.out (.inr h2)
              have HT2 : Hid (Sep w NoF [.box U [.int .i64 num, .int .i64 (j : Int), .int .i64 (runF pf mk n (ad + 1)), .int .i64 (runT pf mk n (ad + 1))] 70, .box Q V 69, .box M Y 67, .row 70 4 (.slice ia2 L2.length ic2) L2.length (L2.flatMap itV), .box N8 (plV n bg mk ia2 L2.length ic2) 34, .box w.heap.size plZ 34] wr) := Lib.hid' (by rw [HK.1, HK.2]; exact HT.out)
              clear HK HK1 HK2 HK3 HT
              go_wp2_with fail
              go_roundw
              case rel => exact ⟨ad + 1, by rfl, by omega, by omega, HT2⟩
              case measure => simp [intOf]; omega
            by_cases h3 : F < 0
            · have HK := HK2.out (by omega) (by omega) h3
              have HT1 := (HT.out.set 0 rfl 2 (.int .i64 ad)).set 0 rfl 3 (.int .i64 (ad + 1))
              have HT2 : Hid (Sep w NoF [.box U [.int .i64 num, .int .i64 (j : Int), .int .i64 (runF pf mk n (ad + 1)), .int .i64 (runT pf mk n (ad + 1))] 70, .box Q V 69, .box M Y 67, .row 70 4 (.slice ia2 L2.length ic2) L2.length (L2.flatMap itV), .box N8 (plV n bg mk ia2 L2.length ic2) 34, .box w.heap.size plZ 34] _) := Lib.hid' (by rw [HK.1, HK.2]; exact HT1)
              clear HK HK1 HK2 HK3 HT HT1
              go_wp2_with fail
              go_roundw
              case rel => exact ⟨ad + 1, by rfl, by omega, by omega, HT2⟩
              case measure => simp [intOf]; omega
            · have HK := HK3.out (by omega) (by omega) h3
              have HT1 := HT.out.set 0 rfl 3 (.int .i64 (ad + 1))
              have HT2 : Hid (Sep w NoF [.box U [.int .i64 num, .int .i64 (j : Int), .int .i64 (runF pf mk n (ad + 1)), .int .i64 (runT pf mk n (ad + 1))] 70, .box Q V 69, .box M Y 67, .row 70 4 (.slice ia2 L2.length ic2) L2.length (L2.flatMap itV), .box N8 (plV n bg mk ia2 L2.length ic2) 34, .box w.heap.size plZ 34] _) := Lib.hid' (by rw [HK.1, HK.2]; exact HT1)
              clear HK HK1 HK2 HK3 HT HT1
              go_wp2_with fail
              go_roundw
              case rel => exact ⟨ad + 1, by rfl, by omega, by omega, HT2⟩
              case measure => simp [intOf]; omega
          obtain rfl : ad = pf + pm := by omega
          generalize runF pf mk n (pf + pm) = xa at *
          generalize runT pf mk n (pf + pm) = xb at *
          have HTT := HT.out
          have i0 := HTT.cell 0 rfl 0 (v := .int .i64 num) rfl
          have i1 := HTT.cell 0 rfl 1 (v := .int .i64 (j : Int)) rfl
          have i2 := HTT.cell 0 rfl 2 (v := .int .i64 xa) rfl
          have i3 := HTT.cell 0 rfl 3 (v := .int .i64 xb) rfl
          clear HT had1 had2 hal
          by_cases hx : 0 ≤ xa
          · have HJ3 := Lib.hid' (show ITS = (L2 ++ [⟨num, j, xa, xb⟩]) ++ (partItems n mk num (j + 1) (ps.drop (j + 1)) ++ planItems n mk (X.drop (k + 1))) by rw [HJ2.out, HPA.out, if_pos hx]; simp)
            have z3 := HTT.cell 4 rfl 3 (v := .slice ia2 L2.length ic2) rfl
            go_upto_region 29 with fail
            go_wp2_with (at_builtin; refine Sep.append etRIt rfl (.tmp 125) (.tmp 127) rfl [.int .i64 num, .int .i64 (j : Int), .int .i64 xa, .int .i64 xb] rfl HTT 3 rfl rfl rfl (by simp [Value.oneCell']) (by omega) ?_)
            intro a9 c9 w9 H9
            clear i0 i1 i2 i3 z3 HTT HJ2 HPA
            have z3 := H9.cell 4 rfl 3 (v := .slice ia2 L2.length ic2) rfl
            have zf := H9.free 4 rfl 3
            have H10 := H9.set 4 rfl 3 (.slice a9 (L2.length + 1) c9)
            have H11 : Sep w NoF [.box M Y 67, .row 70 4 (.slice a9 (L2.length + 1) c9) (L2.length + 1) (L2.flatMap itV ++ [.int .i64 num, .int .i64 (j : Int), .int .i64 xa, .int .i64 xb]), .box N8 (plV n bg mk a9 (L2.length + 1) c9) 34, .box w.heap.size plZ 34] (w9.setCell ⟨N8, 3, none⟩ (.slice a9 (L2.length + 1) c9)) :=
              ((((((H10.drop 2).drop 2).focus 3 rfl).focus 1 rfl).focus 2 rfl).focus 3 rfl)
            have e1 : (L2 ++ [(⟨num, j, xa, xb⟩ : It)]).length = L2.length + 1 := by simp
            have e2 : (L2 ++ [(⟨num, j, xa, xb⟩ : It)]).flatMap itV = L2.flatMap itV ++ [.int .i64 num, .int .i64 (j : Int), .int .i64 xa, .int .i64 xb] := by rw [List.flatMap_append]; rfl
            have H12 : Hid (∃ L3 : List It, ITS = L3 ++ (partItems n mk num (j + 1) (ps.drop (j + 1)) ++ planItems n mk (X.drop (k + 1))) ∧ Sep w NoF [.box M Y 67, .row 70 4 (.slice a9 L3.length c9) L3.length (L3.flatMap itV), .box N8 (plV n bg mk a9 L3.length c9) 34, .box w.heap.size plZ 34] (w9.setCell ⟨N8, 3, none⟩ (.slice a9 (L2.length + 1) c9))) :=
              Lib.hid' ⟨L2 ++ [⟨num, j, xa, xb⟩], HJ3.out, by rw [e1, e2]; exact H11⟩
            clear e1 e2 H11 H10 H9 HJ3
            go_wp2_with fail
            obtain ⟨L3, g1, g2⟩ := H12.out
            have g1' := Lib.hid' g1
            have g2' := Lib.hid' g2
            clear g1 g2 H12
            go_roundw
            case rel => exact ⟨j + 1, L3, a9, c9, by go_num, by omega, g1', g2'⟩
            case measure => simp [intOf]; omega
          · have HJ3 := Lib.hid' (show ITS = L2 ++ (partItems n mk num (j + 1) (ps.drop (j + 1)) ++ planItems n mk (X.drop (k + 1))) by rw [HJ2.out, HPA.out, if_neg hx]; simp)
            have HT3 := Lib.hid' ((HTT.drop 0).drop 0)
            clear HTT HJ2 HPA
            go_wp2_with fail
            go_roundw
            case rel => exact ⟨j + 1, L2, ia2, ic2, by go_num, by omega, HJ3, HT3⟩
            case measure => simp [intOf]; omega
end Go.Proofs.YtinbcehlpfnlaaaGreatDoor

namespace Go.Proofs.YtinbcehlpfnlaaaGreatDoor
open Go.RowKit
set_option linter.unusedSimpArgs false
set_option linter.unusedVariables false
set_option maxRecDepth 100000

def PDocR (q : Pln) (w : World) (en : Ending) (w' : World) : Prop :=
  ∃ a c, en = .returned (.agg (plV q.n q.b q.r a q.its.length c).toArray) ∧ SlV w' (.slice a q.its.length c) q.its.length (q.its.flatMap itV) ∧ Below w.heap.size w w'
set_option maxHeartbeats 16000000 in
theorem pdoc_any (q : Pln) (a : Option Addr) (c : Nat) (w : World) (h : SlV w (.slice a q.its.length c) q.its.length (q.its.flatMap itV)) (hl : q.its.length ≤ 1073741824) :
    Calls Tryz.prog 10 #[.agg (plV q.n q.b q.r a q.its.length c).toArray] w (PDocR q w) := by
  obtain ⟨qn, qb, qr, L⟩ := q
  simp only at h hl ⊢
  have HS := Lib.hid' h
  have HQ0 : ∀ e w', Hid (PDocR ⟨qn, qb, qr, L⟩ w e w') → PDocR ⟨qn, qb, qr, L⟩ w e w' := fun _ _ h => h.out
  have hzs : (Tryz.prog.info? 34).map (·.size) = some plZ.length := rpl_size
  clear h
  go_enter Tryz.func10, Tryz.ntmps10
  go_upto_region 1 with fail
  rw [show (#[.int .i64 0, .int .i64 0, .int .i64 0, .slice none 0 0] : Array Value) = plZ.toArray from rfl]
  have H0 : Sep w NoF [.box (w.heap.size + 1) plZ 34, .box w.heap.size (plV qn qb qr a L.length c) 27] ((w.alloc (.cells (plV qn qb qr a L.length c).toArray 27)).alloc (.cells plZ.toArray 34)) := ((Sep.start w).allocAt w.heap.size (plV qn qb qr a L.length c) 27 rfl).allocAt (w.heap.size + 1) plZ 34 (by simp)
  generalize (w.alloc (.cells (plV qn qb qr a L.length c).toArray 27)).alloc (.cells plZ.toArray 34) = w1 at *
  have x0 := H0.cell 1 rfl 0 (v := .int .i64 qn) rfl
  have x1 := H0.cell 1 rfl 1 (v := .int .i64 qb) rfl
  have x2 := H0.cell 1 rfl 2 (v := .int .i64 qr) rfl
  have HZ : Sep w NoF [.box w1.heap.size plZ 34, .box (w.heap.size + 1) plZ 34, .box w.heap.size (plV qn qb qr a L.length c) 27] (w1.alloc (.cells #[.int .i64 0, .int .i64 0, .int .i64 0, .slice none 0 0] 34)) := H0.allocAt w1.heap.size plZ 34 rfl
  go_upto_region 2 with (refine Sep.storeB HZ 0 rfl rfl 34 (.tmp 3) (.tmp 12) rfl (plV qn qb qr none 0 0) rfl rfl hzs rfl rfl ?_)
  have H5 : Sep w NoF [.row 70 4 (.slice none 0 0) 0 [], .box w1.heap.size (plV qn qb qr none 0 0) 34, .box (w.heap.size + 1) plZ 34, .box w.heap.size (plV qn qb qr a L.length c) 27] ((w1.alloc (.cells #[.int .i64 0, .int .i64 0, .int .i64 0, .slice none 0 0] 34)).setRow w1.heap.size (plV qn qb qr none 0 0).toArray) := (HZ.setRow 0 rfl (plV qn qb qr none 0 0)).nilRow 70 4
  generalize (w1.alloc (.cells #[.int .i64 0, .int .i64 0, .int .i64 0, .slice none 0 0] 34)).setRow w1.heap.size (plV qn qb qr none 0 0).toArray = w5 at *
  generalize w1.heap.size = N3 at *
  generalize hN2 : w.heap.size + 1 = N2 at *
  have HN2 := Lib.hid' hN2
  have x3 := H5.cell 3 rfl 3 (v := .slice a L.length c) rfl
  clear HZ H0 x0 x1 x2 hN2
  go_wp2_with fail
  go_loopw [16] (fun v16 wr => ∃ (k : Nat) (ia : Option Addr) (ic : Nat), v16 = .int .i64 k ∧ k ≤ L.length ∧ Hid (Sep w NoF [.row 70 4 (.slice ia k ic) k ((L.take k).flatMap itV), .box N3 (plV qn qb qr ia k ic) 34, .box N2 plZ 34, .box w.heap.size (plV qn qb qr a L.length c) 27] wr)) (fun v16 _ => L.length - (intOf v16).toNat)
  case atStart => exact ⟨0, none, 0, rfl, Nat.zero_le _, Lib.hid' H5⟩
  case round =>
    clear H5 x3
    obtain ⟨k, ia, ic, rfl, hk, HW⟩ := hrel
    by_cases hlt : k < L.length
    · have hlt' : (k : Int) < (L.length : Int) := by omega
      obtain ⟨bb, off, rfl, hbb, hrg⟩ := SlV.row (f := itV) (s := 4) (fun _ => rfl) (by decide) (HW.out.old0 HS.out) hlt
      have HT := Lib.hid' (show (L.take (k + 1)).flatMap itV = (L.take k).flatMap itV ++ itV L[k] by rw [List.take_succ_eq_append_getElem hlt, List.flatMap_append]; simp)
      have HG := Lib.hid' (show wr.rangeAt bb (off + k * 4) (itV L[k]) from hrg)
      clear hrg
      generalize L[k] = y at *
      obtain ⟨yn, yi, ya, yb⟩ := y
      have hiz : (Tryz.prog.info? 56).map (·.size) = some (itV ⟨yn, yi, ya, yb⟩).length := it_size
      have HZ : Sep w NoF [.box wr.heap.size [.int .i64 0, .int .i64 0, .int .i64 0, .int .i64 0] 56, .row 70 4 (.slice ia k ic) k ((L.take k).flatMap itV), .box N3 (plV qn qb qr ia k ic) 34, .box N2 plZ 34, .box w.heap.size (plV qn qb qr (some ⟨bb, off, none⟩) L.length c) 27] (wr.alloc (.cells #[.int .i64 0, .int .i64 0, .int .i64 0, .int .i64 0] 56)) := HW.out.allocAt wr.heap.size [.int .i64 0, .int .i64 0, .int .i64 0, .int .i64 0] 56 rfl
      have HY := HZ.setRow 0 rfl (itV ⟨yn, yi, ya, yb⟩)
      go_upto_region 5 with (first | (refine wpList_load_at HG.out rfl 56 (.tmp 18) rfl rfl _ Tryz.underlying56 rfl hiz ?_) | (refine Sep.storeB HZ 0 rfl rfl 56 (.tmp 5) (.tmp 19) rfl (itV ⟨yn, yi, ya, yb⟩) rfl rfl hiz rfl rfl ?_))
      generalize ((wr.alloc (.cells #[.int .i64 0, .int .i64 0, .int .i64 0, .int .i64 0] 56)).setRow wr.heap.size (itV ⟨yn, yi, ya, yb⟩).toArray) = w6 at *
      generalize wr.heap.size = M at *
      have HYY : Sep w NoF [.box M [.int .i64 yn, .int .i64 yi, .int .i64 ya, .int .i64 yb] 56, .row 70 4 (.slice ia k ic) k ((L.take k).flatMap itV), .box N3 (plV qn qb qr ia k ic) 34, .box N2 plZ 34, .box w.heap.size (plV qn qb qr (some ⟨bb, off, none⟩) L.length c) 27] w6 := HY
      clear HZ HG HW hiz HY
      have i0 := HYY.cell 0 rfl 0 (v := .int .i64 yn) rfl
      have i1 := HYY.cell 0 rfl 1 (v := .int .i64 yi) rfl
      have i2 := HYY.cell 0 rfl 2 (v := .int .i64 ya) rfl
      have i3 := HYY.cell 0 rfl 3 (v := .int .i64 yb) rfl
      have z3 := HYY.cell 2 rfl 3 (v := .slice ia k ic) rfl
      have hkb : k + 1 ≤ 1073741824 + 1 := by omega
      go_wp2_with (at_builtin; refine Sep.append etRIt rfl (.tmp 21) (.tmp 23) rfl [.int .i64 yn, .int .i64 yi, .int .i64 ya, .int .i64 yb] rfl HYY 1 rfl rfl rfl (by simp [Value.oneCell']) (by omega) ?_)
      intro a9 c9 w9 H9
      clear i0 i1 i2 i3 z3 HYY
      have z3 := H9.cell 2 rfl 3 (v := .slice ia k ic) rfl
      have zf := H9.free 2 rfl 3
      have H10 := H9.set 2 rfl 3 (.slice a9 (k + 1) c9)
      have H11 : Hid (Sep w NoF [.row 70 4 (.slice a9 (k + 1) c9) (k + 1) ((L.take (k + 1)).flatMap itV), .box N3 (plV qn qb qr a9 (k + 1) c9) 34, .box N2 plZ 34, .box w.heap.size (plV qn qb qr (some ⟨bb, off, none⟩) L.length c) 27] (w9.setCell ⟨N3, 3, none⟩ (.slice a9 (k + 1) c9))) :=
        Lib.hid' (by rw [HT.out]; exact ((H10.drop 2).focus 1 rfl))
      clear H10 H9 HT
      go_wp2_with fail
      go_roundw
      case rel => exact ⟨k + 1, a9, c9, by go_num, by omega, H11⟩
      case measure => simp [intOf]; omega
    · obtain rfl : k = L.length := by omega
      have HF := HW.out
      have hzq : (Tryz.prog.info? 34).map (·.size) = some (plV qn qb qr ia L.length ic).length := rpl_size
      clear HW hlt hk
      rw [List.take_length] at HF
      go_wp2_with (first | (refine Sep.loadB HF 1 rfl rfl 34 (.tmp 3) rfl rfl _ Tryz.underlying34 rfl hzq ?_) | (refine Sep.storeB HF 2 rfl rfl 34 (.tmp 2) (.tmp 27) rfl (plV qn qb qr ia L.length ic) rfl rfl hzq rfl rfl ?_))
      have H4 := HF.setRow 2 rfl (plV qn qb qr ia L.length ic)
      refine bodyPost_ret (box_result Tryz.results10 (H4.box 0 rfl) _ rfl _ Tryz.underlying34 rfl hzq) rfl ?_
      exact HQ0 _ _ (Lib.hid' ⟨ia, ic, rfl, SlV.of_own (H4.row 1 rfl), H4.toBelow⟩)
theorem eqRI (x : It) (w : World) : (Op.equalIn 10000 70 (.agg (itV x).toArray) (.agg (itV x).toArray)).run Tryz.prog w = .ok true w := by
  rw [run_equalIn_agg w 9999 70 _ _ (by kernel_rfl) (by kernel_rfl)]
  have hF : Tryz.prog.fieldsOf 70 = (match Tryz.prog.underlying 70 with | some (.struct fs) => fs | _ => #[]) := rfl
  rw [hF, Tryz.underlying70]
  have hi : ∀ a b : Int, (Op.equalIn 9999 3 (.int .i64 a) (.int .i64 b)).run Tryz.prog w = .ok (a == b) w := fun a b => run_equalIn_int w 9998 3 .i64 .i64 a b Tryz.underlying3
  refine Eq.trans (eqFields_cons (by decide) (part_one w Tryz.underlying3 rfl (toArr_get rfl)) (part_one w Tryz.underlying3 rfl (toArr_get rfl)) (hi x.n x.n)
    (eqFields_cons (by decide) (part_one w Tryz.underlying3 rfl (toArr_get rfl)) (part_one w Tryz.underlying3 rfl (toArr_get rfl)) (hi x.i x.i)
      (eqFields_cons (by decide) (part_one w Tryz.underlying3 rfl (toArr_get rfl)) (part_one w Tryz.underlying3 rfl (toArr_get rfl)) (hi x.a x.a)
        (eqFields_cons (by decide) (part_one w Tryz.underlying3 rfl (toArr_get rfl)) (part_one w Tryz.underlying3 rfl (toArr_get rfl)) (hi x.b x.b) (rfl : (Op.eqFields 9999 (itV x).toArray (itV x).toArray []).run Tryz.prog w = .ok true w))))) ?_
  refine congrArg (fun q => Result.ok q w) ?_
  simp
set_option maxHeartbeats 16000000 in
theorem psame_any21 (qn qb qr : Int) (L : List It) (a b : Option Addr) (c d : Nat) (w : World) (ha : SlV w (.slice a L.length c) L.length (L.flatMap itV)) (hb : SlV w (.slice b L.length d) L.length (L.flatMap itV)) (hl : L.length ≤ 1073741824) :
    Calls Tryz.prog 9 #[.agg (plV qn qb qr a L.length c).toArray, .agg (plV qn qb qr b L.length d).toArray] w fun e w' => e = .returned (.bool true) ∧ Below w.heap.size w w' := by
  have HA := Lib.hid' ha
  have HB := Lib.hid' hb
  clear ha hb
  go_enter Tryz.func9, Tryz.ntmps9
  go_upto_region 1 with fail
  have H0 : Sep w NoF [.box (w.heap.size + 1) (plV qn qb qr b L.length d) 34, .box w.heap.size (plV qn qb qr a L.length c) 34] ((w.alloc (.cells (plV qn qb qr a L.length c).toArray 34)).alloc (.cells (plV qn qb qr b L.length d).toArray 34)) := ((Sep.start w).allocAt w.heap.size (plV qn qb qr a L.length c) 34 rfl).allocAt (w.heap.size + 1) (plV qn qb qr b L.length d) 34 (by simp)
  generalize (w.alloc (.cells (plV qn qb qr a L.length c).toArray 34)).alloc (.cells (plV qn qb qr b L.length d).toArray 34) = w1 at *
  generalize hN3 : w.heap.size + 1 = N3 at *
  have HW := Lib.hid' H0.toBelow
  have HC := Lib.hid' (fun wq (hq : Below w1.heap.size w1 wq) => show wq.cell? ⟨w.heap.size, 3, none⟩ = some (.slice a L.length c) ∧ wq.cell? ⟨N3, 3, none⟩ = some (.slice b L.length d) from ⟨(H0.below hq).cell 1 rfl 3 rfl, (H0.below hq).cell 0 rfl 3 rfl⟩)
  have x0 := H0.cell 1 rfl 0 (v := .int .i64 qn) rfl
  have x1 := H0.cell 1 rfl 1 (v := .int .i64 qb) rfl
  have x2 := H0.cell 1 rfl 2 (v := .int .i64 qr) rfl
  have y0 := H0.cell 0 rfl 0 (v := .int .i64 qn) rfl
  have y1 := H0.cell 0 rfl 1 (v := .int .i64 qb) rfl
  have y2 := H0.cell 0 rfl 2 (v := .int .i64 qr) rfl
  obtain ⟨x3, y3⟩ := HC.out _ (Below.refl _ _)
  have HN3 := Lib.hid' hN3
  clear H0 hN3
  go_upto_region 3 with fail
  clear x0 x1 x2 y0 y1 y2
  go_wp2_with fail
  go_loopw [37] (fun v37 wr => ∃ k : Nat, v37 = .int .i64 k ∧ k ≤ L.length ∧ Hid (Below w1.heap.size w1 wr)) (fun v37 _ => L.length - (intOf v37).toNat)
  case atStart => exact ⟨0, rfl, Nat.zero_le _, Lib.hid' (Below.refl _ _)⟩
  case round =>
    clear x3 y3
    obtain ⟨k, rfl, hk, HR⟩ := hrel
    by_cases hlt : k < L.length
    · have hlt' : (k : Int) < (L.length : Int) := by omega
      have HBW := Lib.hid' (HW.out.trans (HR.out.mono HW.out.size))
      obtain ⟨ba, oa, rfl, hba, hra⟩ := SlV.row (f := itV) (s := 4) (fun _ => rfl) (by decide) (SlV.below HA.out (Nat.le_refl _) HBW.out) hlt
      obtain ⟨bb, ob, rfl, hbb, hrb⟩ := SlV.row (f := itV) (s := 4) (fun _ => rfl) (by decide) (SlV.below HB.out (Nat.le_refl _) HBW.out) hlt
      have HL := Lib.hid' (fun wq (hq : Below wr.heap.size wr wq) => HC.out wq (HR.out.trans (hq.mono HR.out.size)))
      have HRA := Lib.hid' (fun wq (hq : Below wr.heap.size wr wq) => World.rangeAt.below (show wr.rangeAt ba (oa + k * 4) (itV L[k]) from hra) hq)
      have HRB := Lib.hid' (fun wq (hq : Below wr.heap.size wr wq) => World.rangeAt.below (show wr.rangeAt bb (ob + k * 4) (itV L[k]) from hrb) hq)
      have HQ := fun wq => eqRI L[k] wq
      have hiz : (Tryz.prog.info? 70).map (·.size) = some (itV L[k]).length := ri_size
      clear hra hrb hba hbb
      generalize itV L[k] = Y at *
      go_upto_region 6 with fail
      refine startD (S := (fun w' => Below wr.heap.size wr w')) (by kernel_rfl) ((Below.refl _ _).drew) (fun hH0 => ?_)
      simp only [List.length_cons, List.length_nil, Nat.reduceAdd, List.replicate_succ, List.replicate_zero]
      refine takeD (i := 0) (d := 40) (v := .pointer (some ⟨w.heap.size, 3, none⟩)) rfl rfl (by kernel_rfl) (by kernel_rfl) (by kernel_rfl) (fun _ _ _ h => h) (yldV [(2, .pointer (some ⟨w.heap.size, 0, none⟩))] (by kernel_rfl) rfl (by kernel_rfl) ?_) hH0 ?_
      · intro w hSw; go_simp
      dsimp only [List.set_cons_zero, List.set_cons_succ]
      refine takeD (i := 1) (d := 41) (v := .slice (some ⟨ba, oa, none⟩) L.length c) rfl rfl (by kernel_rfl) (by kernel_rfl) (by kernel_rfl) (fun _ _ _ h => h) (yldV [(40, .pointer (some ⟨w.heap.size, 3, none⟩))] (by kernel_rfl) rfl (by kernel_rfl) ?_) hH0 ?_
      · intro w hSw; have q := (HL.out w hSw); obtain ⟨q0, q1⟩ := q; go_simp
      dsimp only [List.set_cons_zero, List.set_cons_succ]
      refine takeD (i := 2) (d := 42) (v := .int .i64 (k : Int)) rfl rfl (by kernel_rfl) (by kernel_rfl) (by kernel_rfl) (fun _ _ _ h => h) (yldV [(5, .int .i64 (k : Int))] (by kernel_rfl) rfl (by kernel_rfl) ?_) hH0 ?_
      · intro w hSw; go_simp
      dsimp only [List.set_cons_zero, List.set_cons_succ]
      refine takeD (i := 3) (d := 43) (v := .pointer (some ⟨ba, oa + k * 4, none⟩)) rfl rfl (by kernel_rfl) (by kernel_rfl) (by kernel_rfl) (fun _ _ _ h => h) (yldV [(41, .slice (some ⟨ba, oa, none⟩) L.length c), (42, .int .i64 (k : Int))] (by kernel_rfl) rfl (by kernel_rfl) ?_) hH0 ?_
      · intro w hSw; first | (go_simp; done) | (go_simp; intro hh; exfalso; omega) | (go_simp; omega)
      dsimp only [List.set_cons_zero, List.set_cons_succ]
      refine takeD (i := 4) (d := 44) (v := .agg Y.toArray) rfl rfl (by kernel_rfl) (by kernel_rfl) (by kernel_rfl) (fun _ _ _ h => h) (yieldsIf_load_mid (by kernel_rfl) 70 (.tmp 43) rfl ba (oa + k * 4) rfl Y _ (fun wq hb => HRA.out wq hb) Tryz.underlying70 rfl hiz) hH0 ?_
      dsimp only [List.set_cons_zero, List.set_cons_succ]
      refine takeD (i := 5) (d := 45) (v := .pointer (some ⟨N3, 3, none⟩)) rfl rfl (by kernel_rfl) (by kernel_rfl) (by kernel_rfl) (fun _ _ _ h => h) (yldV [(3, .pointer (some ⟨N3, 0, none⟩))] (by kernel_rfl) rfl (by kernel_rfl) ?_) hH0 ?_
      · intro w hSw; go_simp
      dsimp only [List.set_cons_zero, List.set_cons_succ]
      refine takeD (i := 6) (d := 46) (v := .slice (some ⟨bb, ob, none⟩) L.length d) rfl rfl (by kernel_rfl) (by kernel_rfl) (by kernel_rfl) (fun _ _ _ h => h) (yldV [(45, .pointer (some ⟨N3, 3, none⟩))] (by kernel_rfl) rfl (by kernel_rfl) ?_) hH0 ?_
      · intro w hSw; have q := (HL.out w hSw); obtain ⟨q0, q1⟩ := q; go_simp
      dsimp only [List.set_cons_zero, List.set_cons_succ]
      refine takeD (i := 7) (d := 47) (v := .int .i64 (k : Int)) rfl rfl (by kernel_rfl) (by kernel_rfl) (by kernel_rfl) (fun _ _ _ h => h) (yldV [(5, .int .i64 (k : Int))] (by kernel_rfl) rfl (by kernel_rfl) ?_) hH0 ?_
      · intro w hSw; go_simp
      dsimp only [List.set_cons_zero, List.set_cons_succ]
      refine takeD (i := 8) (d := 48) (v := .pointer (some ⟨bb, ob + k * 4, none⟩)) rfl rfl (by kernel_rfl) (by kernel_rfl) (by kernel_rfl) (fun _ _ _ h => h) (yldV [(46, .slice (some ⟨bb, ob, none⟩) L.length d), (47, .int .i64 (k : Int))] (by kernel_rfl) rfl (by kernel_rfl) ?_) hH0 ?_
      · intro w hSw; first | (go_simp; done) | (go_simp; intro hh; exfalso; omega) | (go_simp; omega)
      dsimp only [List.set_cons_zero, List.set_cons_succ]
      refine takeD (i := 9) (d := 49) (v := .agg Y.toArray) rfl rfl (by kernel_rfl) (by kernel_rfl) (by kernel_rfl) (fun _ _ _ h => h) (yieldsIf_load_mid (by kernel_rfl) 70 (.tmp 48) rfl bb (ob + k * 4) rfl Y _ (fun wq hb => HRB.out wq hb) Tryz.underlying70 rfl hiz) hH0 ?_
      dsimp only [List.set_cons_zero, List.set_cons_succ]
      refine takeD (i := 10) (d := 50) (v := .bool false) rfl rfl (by kernel_rfl) (by kernel_rfl) (by kernel_rfl) (fun _ _ _ h => h) (yldV [(44, .agg Y.toArray), (49, .agg Y.toArray)] (by kernel_rfl) rfl (by kernel_rfl) ?_) hH0 ?_
      · intro w hSw; go_simp
      dsimp only [List.set_cons_zero, List.set_cons_succ]
      refine wpAnyH_done (by kernel_rfl) ?_ _
      have HBE := Lib.hid' (HR.out.trans (Below.mono hH0 HR.out.size))
      clear HQ
      go_wp2_with fail
      go_roundw
      case rel => exact ⟨k + 1, by go_num, by omega, HBE⟩
      case measure => simp [intOf]; omega
    · obtain rfl : k = L.length := by omega
      clear hlt hk
      go_wp2_with fail
      go_ret
      exact ⟨rfl, HW.out.trans (HR.out.mono HW.out.size)⟩
/-- where manifests begin and end -/
theorem own_zero {w : World} {B e size n : Nat} {v : Value} {xs : List Value} (h : w.ownsRow B e size v n xs) : w.ownsRow 0 e size v n xs := by
  refine ⟨h.1, ?_⟩
  rcases h.2 with h2 | ⟨g, cap, cur, h1, h2, h3⟩
  · exact .inl h2
  · exact .inr ⟨g, cap, cur, h1, Nat.zero_le _, h3⟩
def ends (X : List MfP) : List Int := X.flatMap (fun m => [m.1.f, m.1.t])
def pointsM (X : List MfP) : List Int := unitsOf (ends X)
theorem ends_len (X : List MfP) : (ends X).length = X.length * 2 := by
  unfold ends
  induction X with
  | nil => rfl
  | cons x X ih => rw [List.flatMap_cons, List.length_append, ih]; simp; omega
theorem points_mem {X : List MfP} {z : Int} : z ∈ pointsM X ↔ ∃ m ∈ X, z = m.1.f ∨ z = m.1.t := by
  unfold pointsM unitsOf
  rw [dedS_mem, (sortI_perm _).mem_iff]
  unfold ends
  simp [List.mem_flatMap]
theorem points_rise (X : List MfP) : (pointsM X).Pairwise (· < ·) := dedS_rise _ (sortI_sorted _)
theorem etInt21 : ElemT Tryz.prog 42 3 1 8 := ElemT.mk' (z := .int .i64 0) Tryz.underlying42 (by kernel_rfl) rfl (by decide) (by decide)
def PtsR (X : List MfP) (w : World) (en : Ending) (w' : World) : Prop := ∃ a c, en = .returned (.slice a (pointsM X).length c) ∧ SlV w' (.slice a (pointsM X).length c) (pointsM X).length (zVs (pointsM X)) ∧ Below w.heap.size w w'
set_option maxHeartbeats 16000000 in
theorem points_any (X : List MfP) (a : Option Addr) (c : Nat) (w : World) (h : MsAt w a c X) (hl : X.length ≤ 12) :
    Calls Tryz.prog 12 #[.slice a X.length c] w (PtsR X w) := by
  have HX := Lib.hid' h
  have HQ0 : ∀ e w', Hid (PtsR X w e w') → PtsR X w e w' := fun _ _ h => h.out
  clear h
  go_enter Tryz.func12, Tryz.ntmps12
  have H0 : Sep w NoF [.row 3 1 (.slice none 0 0) 0 []] w := (Sep.start w).nilRow 3 1
  go_wp2_with fail
  go_loopw [8, 3] (fun v8 v3 wr => ∃ (k : Nat) (b : Option Addr) (d : Nat), v8 = .int .i64 (k : Nat) ∧ v3 = .slice b (k * 2) d ∧ k ≤ X.length ∧ Hid (Sep w NoF [.row 3 1 (.slice b (k * 2) d) (k * 2) (zVs (ends (X.take k)))] wr)) (fun v8 _ _ => X.length - (intOf v8).toNat)
  case atStart => exact ⟨0, none, 0, rfl, rfl, Nat.zero_le _, Lib.hid' H0⟩
  case round =>
    clear H0
    obtain ⟨k, b, d, rfl, rfl, hk, HS⟩ := hrel
    by_cases hlt : k < X.length
    · have hlt' : (k : Int) < (X.length : Int) := by omega
      have HXr := Lib.hid' (HX.out.below (Nat.le_refl _) HS.out.toBelow)
      obtain ⟨ba, oa, rfl, hba, hra⟩ := MsAt.at HXr.out hlt
      have ox := HX.out.ok _ (List.getElem_mem hlt)
      have HT := Lib.hid' (show zVs (ends (X.take (k + 1))) = zVs (ends (X.take k)) ++ [.int .i64 X[k].1.f, .int .i64 X[k].1.t] by
        rw [List.take_succ_eq_append_getElem hlt]; unfold ends zVs; rw [List.flatMap_append, List.map_append]; simp)
      clear HXr
      generalize X[k] = xp at *
      obtain ⟨x, pa, pc⟩ := xp
      replace hra : wr.rangeAt ba (oa + k * 37) (mfV x pa pc) := hra
      have hzm : (Tryz.prog.info? 48).map (·.size) = some (mfV x pa pc).length := by rw [mfV_len ox]; exact mf_size
      have hz2 : zeroMV.length = (mfV x pa pc).length := by rw [mfV_len ox]; rfl
      have hone : (mfV x pa pc).all (·.oneCell') = true := List.all_eq_true.2 mfV_one
      have hY1 : (mfV x pa pc)[1]? = some (.int .i64 x.f) := rfl
      have hY2 : (mfV x pa pc)[2]? = some (.int .i64 x.t) := rfl
      have HZ : Sep w NoF [.box wr.heap.size zeroMV 48, .row 3 1 (.slice b (k * 2) d) (k * 2) (zVs (ends (X.take k)))] (wr.alloc (.cells #[.int .i64 0, .int .i64 0, .int .i64 0, .int .i64 0, .int .u8 0, .int .u8 0, .int .u8 0, .int .u8 0, .int .u8 0, .int .u8 0, .int .u8 0, .int .u8 0, .int .u8 0, .int .u8 0, .int .u8 0, .int .u8 0, .int .u8 0, .int .u8 0, .int .u8 0, .int .u8 0, .int .u8 0, .int .u8 0, .int .u8 0, .int .u8 0, .int .u8 0, .int .u8 0, .int .u8 0, .int .u8 0, .int .u8 0, .int .u8 0, .int .u8 0, .int .u8 0, .int .u8 0, .int .u8 0, .int .u8 0, .int .u8 0, .slice none 0 0] 48)) := HS.out.allocAt wr.heap.size zeroMV 48 rfl
      have HB := HZ.setRow 0 rfl (mfV x pa pc)
      replace HT : Hid (zVs (ends (X.take (k + 1))) = zVs (ends (X.take k)) ++ [.int .i64 x.f, .int .i64 x.t]) := HT
      clear ox hba HS
      generalize mfV x pa pc = PX at *
      generalize x.f = xf at *
      generalize x.t = xt at *
      go_upto_region 5 with (first | (refine wpList_load_at hra rfl 48 (.tmp 10) rfl rfl _ Tryz.underlying48 rfl hzm ?_) | (refine Sep.storeB HZ 0 rfl rfl 48 (.tmp 5) (.tmp 11) rfl PX rfl rfl hzm hz2 hone ?_))
      generalize (wr.alloc (.cells #[.int .i64 0, .int .i64 0, .int .i64 0, .int .i64 0, .int .u8 0, .int .u8 0, .int .u8 0, .int .u8 0, .int .u8 0, .int .u8 0, .int .u8 0, .int .u8 0, .int .u8 0, .int .u8 0, .int .u8 0, .int .u8 0, .int .u8 0, .int .u8 0, .int .u8 0, .int .u8 0, .int .u8 0, .int .u8 0, .int .u8 0, .int .u8 0, .int .u8 0, .int .u8 0, .int .u8 0, .int .u8 0, .int .u8 0, .int .u8 0, .int .u8 0, .int .u8 0, .int .u8 0, .int .u8 0, .int .u8 0, .int .u8 0, .slice none 0 0] 48)).setRow wr.heap.size PX.toArray = w5 at *
      generalize wr.heap.size = N5 at *
      have i1 := HB.cell 0 rfl 1 hY1
      have i2 := HB.cell 0 rfl 2 hY2
      have HA := HB.allocAt w5.heap.size [.int .i64 xf, .int .i64 xt] 3 rfl
      have hsv := slv_box (HA.box 0 rfl) 0 [.int .i64 xf, .int .i64 xt] 2 (by decide) (fun j u hu => by rw [Nat.zero_add]; exact hu)
      go_wp2_with (at_builtin; refine Sep.appendSl etInt21 rfl (.tmp 12) (.tmp 17) rfl HA 2 rfl rfl 2 [.int .i64 xf, .int .i64 xt] _ rfl hsv rfl (by simp [Value.oneCell']) (by omega) ?_)
      intro a9 c9 w9 H9
      have H11 : Hid (Sep w NoF [.row 3 1 (.slice a9 ((k + 1) * 2) c9) ((k + 1) * 2) (zVs (ends (X.take (k + 1))))] w9) := Lib.hid' (by
        rw [HT.out, show (k + 1) * 2 = k * 2 + 2 by omega]; exact (H9.drop 1).drop 1)
      clear H9 HA hsv HB i1 i2 HZ hra hzm hz2 hone HT
      go_wp2_with fail
      go_roundw
      case rel => exact ⟨k + 1, a9, c9, by go_num, by rw [show (k + 1) * 2 = k * 2 + 2 by omega], by omega, H11⟩
      case measure => simp [intOf]; omega
    · obtain rfl : k = X.length := by omega
      have H5 := HS.out
      rw [List.take_length] at H5
      clear hlt hk HS
      obtain ⟨E, hE⟩ : ∃ E, E = ends X := ⟨_, rfl⟩
      have hEl : X.length * 2 = E.length := by rw [hE, ends_len]
      have HPE := Lib.hid' (show pointsM X = dedS (sortI E) by unfold pointsM unitsOf; rw [hE])
      rw [← hE, hEl] at H5
      rw [hEl]
      have hE24 : E.length ≤ 1099511627776 := by omega
      have HSO := Lib.hid' (sortZ_any E b d wr (H5.own 0 rfl) hE24)
      clear hE hEl
      go_upto_region 8 with (go_at_call 21; (with_reducible refine HSO.out.mono ?_); rintro e0 w6 ⟨rfl, ho6, hf6⟩)
      have H6 : Sep w NoF [.row 3 1 (.slice b E.length d) E.length (zVs (sortI E))] w6 := H5.fr1 hf6 (own_zero ho6) (fun q hq => .inr hq)
      have hsl : (sortI E).length = E.length := List.length_mergeSort _
      have HCO := Lib.hid' (compactZ_any (sortI E) b d w6 (by rw [hsl]; exact ho6) (by rw [hsl]; exact hE24))
      rw [hsl] at HCO
      clear HSO H5 ho6 hf6
      go_wp2_with (go_at_call 22; (with_reducible refine HCO.out.mono ?_); rintro e0 w7 hcr; obtain ⟨rfl, ho7, hf7⟩ := hcr)
      have H7 : Sep w NoF [.row 3 1 (.slice b (dedS (sortI E)).length d) (dedS (sortI E)).length (zVs (dedS (sortI E)))] w7 := H6.fr1 (hf7.mono (fun k hk => by cases b <;> exact hk)) (own_zero ho7) (fun q hq => .inr (by cases b <;> exact hq))
      go_ret
      refine HQ0 _ _ (Lib.hid' ⟨b, d, ?_, ?_, H7.toBelow⟩)
      · rw [HPE.out]; rfl
      · rw [HPE.out]; exact SlV.of_own (H7.row 0 rfl)
end Go.Proofs.YtinbcehlpfnlaaaGreatDoor

namespace Go.Proofs.YtinbcehlpfnlaaaGreatDoor
open Go.RowKit
set_option linter.unusedSimpArgs false
set_option linter.unusedVariables false
set_option maxRecDepth 100000

theorem last_congr {X Y : List MfP} (h : Y.map (·.1) = X.map (·.1)) : (lastM Y).1 = (lastM X).1 := by
  have hl : Y.length = X.length := by have := congrArg List.length h; simpa using this
  rcases Nat.eq_zero_or_pos X.length with h0 | h0
  · rw [lastM_nil h0, lastM_nil (by omega)]
  · obtain ⟨n, hn⟩ : ∃ n, X.length = n + 1 := ⟨X.length - 1, by omega⟩
    rw [lastM_in hn, lastM_in (show Y.length = n + 1 by omega)]
    have h1 : (Y.map (·.1))[n]? = (X.map (·.1))[n]? := by rw [h]
    rw [List.getElem?_map, List.getElem?_map, List.getElem?_eq_getElem (by omega), List.getElem?_eq_getElem (by omega)] at h1
    simpa using h1
theorem chk_congr : ∀ {X Y A B : List MfP}, Y.map (·.1) = X.map (·.1) → A.length = B.length → (lastM A).1 = (lastM B).1 → chk A Y = chk B X
  | [], [], A, B, _, h1, _ => by simp [chk, h1]
  | x :: X, [], _, _, h, _, _ => by simp at h
  | [], y :: Y, _, _, h, _, _ => by simp at h
  | x :: X, y :: Y, A, B, h, h1, h2 => by
    simp only [List.map_cons, List.cons.injEq] at h
    unfold chk
    rw [h.1, h1, fol_congr h1 h2, chk_congr (A := A ++ [y]) (B := B ++ [x]) h.2 (by simp [h1]) (by rw [last_snoc, last_snoc, h.1])]
theorem find_congr (n : Int) : ∀ {X Y : List MfP}, Y.map (·.1) = X.map (·.1) → ((Y.find? (fun m => decide (n ≤ m.1.t))).getD zeroMP).1 = ((X.find? (fun m => decide (n ≤ m.1.t))).getD zeroMP).1
  | [], [], _ => rfl
  | x :: X, [], h => by simp at h
  | [], y :: Y, h => by simp at h
  | x :: X, y :: Y, h => by
    simp only [List.map_cons, List.cons.injEq] at h
    by_cases hc : n ≤ x.1.t
    · rw [List.find?_cons_of_pos (by simpa [h.1] using hc), List.find?_cons_of_pos (by simpa using hc)]; exact h.1
    · rw [List.find?_cons_of_neg (by simpa [h.1] using hc), List.find?_cons_of_neg (by simpa using hc)]; exact find_congr n h.2
theorem items_congr (n mk : Int) : ∀ {X Y : List MfP}, Y.map (·.1) = X.map (·.1) → planItems n mk Y = planItems n mk X
  | [], [], _ => rfl
  | x :: X, [], h => by simp at h
  | [], y :: Y, h => by simp at h
  | x :: X, y :: Y, h => by
    simp only [List.map_cons, List.cons.injEq] at h
    have ih := items_congr n mk h.2
    unfold planItems at ih ⊢
    rw [List.flatMap_cons, List.flatMap_cons, ih, h.1]
theorem planOf_congr {X Y : List MfP} (n : Int) (h : Y.map (·.1) = X.map (·.1)) : planOf Y n = planOf X n := by
  have hl : Y.length = X.length := by have := congrArg List.length h; simpa using this
  have hc : chkM Y = chkM X := chk_congr h rfl rfl
  have hb : beginM Y = beginM X := by
    cases X with
    | nil => cases Y with
      | nil => rfl
      | cons y Y => simp at h
    | cons x X => cases Y with
      | nil => simp at h
      | cons y Y => simp only [List.map_cons, List.cons.injEq] at h; show y.1.f = x.1.f; rw [h.1]
  have hm : markAt Y n = markAt X n := by unfold markAt; rw [find_congr n h]
  unfold planOf
  rw [hl, hc, hb, last_congr h, hm, items_congr n _ h]
theorem longM_12 {X : List MfP} (h : longM X = false) : X.length ≤ 12 ∧ ∀ x ∈ X, x.1.ps.length ≤ 12 := by
  unfold longM at h
  rw [Bool.or_eq_false_iff] at h
  refine ⟨by have := h.2; simp at this; omega, fun x hx => ?_⟩
  have := List.any_eq_false.1 h.1 x hx
  simp at this; omega
theorem parts12 (n mk num : Int) : ∀ (L : List Pt) (i : Nat), (partItems n mk num i L).length ≤ L.length := fun L i => partItems_len n mk num L i
theorem items12 (n mk : Int) : ∀ (X : List MfP), (∀ m ∈ X, m.1.ps.length ≤ 12) → (planItems n mk X).length ≤ 12 * X.length
  | [], _ => Nat.le_refl _
  | x :: X, h => by
    have h1 := h x List.mem_cons_self
    have h2 := partItems_len n mk x.1.n x.1.ps 0
    have h3 := items12 n mk X (fun m hm => h m (List.mem_cons_of_mem _ hm))
    show (partItems n mk x.1.n 0 x.1.ps ++ planItems n mk X).length ≤ _
    rw [List.length_append, List.length_cons]; omega
theorem plan12 {X : List MfP} (n : Int) (h : X.length ≤ 12 ∧ ∀ m ∈ X, m.1.ps.length ≤ 12) : (planOf X n).2.its.length ≤ 1073741824 := by
  have h1 := items12 n (markAt X n) X h.2
  unfold planOf
  split
  · exact Nat.zero_le _
  · split
    · exact Nat.zero_le _
    · split
      · exact Nat.zero_le _
      · show (planItems n (markAt X n) X).length ≤ _
        omega
theorem z_at {w : World} {a : Option Addr} {c : Nat} {l : List Int} (h : SlV w (.slice a l.length c) l.length (zVs l)) {k : Nat} (hk : k < l.length) :
    ∃ b off, a = some ⟨b, off, none⟩ ∧ b < w.heap.size ∧ ∀ (j : Nat) (hj : j < l.length), w.cell? ⟨b, off + j, none⟩ = some (.int .i64 l[j]) := by
  obtain ⟨b, off, he, hb, hc⟩ := SlV.addr h (by intro e; have h2 := congrArg List.length e; unfold zVs at h2; rw [List.length_map] at h2; have h3 : l.length = 0 := h2; omega)
  exact ⟨b, off, he, hb, fun j hj => hc j _ (by unfold zVs; rw [List.getElem?_map, List.getElem?_eq_getElem hj]; rfl)⟩
theorem any_snoc {α : Type} (f : α → Bool) {l : List α} {k : Nat} (hk : k < l.length) : (l.take (k + 1)).any f = ((l.take k).any f || f l[k]) := by
  rw [List.take_succ_eq_append_getElem hk, List.any_append]; simp
set_option maxHeartbeats 32000000 in
theorem planOf_any (HSum : RSumLaw) (X : List MfP) (a : Option Addr) (c : Nat) (n : Int) (w : World) (hX : MsAt w a c X) (hL : Laid w) (hn : IR n) :
    Calls Tryz.prog 3 #[.slice a X.length c, .int .i64 n] w fun e w' => e = .returned (.bool true) ∧ Below w.heap.size w w' := by
  have hlen := hX.len
  have HAL := Lib.hid' (alive21_any w hL)
  have HLG := Lib.hid' (fun w1 (H : Below w.heap.size w w1) => long16_any X a c w1 (hX.below (Nat.le_refl _) H))
  have HX := Lib.hid' hX
  have HPL := Lib.hid' (fun (hxl : X.length ≤ 1048576) w1 (H : Below w.heap.size w w1) => plan_any X a c n w1 (hX.below (Nat.le_refl _) H) (hL.below (Nat.le_refl _) H) hxl hn)
  have HSU := Lib.hid' HSum
  have HN := Lib.hid' hn
  clear hX hL HSum hn
  go_enter Tryz.func3, Tryz.ntmps3
  go_upto_region 3 with (go_at_call 4; (with_reducible refine HAL.out.mono ?_); rintro e w1 ⟨rfl, hb1⟩)
  have HLG1 := Lib.hid' (HLG.out w1 hb1)
  cases hlg : longM X with
  | true =>
    rw [hlg] at HLG1
    go_wp2_with (go_at_call 5; (with_reducible refine HLG1.out.mono ?_); rintro e w2 ⟨rfl, hb2⟩; have HB2 := Lib.hid' (hb1.trans (hb2.mono hb1.size)))
    go_ret
    exact ⟨rfl, HB2.out⟩
  | false =>
  rw [hlg] at HLG1
  have HL12 := Lib.hid' (longM_12 hlg)
  have hx12 := HL12.out.1
  clear hlg
  go_upto_region 5 with (go_at_call 5; (with_reducible refine HLG1.out.mono ?_); rintro e w2 ⟨rfl, hb2⟩; have HB2 := Lib.hid' (hb1.trans (hb2.mono hb1.size)))
  have HPL2 := Lib.hid' (HPL.out (by omega) w2 HB2.out)
  have hq12 := plan12 n HL12.out
  have HRL := Lib.hid' (fun (Y : List MfP) (hym : Y.map (·.1) = X.map (·.1)) (b : Option Addr) (d : Nat) (w1 : World) (hY : MsAt w1 b d Y) => show Calls Tryz.prog 7 #[.slice b X.length d, .int .i64 n] w1 (RPlanR (planOf X n) w1) from by
    have hl : Y.length = X.length := by have := congrArg List.length hym; simpa using this
    have h := rplan_any HSU.out Y b d n w1 hY (by omega) HN.out
    rw [planOf_congr n hym, hl] at h
    exact h)
  have HDO := Lib.hid' (fun w1 (H : Below w.heap.size w w1) => documents_any X a c w1 (HX.out.below (Nat.le_refl _) H) HL12.out.1 HL12.out.2)
  clear hb1 hb2 HLG HLG1 HAL HPL HL12 HN
  generalize planOf X n = q at *
  obtain ⟨q1, qn, qb, qr, L⟩ := q
  simp only at hq12
  have hzp : ∀ pa pc, (Tryz.prog.info? 27).map (·.size) = some (plV qn qb qr pa L.length pc).length := fun _ _ => pl_size
  have hzr : ∀ pa pc, (Tryz.prog.info? 34).map (·.size) = some (plV qn qb qr pa L.length pc).length := fun _ _ => rpl_size
  go_upto_region 6 with (first | (go_at_call 6; (with_reducible refine HPL2.out.mono ?_); intro e w3 hpr; obtain ⟨pa, pc, rfl, hps, hb3⟩ := hpr; have HD : Sep w2 NoF [.box w3.heap.size plZ 27] (w3.alloc (.cells #[.int .i64 0, .int .i64 0, .int .i64 0, .slice none 0 0] 27)) := (Sep.nof hb3).allocAt w3.heap.size plZ 27 rfl) | (refine Sep.storeB HD 0 rfl rfl 27 (.tmp 5) (.tmp 29) rfl (plV qn qb qr pa L.length pc) rfl rfl (hzp pa pc) rfl rfl ?_))
  have H1 := HD.setRow 0 rfl (plV qn qb qr pa L.length pc)
  have HP1 := Lib.hid' (show ∀ w', Below ((w3.alloc (.cells #[.int .i64 0, .int .i64 0, .int .i64 0, .slice none 0 0] 27)).setRow w3.heap.size (plV qn qb qr pa L.length pc).toArray).heap.size ((w3.alloc (.cells #[.int .i64 0, .int .i64 0, .int .i64 0, .slice none 0 0] 27)).setRow w3.heap.size (plV qn qb qr pa L.length pc).toArray) w' → SlV w' (.slice pa L.length pc) L.length (L.flatMap itV) from fun w' hb =>
    SlV.below hps (Nat.le_refl _) (((Sep.start w3).allocAt w3.heap.size plZ 27 rfl).setRow 0 rfl (plV qn qb qr pa L.length pc)).toBelow |>.below (Nat.le_refl _) hb)
  generalize (w3.alloc (.cells #[.int .i64 0, .int .i64 0, .int .i64 0, .slice none 0 0] 27)).setRow w3.heap.size (plV qn qb qr pa L.length pc).toArray = w4 at *
  generalize w3.heap.size = N5 at *
  have HB4 := Lib.hid' (HB2.out.trans (H1.toBelow.mono HB2.out.size))
  have HDO4 := Lib.hid' (HDO.out _ HB4.out)
  clear HD hb3 hps HPL2 HDO
  go_upto_region 7 with (first | (go_at_call 8; (with_reducible refine HDO4.out.mono ?_); intro e w5 hdr; obtain ⟨yb, yd, Y, rfl, hym, hya, hb5⟩ := hdr; have HRL5 := Lib.hid' (HRL.out Y hym yb yd w5 hya); have H5 := H1.below hb5; clear hym hya HRL) | (go_at_call 7; (with_reducible refine HRL5.out.mono ?_); intro e w6 hrr; obtain ⟨ra, rc, rfl, hrs, hb6⟩ := hrr; have HD : Sep w2 NoF [.box w6.heap.size plZ 34, .box N5 (plV qn qb qr pa L.length pc) 27] (w6.alloc (.cells #[.int .i64 0, .int .i64 0, .int .i64 0, .slice none 0 0] 34)) := (H5.below hb6).allocAt w6.heap.size plZ 34 rfl) | (refine Sep.storeB HD 0 rfl rfl 34 (.tmp 7) (.tmp 36) rfl (plV qn qb qr ra L.length rc) rfl rfl (hzr ra rc) rfl rfl ?_))
  have H7 := HD.setRow 0 rfl (plV qn qb qr ra L.length rc)
  have h47 : Below w4.heap.size w4 ((w6.alloc (.cells #[.int .i64 0, .int .i64 0, .int .i64 0, .slice none 0 0] 34)).setRow w6.heap.size (plV qn qb qr ra L.length rc).toArray) := (((Sep.nof hb5).below hb6).allocAt w6.heap.size plZ 34 rfl |>.setRow 0 rfl (plV qn qb qr ra L.length rc)).toBelow
  have HP7 := Lib.hid' (show ∀ w', Below ((w6.alloc (.cells #[.int .i64 0, .int .i64 0, .int .i64 0, .slice none 0 0] 34)).setRow w6.heap.size (plV qn qb qr ra L.length rc).toArray).heap.size ((w6.alloc (.cells #[.int .i64 0, .int .i64 0, .int .i64 0, .slice none 0 0] 34)).setRow w6.heap.size (plV qn qb qr ra L.length rc).toArray) w' → SlV w' (.slice pa L.length pc) L.length (L.flatMap itV) ∧ SlV w' (.slice ra L.length rc) L.length (L.flatMap itV) from fun w' hb =>
    ⟨HP1.out _ (h47.trans (hb.mono h47.size)), SlV.below hrs (Nat.le_refl _) (((Sep.start w6).allocAt w6.heap.size plZ 34 rfl).setRow 0 rfl (plV qn qb qr ra L.length rc)).toBelow |>.below (Nat.le_refl _) hb⟩)
  generalize (w6.alloc (.cells #[.int .i64 0, .int .i64 0, .int .i64 0, .slice none 0 0] 34)).setRow w6.heap.size (plV qn qb qr ra L.length rc).toArray = w7 at *
  generalize w6.heap.size = N7 at *
  have HB7 := Lib.hid' (HB2.out.trans (H7.toBelow.mono HB2.out.size))
  have HR5 := Lib.hid' (fun wq (hb : Below w7.heap.size w7 wq) => World.rangeAt.below (H7.box 1 rfl).range hb)
  have HR7 := Lib.hid' (fun wq (hb : Below w7.heap.size w7 wq) => World.rangeAt.below (H7.box 0 rfl).range hb)
  have HDC := Lib.hid' (fun wq (hb : Below w7.heap.size w7 wq) => show Calls Tryz.prog 10 #[.agg (plV qn qb qr pa L.length pc).toArray] wq (PDocR ⟨qn, qb, qr, L⟩ wq) from pdoc_any ⟨qn, qb, qr, L⟩ pa pc wq (HP7.out wq hb).1 hq12)
  have HSA := Lib.hid' (fun wq (hb : Below w7.heap.size w7 wq) (da : Option Addr) (dc : Nat) (hs : SlV wq (.slice da L.length dc) L.length (L.flatMap itV)) => psame_any21 qn qb qr L da ra dc rc wq hs (HP7.out wq hb).2 hq12)
  have hz5 := hzp pa pc
  have hz7 := hzr ra rc
  clear HD hb5 hb6 hrs H5 H1 HP1 HP7 h47 HRL5 HDO4 HB4 HB2 H7 hzp hzr
  generalize plV qn qb qr pa L.length pc = PP at *
  generalize hRR : plV qn qb qr ra L.length rc = RR at *
  have HRR := Lib.hid' hRR
  clear hRR
  refine startD (S := (fun w' => Below w7.heap.size w7 w')) (by kernel_rfl) ((Below.refl _ _).drew) (fun hH0 => ?_)
  simp only [List.length_cons, List.length_nil, Nat.reduceAdd, List.replicate_succ, List.replicate_zero]
  refine takeD (i := 0) (d := 38) (v := .agg PP.toArray) rfl rfl (by kernel_rfl) (by kernel_rfl) (by kernel_rfl) (fun _ _ _ h => h) (yieldsIf_load_mid (by kernel_rfl) 27 (.tmp 5) rfl N5 0 rfl PP _ (fun wq hb => HR5.out wq hb) Tryz.underlying27 rfl hz5) hH0 ?_
  dsimp only [List.set_cons_zero, List.set_cons_succ]
  refine takeD (i := 2) (d := 40) (v := .agg RR.toArray) rfl rfl (by kernel_rfl) (by kernel_rfl) (by kernel_rfl) (fun _ _ _ h => h) (yieldsIf_load_mid (by kernel_rfl) 34 (.tmp 7) rfl N7 0 rfl RR _ (fun wq hb => HR7.out wq hb) Tryz.underlying34 rfl hz7) hH0 ?_
  dsimp only [List.set_cons_zero, List.set_cons_succ]
  refine wpAnyH_ready (rs := [1]) (by kernel_rfl) (by simp) (AllReadyH.cons (o := _) rfl (fun K hK => ?_) AllReadyH.nil)
  go_simp
  refine (HDC.out _ hH0).mono ?_
  intro en w8 hdr
  obtain ⟨da, dc, rfl, hds, hb8⟩ := hdr
  have HSA8 := Lib.hid' (HSA.out w8 (Below.trans hH0 (hb8.mono (Below.size hH0))) da dc hds)
  clear hds
  refine hK.out _ _ ?_ (fun hH1 => ?_)
  · exact Below.trans hH0 (hb8.mono (Below.size hH0))
  clear hK K
  try simp only [Act.put, List.getElem_toArray, List.getElem_cons_zero, List.getElem_cons_succ, List.setIfInBounds_toArray, List.set_cons_zero, List.set_cons_succ]
  refine wpAnyH_ready (rs := [3]) (by kernel_rfl) (by simp) (AllReadyH.cons (o := _) rfl (fun K hK => ?_) AllReadyH.nil)
  go_simp
  refine HSA8.out.mono ?_
  rintro en w9 ⟨rfl, hb9⟩
  refine hK.out _ _ ?_ (fun hH2 => ?_)
  · exact Below.trans hH1 (hb9.mono (Below.size hH1))
  clear hK K
  try simp only [Act.put, List.getElem_toArray, List.getElem_cons_zero, List.getElem_cons_succ, List.setIfInBounds_toArray, List.set_cons_zero, List.set_cons_succ]
  refine takeD (i := 4) (d := 42) (v := .bool false) rfl rfl (by kernel_rfl) (by kernel_rfl) (by kernel_rfl) (fun _ _ _ h => h) (yldV [(41, .bool true)] (by kernel_rfl) rfl (by kernel_rfl) ?_) hH2 ?_
  · intro w hSw; go_simp
  dsimp only [List.set_cons_zero, List.set_cons_succ]
  refine takeD (i := 5) (d := 43) (v := .bool false) rfl rfl (by kernel_rfl) (by kernel_rfl) (by kernel_rfl) (fun _ _ _ h => h) (yldV [(42, .bool false)] (by kernel_rfl) rfl (by kernel_rfl) ?_) hH2 ?_
  · intro w hSw; go_simp
  dsimp only [List.set_cons_zero, List.set_cons_succ]
  refine takeD (i := 6) (d := 44) (v := errV q1) rfl rfl (by kernel_rfl) (by kernel_rfl) (by kernel_rfl) (fun _ _ _ h => h) (yldV [(6, errV q1)] (by kernel_rfl) rfl (by kernel_rfl) ?_) hH2 ?_
  · intro w hSw; go_simp
  dsimp only [List.set_cons_zero, List.set_cons_succ]
  refine takeD (i := 8) (d := 46) (v := .int .i64 (q1 : Int)) rfl rfl (by kernel_rfl) (by kernel_rfl) (by kernel_rfl) (fun _ _ _ h => h) (yldV [(8, .int .i64 (q1 : Int))] (by kernel_rfl) rfl (by kernel_rfl) ?_) hH2 ?_
  · intro w hSw; go_simp
  dsimp only [List.set_cons_zero, List.set_cons_succ]
  refine wpAnyH_ready (rs := [7]) (by kernel_rfl) (by simp) (AllReadyH.cons (o := _) rfl (fun K hK => ?_) AllReadyH.nil)
  go_simp
  refine (num16_any q1 _).mono ?_
  rintro en wz ⟨rfl, rfl⟩
  refine hK.out _ _ ?_ (fun hH3 => ?_)
  · exact hH2
  clear hK K
  try simp only [Act.put, List.getElem_toArray, List.getElem_cons_zero, List.getElem_cons_succ, List.setIfInBounds_toArray, List.set_cons_zero, List.set_cons_succ]
  refine takeD (i := 9) (d := 47) (v := .bool false) rfl rfl (by kernel_rfl) (by kernel_rfl) (by kernel_rfl) (fun _ _ _ h => h) (yldV [(45, .int .i64 (q1 : Int)), (46, .int .i64 (q1 : Int))] (by kernel_rfl) rfl (by kernel_rfl) ?_) hH3 ?_
  · intro w hSw; go_simp
  dsimp only [List.set_cons_zero, List.set_cons_succ]
  refine takeD (i := 10) (d := 48) (v := .bool false) rfl rfl (by kernel_rfl) (by kernel_rfl) (by kernel_rfl) (fun _ _ _ h => h) (yldV [(43, .bool false), (47, .bool false)] (by kernel_rfl) rfl (by kernel_rfl) ?_) hH3 ?_
  · intro w hSw; go_simp
  dsimp only [List.set_cons_zero, List.set_cons_succ]
  refine wpAnyH_done (by kernel_rfl) ?_ _
  have HB8 := Lib.hid' (HB7.out.trans (Below.mono hH3 HB7.out.size))
  clear HB7 HR5 HR7 HDC HSA hz5 hz7
  skip
  obtain ⟨P, hP⟩ : ∃ P, P = pointsM X := ⟨_, rfl⟩
  have HPM := Lib.hid' (show ∀ z, z ∈ P ↔ ∃ m ∈ X, z = m.1.f ∨ z = m.1.t from fun z => by rw [hP]; exact points_mem)
  have HPR := Lib.hid' (show P.Pairwise (· < ·) by rw [hP]; exact points_rise X)
  have HPO := Lib.hid' (show Calls Tryz.prog 12 #[.slice a X.length c] w9 (PtsR X w9) from points_any X a c w9 (HX.out.below (Nat.le_refl _) HB8.out) hx12)
  have HPV := Lib.hid' (show ∀ e w', PtsR X w9 e w' → ∃ b d, e = .returned (.slice b P.length d) ∧ SlV w' (.slice b P.length d) P.length (zVs P) ∧ Below w9.heap.size w9 w' from fun e w' h => by
    obtain ⟨b, d, h1, h2, h3⟩ := h
    rw [← hP] at h1 h2
    exact ⟨b, d, h1, h2, h3⟩)
  have hPl : P.length ≤ 24 := by
    rw [hP]; unfold pointsM unitsOf
    have h1 := dedS_len (sortI (ends X))
    have h2 : (sortI (ends X)).length = (ends X).length := List.length_mergeSort _
    have h3 := ends_len X
    omega
  clear hP
  go_upto_region 10 with (go_at_call 12; (with_reducible refine HPO.out.mono ?_); intro e wp hpv; obtain ⟨zb, zd, rfl, hzs, hb9⟩ := HPV.out _ _ hpv; clear hpv)
  have HB9 := Lib.hid' (HB8.out.trans (hb9.mono HB8.out.size))
  have HZ9 := Lib.hid' (fun wq (hb : Below wp.heap.size wp wq) => SlV.below hzs (Nat.le_refl _) hb)
  clear HPO HPV hzs hb9 HB8
  go_wp2_with fail
  go_loopw [53] (fun v53 wr => ∃ k : Nat, v53 = .int .i64 (k : Nat) ∧ k ≤ P.length ∧ Hid (Below wp.heap.size wp wr)) (fun v53 _ => P.length - (intOf v53).toNat)
  case atStart => exact ⟨0, rfl, Nat.zero_le _, Lib.hid' (Below.refl _ _)⟩
  case round =>
    obtain ⟨k, rfl, hk, HR⟩ := hrel
    by_cases hlt : k < P.length
    · have hlt' : (k : Int) < (P.length : Int) := by omega
      obtain ⟨zb, oz, rfl, hzb, hzc⟩ := z_at (HZ9.out _ HR.out) hlt
      have zk := hzc k hlt
      obtain ⟨z, hz⟩ : ∃ z, P[k] = z := ⟨_, rfl⟩
      rw [hz] at zk
      have HMK := Lib.hid' ((HPM.out z).1 (by rw [← hz]; exact List.getElem_mem hlt))
      have HZK := Lib.hid' hz
      have HZC := Lib.hid' hzc
      clear hz hzc
      go_upto_region 13 with fail
      go_cut [68] (fun v68 wc => v68 = .bool false ∧ wc = wr)
      case first =>
        by_cases h0 : k = 0
        · have hk0 : ¬ (0 : Int) < (k : Int) := by omega
          clear h0
          go_wp2_with fail
          go_meet
          exact ⟨rfl, rfl⟩
        · obtain ⟨j, hj⟩ : ∃ j, j + 1 = k := ⟨k - 1, by omega⟩
          have hk0 : (0 : Int) < (k : Int) := by omega
          have hjl : j < P.length := by omega
          have zj := HZC.out j hjl
          have e1 : IntKind.i64.wrap ((k : Int) - 1) = (j : Int) := by rw [show (k : Int) - 1 = (j : Int) by omega]; exact IntWalk.i64_in _ (by omega)
          have e1' : (k : Int) - 1 = (j : Int) := by omega
          have hjl' : (j : Int) < (P.length : Int) := by omega
          have hlt2 : P[j] < z := by rw [← HZK.out]; exact List.pairwise_iff_getElem.1 HPR.out j k hjl hlt (by omega)
          have hle : ¬ z ≤ P[j] := by omega
          clear hj h0 hlt2
          obtain ⟨xj, hxj⟩ : ∃ x, P[j] = x := ⟨_, rfl⟩
          rw [hxj] at zj hle
          clear hxj HZC
          go_wp2_with fail
          go_meet
          exact ⟨rfl, rfl⟩
      case rest =>
      obtain ⟨rfl, rfl⟩ := hcut
      clear HZC hzb zk HZK
      go_wp2_with fail
      go_loopw [71, 12] (fun v71 v12 wi => ∃ (m : Nat) (fd : Bool), v71 = .int .i64 (m : Nat) ∧ v12 = .bool fd ∧ m ≤ X.length ∧ Hid (fd = (X.take m).any (fun x => x.1.f == z || x.1.t == z)) ∧ Hid (Below wp.heap.size wp wi)) (fun v71 _ _ => X.length - (intOf v71).toNat)
      case atStart => exact ⟨0, false, rfl, rfl, Nat.zero_le _, Lib.hid' rfl, HR⟩
      case round =>
        clear HR
        obtain ⟨m, fd, rfl, rfl, hm, HF, HI⟩ := hrel
        by_cases hml : m < X.length
        · have hml' : (m : Int) < (X.length : Int) := by omega
          have HBW := Lib.hid' (HB9.out.trans (HI.out.mono HB9.out.size))
          obtain ⟨ba, oa, rfl, hba, hra⟩ := MsAt.at (HX.out.below (Nat.le_refl _) HBW.out) hml
          have ox := HX.out.ok _ (List.getElem_mem hml)
          have HF2 := Lib.hid' (show (X.take (m + 1)).any (fun x => x.1.f == z || x.1.t == z) = (fd || (X[m].1.f == z || X[m].1.t == z)) by rw [any_snoc _ hml, ← HF.out])
          clear HF HBW
          generalize X[m] = xp at *
          obtain ⟨x, qa, qc⟩ := xp
          replace hra : wr.rangeAt ba (oa + m * 37) (mfV x qa qc) := hra
          have hzm : (Tryz.prog.info? 48).map (·.size) = some (mfV x qa qc).length := by rw [mfV_len ox]; exact mf_size
          have hz2 : zeroMV.length = (mfV x qa qc).length := by rw [mfV_len ox]; rfl
          have hone : (mfV x qa qc).all (·.oneCell') = true := List.all_eq_true.2 mfV_one
          have hY1 : (mfV x qa qc)[1]? = some (.int .i64 x.f) := rfl
          have hY2 : (mfV x qa qc)[2]? = some (.int .i64 x.t) := rfl
          have HZ : Sep wr NoF [.box wr.heap.size zeroMV 48] (wr.alloc (.cells #[.int .i64 0, .int .i64 0, .int .i64 0, .int .i64 0, .int .u8 0, .int .u8 0, .int .u8 0, .int .u8 0, .int .u8 0, .int .u8 0, .int .u8 0, .int .u8 0, .int .u8 0, .int .u8 0, .int .u8 0, .int .u8 0, .int .u8 0, .int .u8 0, .int .u8 0, .int .u8 0, .int .u8 0, .int .u8 0, .int .u8 0, .int .u8 0, .int .u8 0, .int .u8 0, .int .u8 0, .int .u8 0, .int .u8 0, .int .u8 0, .int .u8 0, .int .u8 0, .int .u8 0, .int .u8 0, .int .u8 0, .int .u8 0, .slice none 0 0] 48)) := (Sep.start wr).allocAt wr.heap.size zeroMV 48 rfl
          have HBX := HZ.setRow 0 rfl (mfV x qa qc)
          clear ox hba
          generalize mfV x qa qc = PX at *
          generalize x.f = xf at *
          generalize x.t = xt at *
          go_upto_region 19 with (first | (refine wpList_load_at hra rfl 48 (.tmp 73) rfl rfl _ Tryz.underlying48 rfl hzm ?_) | (refine Sep.storeB HZ 0 rfl rfl 48 (.tmp 14) (.tmp 74) rfl PX rfl rfl hzm hz2 hone ?_))
          have HI5 := Lib.hid' (HI.out.trans (HBX.toBelow.mono HI.out.size))
          clear HZ hra hzm hz2 hone
          generalize (wr.alloc (.cells #[.int .i64 0, .int .i64 0, .int .i64 0, .int .i64 0, .int .u8 0, .int .u8 0, .int .u8 0, .int .u8 0, .int .u8 0, .int .u8 0, .int .u8 0, .int .u8 0, .int .u8 0, .int .u8 0, .int .u8 0, .int .u8 0, .int .u8 0, .int .u8 0, .int .u8 0, .int .u8 0, .int .u8 0, .int .u8 0, .int .u8 0, .int .u8 0, .int .u8 0, .int .u8 0, .int .u8 0, .int .u8 0, .int .u8 0, .int .u8 0, .int .u8 0, .int .u8 0, .int .u8 0, .int .u8 0, .int .u8 0, .int .u8 0, .slice none 0 0] 48)).setRow wr.heap.size PX.toArray = w5 at *
          generalize wr.heap.size = N14 at *
          have i1 := HBX.cell 0 rfl 1 hY1
          have i2 := HBX.cell 0 rfl 2 hY2
          clear HBX hY1 hY2
          cases fd with
          | true =>
            have HF3 := Lib.hid' (show true = (X.take (m + 1)).any (fun x => x.1.f == z || x.1.t == z) by rw [HF2.out]; rfl)
            clear HF2
            go_wp2_with fail
            go_roundw
            case rel => exact ⟨m + 1, true, by go_num, rfl, by omega, HF3, HI5⟩
            case measure => simp [intOf]; omega
          | false =>
            by_cases hf : xf = z
            · have b1 : (xf == z) = true := by rw [beq_iff_eq]; exact hf
              have HF3 := Lib.hid' (show true = (X.take (m + 1)).any (fun x => x.1.f == z || x.1.t == z) by rw [HF2.out, b1]; rfl)
              clear HF2 hf
              go_wp2_with fail
              go_roundw
              case rel => exact ⟨m + 1, true, by go_num, by first | rfl | simp [b1], by omega, HF3, HI5⟩
              case measure => simp [intOf]; omega
            · have b1 : (xf == z) = false := by rw [beq_eq_false_iff_ne]; exact hf
              have HF3 := Lib.hid' (show (xt == z) = (X.take (m + 1)).any (fun x => x.1.f == z || x.1.t == z) by rw [HF2.out, b1]; rfl)
              clear HF2 hf
              go_wp2_with fail
              go_roundw
              case rel => exact ⟨m + 1, (xt == z), by go_num, by first | rfl | simp [b1], by omega, HF3, HI5⟩
              case measure => simp [intOf]; omega
        · obtain rfl : m = X.length := by omega
          have hfd : fd = true := by
            rw [HF.out, List.take_length, List.any_eq_true]
            obtain ⟨x, hx, h⟩ := HMK.out
            refine ⟨x, hx, ?_⟩
            rcases h with h | h
            · simp [h]
            · simp [h]
          subst hfd
          clear hml hm HF HMK
          go_wp2_with fail
          go_roundw
          case rel => exact ⟨k + 1, by go_num, by omega, HI⟩
          case measure => simp [intOf]; omega
    obtain rfl : k = P.length := by omega
    have HBR := Lib.hid' (HB9.out.trans (HR.out.mono HB9.out.size))
    clear hlt hk
    go_wp2_with fail
    go_loopw [94] (fun v94 wi => ∃ m : Nat, v94 = .int .i64 (m : Nat) ∧ m ≤ X.length ∧ Hid (Below wp.heap.size wp wi)) (fun v94 _ => X.length - (intOf v94).toNat)
    case atStart => exact ⟨0, rfl, Nat.zero_le _, HR⟩
    case round =>
      clear HR HBR
      obtain ⟨m, rfl, hm, HI⟩ := hrel
      by_cases hml : m < X.length
      rotate_left
      · obtain rfl : m = X.length := by omega
        clear hml hm
        go_wp2_with fail
        go_ret
        exact ⟨rfl, HB9.out.trans (HI.out.mono HB9.out.size)⟩
      have hml' : (m : Int) < (X.length : Int) := by omega
      have HBW := Lib.hid' (HB9.out.trans (HI.out.mono HB9.out.size))
      obtain ⟨ba, oa, rfl, hba, hra⟩ := MsAt.at (HX.out.below (Nat.le_refl _) HBW.out) hml
      have ox := HX.out.ok _ (List.getElem_mem hml)
      have HIN := Lib.hid' (show P.any (fun y => y == X[m].1.f) = true ∧ P.any (fun y => y == X[m].1.t) = true from by
        refine ⟨List.any_eq_true.2 ⟨_, (HPM.out _).2 ⟨_, List.getElem_mem hml, .inl rfl⟩, by simp⟩, List.any_eq_true.2 ⟨_, (HPM.out _).2 ⟨_, List.getElem_mem hml, .inr rfl⟩, by simp⟩⟩)
      clear HBW
      generalize X[m] = xp at *
      obtain ⟨x, qa, qc⟩ := xp
      replace hra : wr.rangeAt ba (oa + m * 37) (mfV x qa qc) := hra
      have hzm : (Tryz.prog.info? 48).map (·.size) = some (mfV x qa qc).length := by rw [mfV_len ox]; exact mf_size
      have hz2 : zeroMV.length = (mfV x qa qc).length := by rw [mfV_len ox]; rfl
      have hone : (mfV x qa qc).all (·.oneCell') = true := List.all_eq_true.2 mfV_one
      have hY1 : (mfV x qa qc)[1]? = some (.int .i64 x.f) := rfl
      have hY2 : (mfV x qa qc)[2]? = some (.int .i64 x.t) := rfl
      have HZ : Sep wr NoF [.box wr.heap.size zeroMV 48] (wr.alloc (.cells #[.int .i64 0, .int .i64 0, .int .i64 0, .int .i64 0, .int .u8 0, .int .u8 0, .int .u8 0, .int .u8 0, .int .u8 0, .int .u8 0, .int .u8 0, .int .u8 0, .int .u8 0, .int .u8 0, .int .u8 0, .int .u8 0, .int .u8 0, .int .u8 0, .int .u8 0, .int .u8 0, .int .u8 0, .int .u8 0, .int .u8 0, .int .u8 0, .int .u8 0, .int .u8 0, .int .u8 0, .int .u8 0, .int .u8 0, .int .u8 0, .int .u8 0, .int .u8 0, .int .u8 0, .int .u8 0, .int .u8 0, .int .u8 0, .slice none 0 0] 48)) := (Sep.start wr).allocAt wr.heap.size zeroMV 48 rfl
      have HBX := HZ.setRow 0 rfl (mfV x qa qc)
      clear ox hba
      generalize mfV x qa qc = PX at *
      generalize x.f = xf at *
      generalize x.t = xt at *
      go_upto_region 27 with (first | (refine wpList_load_at hra rfl 48 (.tmp 96) rfl rfl _ Tryz.underlying48 rfl hzm ?_) | (refine Sep.storeB HZ 0 rfl rfl 48 (.tmp 16) (.tmp 97) rfl PX rfl rfl hzm hz2 hone ?_))
      have HI5 := Lib.hid' (HI.out.trans (HBX.toBelow.mono HI.out.size))
      clear HZ hra hzm hz2 hone
      generalize (wr.alloc (.cells #[.int .i64 0, .int .i64 0, .int .i64 0, .int .i64 0, .int .u8 0, .int .u8 0, .int .u8 0, .int .u8 0, .int .u8 0, .int .u8 0, .int .u8 0, .int .u8 0, .int .u8 0, .int .u8 0, .int .u8 0, .int .u8 0, .int .u8 0, .int .u8 0, .int .u8 0, .int .u8 0, .int .u8 0, .int .u8 0, .int .u8 0, .int .u8 0, .int .u8 0, .int .u8 0, .int .u8 0, .int .u8 0, .int .u8 0, .int .u8 0, .int .u8 0, .int .u8 0, .int .u8 0, .int .u8 0, .int .u8 0, .int .u8 0, .slice none 0 0] 48)).setRow wr.heap.size PX.toArray = w5 at *
      generalize wr.heap.size = N14 at *
      have HCX := Lib.hid' (fun wq (hb : Below w5.heap.size w5 wq) => show wq.cell? ⟨N14, 1, none⟩ = some (.int .i64 xf) ∧ wq.cell? ⟨N14, 2, none⟩ = some (.int .i64 xt) from ⟨(HBX.below hb).cell 0 rfl 1 hY1, (HBX.below hb).cell 0 rfl 2 hY2⟩)
      clear HBX hY1 hY2
      go_wp2_with fail
      go_loopw [100, 17, 18] (fun v100 v17 v18 wi => ∃ (k : Nat) (fa fb : Bool), v100 = .int .i64 (k : Nat) ∧ v17 = .bool fa ∧ v18 = .bool fb ∧ k ≤ P.length ∧ Hid (fa = (P.take k).any (fun y => y == xf) ∧ fb = (P.take k).any (fun y => y == xt)) ∧ Hid (Below w5.heap.size w5 wi)) (fun v100 _ _ _ => P.length - (intOf v100).toNat)
      case atStart => exact ⟨0, false, false, rfl, rfl, rfl, Nat.zero_le _, Lib.hid' ⟨rfl, rfl⟩, Lib.hid' (Below.refl _ _)⟩
      case round =>
        obtain ⟨k, fa, fb, rfl, rfl, rfl, hk, HF, HW⟩ := hrel
        by_cases hlt : k < P.length
        rotate_left
        · obtain rfl : k = P.length := by omega
          have hfa : fa = true := by rw [HF.out.1, List.take_length]; exact HIN.out.1
          have hfb : fb = true := by rw [HF.out.2, List.take_length]; exact HIN.out.2
          subst hfa hfb
          have HI6 := Lib.hid' (HI5.out.trans (HW.out.mono HI5.out.size))
          clear hlt hk HF HIN
          go_wp2_with fail
          go_roundw
          case rel => exact ⟨m + 1, by go_num, by omega, HI6⟩
          case measure => simp [intOf]; omega
        have hlt' : (k : Int) < (P.length : Int) := by omega
        have HI6 := Lib.hid' (HI5.out.trans (HW.out.mono HI5.out.size))
        obtain ⟨zb, oz, rfl, hzb, hzc⟩ := z_at (HZ9.out _ HI6.out) hlt
        have zk := hzc k hlt
        have HF2 := Lib.hid' (show (P.take (k + 1)).any (fun y => y == xf) = (fa || P[k] == xf) ∧ (P.take (k + 1)).any (fun y => y == xt) = (fb || P[k] == xt) by rw [any_snoc _ hlt, any_snoc _ hlt, ← HF.out.1, ← HF.out.2]; exact ⟨rfl, rfl⟩)
        clear hzc hzb HF HI6
        generalize P[k] = z at *
        go_upto_region 31 with fail
        clear zk
        have HCW := Lib.hid' (fun wq (hb : Below wr.heap.size wr wq) => HCX.out wq (HW.out.trans (hb.mono HW.out.size)))
        cases fa with
        | true =>
          cases fb with
          | true =>
            refine startD (S := (fun w' => Below wr.heap.size wr w')) (by kernel_rfl) ((Below.refl _ _).drew) (fun hH0 => ?_)
            simp only [List.length_cons, List.length_nil, Nat.reduceAdd, List.replicate_succ, List.replicate_zero]
            refine takeD (i := 0) (d := 104) (v := .bool true) rfl rfl (by kernel_rfl) (by kernel_rfl) (by kernel_rfl) (fun _ _ _ h => h) (yldV [(17, .bool true)] (by kernel_rfl) rfl (by kernel_rfl) ?_) hH0 ?_
            · intro w hSw; go_simp
            dsimp only [List.set_cons_zero, List.set_cons_succ]
            refine takeD (i := 1) (d := 105) (v := .bool true) rfl rfl (by kernel_rfl) (by kernel_rfl) (by kernel_rfl) (fun _ _ _ h => h) (yldV [(104, .bool true)] (by kernel_rfl) rfl (by kernel_rfl) ?_) hH0 ?_
            · intro w hSw; go_simp
            dsimp only [List.set_cons_zero, List.set_cons_succ]
            refine takeD (i := 2) (d := 106) (v := undef) rfl rfl (by kernel_rfl) (by kernel_rfl) (by kernel_rfl) (fun _ _ _ h => h) (Or.inr ⟨by kernel_rfl, rfl⟩) hH0 ?_
            dsimp only [List.set_cons_zero, List.set_cons_succ]
            refine takeD (i := 3) (d := 107) (v := undef) rfl rfl (by kernel_rfl) (by kernel_rfl) (by kernel_rfl) (fun _ _ _ h => h) (Or.inr ⟨by kernel_rfl, rfl⟩) hH0 ?_
            dsimp only [List.set_cons_zero, List.set_cons_succ]
            refine takeD (i := 4) (d := 108) (v := undef) rfl rfl (by kernel_rfl) (by kernel_rfl) (by kernel_rfl) (fun _ _ _ h => h) (Or.inr ⟨by kernel_rfl, rfl⟩) hH0 ?_
            dsimp only [List.set_cons_zero, List.set_cons_succ]
            refine takeD (i := 5) (d := 109) (v := undef) rfl rfl (by kernel_rfl) (by kernel_rfl) (by kernel_rfl) (fun _ _ _ h => h) (Or.inr ⟨by kernel_rfl, rfl⟩) hH0 ?_
            dsimp only [List.set_cons_zero, List.set_cons_succ]
            refine takeD (i := 6) (d := 110) (v := .bool true) rfl rfl (by kernel_rfl) (by kernel_rfl) (by kernel_rfl) (fun _ _ _ h => h) (yldV [(105, .bool true), (109, undef)] (by kernel_rfl) rfl (by kernel_rfl) ?_) hH0 ?_
            · intro w hSw; go_simp
            dsimp only [List.set_cons_zero, List.set_cons_succ]
            refine takeD (i := 7) (d := 111) (v := .bool true) rfl rfl (by kernel_rfl) (by kernel_rfl) (by kernel_rfl) (fun _ _ _ h => h) (yldV [(18, .bool true)] (by kernel_rfl) rfl (by kernel_rfl) ?_) hH0 ?_
            · intro w hSw; go_simp
            dsimp only [List.set_cons_zero, List.set_cons_succ]
            refine takeD (i := 8) (d := 112) (v := .bool true) rfl rfl (by kernel_rfl) (by kernel_rfl) (by kernel_rfl) (fun _ _ _ h => h) (yldV [(111, .bool true)] (by kernel_rfl) rfl (by kernel_rfl) ?_) hH0 ?_
            · intro w hSw; go_simp
            dsimp only [List.set_cons_zero, List.set_cons_succ]
            refine takeD (i := 9) (d := 113) (v := undef) rfl rfl (by kernel_rfl) (by kernel_rfl) (by kernel_rfl) (fun _ _ _ h => h) (Or.inr ⟨by kernel_rfl, rfl⟩) hH0 ?_
            dsimp only [List.set_cons_zero, List.set_cons_succ]
            refine takeD (i := 10) (d := 114) (v := undef) rfl rfl (by kernel_rfl) (by kernel_rfl) (by kernel_rfl) (fun _ _ _ h => h) (Or.inr ⟨by kernel_rfl, rfl⟩) hH0 ?_
            dsimp only [List.set_cons_zero, List.set_cons_succ]
            refine takeD (i := 11) (d := 115) (v := undef) rfl rfl (by kernel_rfl) (by kernel_rfl) (by kernel_rfl) (fun _ _ _ h => h) (Or.inr ⟨by kernel_rfl, rfl⟩) hH0 ?_
            dsimp only [List.set_cons_zero, List.set_cons_succ]
            refine takeD (i := 12) (d := 116) (v := undef) rfl rfl (by kernel_rfl) (by kernel_rfl) (by kernel_rfl) (fun _ _ _ h => h) (Or.inr ⟨by kernel_rfl, rfl⟩) hH0 ?_
            dsimp only [List.set_cons_zero, List.set_cons_succ]
            refine takeD (i := 13) (d := 117) (v := .bool true) rfl rfl (by kernel_rfl) (by kernel_rfl) (by kernel_rfl) (fun _ _ _ h => h) (yldV [(112, .bool true), (116, undef)] (by kernel_rfl) rfl (by kernel_rfl) ?_) hH0 ?_
            · intro w hSw; go_simp
            dsimp only [List.set_cons_zero, List.set_cons_succ]
            refine takeD (i := 14) (d := 17) (v := .bool true) rfl rfl (by kernel_rfl) (by kernel_rfl) (by kernel_rfl) (fun _ _ _ h => h) (yldV [(110, .bool true)] (by kernel_rfl) rfl (by kernel_rfl) ?_) hH0 ?_
            · intro w hSw; go_simp
            dsimp only [List.set_cons_zero, List.set_cons_succ]
            refine takeD (i := 15) (d := 18) (v := .bool true) rfl rfl (by kernel_rfl) (by kernel_rfl) (by kernel_rfl) (fun _ _ _ h => h) (yldV [(117, .bool true)] (by kernel_rfl) rfl (by kernel_rfl) ?_) hH0 ?_
            · intro w hSw; go_simp
            dsimp only [List.set_cons_zero, List.set_cons_succ]
            refine wpAnyH_done (by kernel_rfl) ?_ _
            have HF3 := Lib.hid' (show true = (P.take (k + 1)).any (fun y => y == xf) ∧ true = (P.take (k + 1)).any (fun y => y == xt) by rw [HF2.out.1, HF2.out.2]; exact ⟨rfl, rfl⟩)
            have HW2 := Lib.hid' (HW.out.trans (Below.mono hH0 HW.out.size))
            clear HF2 HCW
            go_wp2_with fail
            go_roundw
            case rel => exact ⟨k + 1, true, true, by go_num, rfl, rfl, by omega, HF3, HW2⟩
            case measure => simp [intOf]; omega
          | false =>
            refine startD (S := (fun w' => Below wr.heap.size wr w')) (by kernel_rfl) ((Below.refl _ _).drew) (fun hH0 => ?_)
            simp only [List.length_cons, List.length_nil, Nat.reduceAdd, List.replicate_succ, List.replicate_zero]
            refine takeD (i := 0) (d := 104) (v := .bool true) rfl rfl (by kernel_rfl) (by kernel_rfl) (by kernel_rfl) (fun _ _ _ h => h) (yldV [(17, .bool true)] (by kernel_rfl) rfl (by kernel_rfl) ?_) hH0 ?_
            · intro w hSw; go_simp
            dsimp only [List.set_cons_zero, List.set_cons_succ]
            refine takeD (i := 1) (d := 105) (v := .bool true) rfl rfl (by kernel_rfl) (by kernel_rfl) (by kernel_rfl) (fun _ _ _ h => h) (yldV [(104, .bool true)] (by kernel_rfl) rfl (by kernel_rfl) ?_) hH0 ?_
            · intro w hSw; go_simp
            dsimp only [List.set_cons_zero, List.set_cons_succ]
            refine takeD (i := 2) (d := 106) (v := undef) rfl rfl (by kernel_rfl) (by kernel_rfl) (by kernel_rfl) (fun _ _ _ h => h) (Or.inr ⟨by kernel_rfl, rfl⟩) hH0 ?_
            dsimp only [List.set_cons_zero, List.set_cons_succ]
            refine takeD (i := 3) (d := 107) (v := undef) rfl rfl (by kernel_rfl) (by kernel_rfl) (by kernel_rfl) (fun _ _ _ h => h) (Or.inr ⟨by kernel_rfl, rfl⟩) hH0 ?_
            dsimp only [List.set_cons_zero, List.set_cons_succ]
            refine takeD (i := 4) (d := 108) (v := undef) rfl rfl (by kernel_rfl) (by kernel_rfl) (by kernel_rfl) (fun _ _ _ h => h) (Or.inr ⟨by kernel_rfl, rfl⟩) hH0 ?_
            dsimp only [List.set_cons_zero, List.set_cons_succ]
            refine takeD (i := 5) (d := 109) (v := undef) rfl rfl (by kernel_rfl) (by kernel_rfl) (by kernel_rfl) (fun _ _ _ h => h) (Or.inr ⟨by kernel_rfl, rfl⟩) hH0 ?_
            dsimp only [List.set_cons_zero, List.set_cons_succ]
            refine takeD (i := 6) (d := 110) (v := .bool true) rfl rfl (by kernel_rfl) (by kernel_rfl) (by kernel_rfl) (fun _ _ _ h => h) (yldV [(105, .bool true), (109, undef)] (by kernel_rfl) rfl (by kernel_rfl) ?_) hH0 ?_
            · intro w hSw; go_simp
            dsimp only [List.set_cons_zero, List.set_cons_succ]
            refine takeD (i := 7) (d := 111) (v := .bool false) rfl rfl (by kernel_rfl) (by kernel_rfl) (by kernel_rfl) (fun _ _ _ h => h) (yldV [(18, .bool false)] (by kernel_rfl) rfl (by kernel_rfl) ?_) hH0 ?_
            · intro w hSw; go_simp
            dsimp only [List.set_cons_zero, List.set_cons_succ]
            refine takeD (i := 8) (d := 112) (v := .bool false) rfl rfl (by kernel_rfl) (by kernel_rfl) (by kernel_rfl) (fun _ _ _ h => h) (yldV [(111, .bool false)] (by kernel_rfl) rfl (by kernel_rfl) ?_) hH0 ?_
            · intro w hSw; go_simp
            dsimp only [List.set_cons_zero, List.set_cons_succ]
            refine takeD (i := 9) (d := 113) (v := .int .i64 z) rfl rfl (by kernel_rfl) (by kernel_rfl) (by kernel_rfl) (fun _ _ _ h => h) (yldV [(20, .int .i64 z)] (by kernel_rfl) rfl (by kernel_rfl) ?_) hH0 ?_
            · intro w hSw; go_simp
            dsimp only [List.set_cons_zero, List.set_cons_succ]
            refine takeD (i := 10) (d := 114) (v := .pointer (some ⟨N14, 2, none⟩)) rfl rfl (by kernel_rfl) (by kernel_rfl) (by kernel_rfl) (fun _ _ _ h => h) (yldV [(16, .pointer (some ⟨N14, 0, none⟩))] (by kernel_rfl) rfl (by kernel_rfl) ?_) hH0 ?_
            · intro w hSw; go_simp
            dsimp only [List.set_cons_zero, List.set_cons_succ]
            refine takeD (i := 11) (d := 115) (v := .int .i64 xt) rfl rfl (by kernel_rfl) (by kernel_rfl) (by kernel_rfl) (fun _ _ _ h => h) (yldV [(114, .pointer (some ⟨N14, 2, none⟩))] (by kernel_rfl) rfl (by kernel_rfl) ?_) hH0 ?_
            · intro w hSw; have q := (HCW.out w hSw); obtain ⟨q1, q2⟩ := q; go_simp
            dsimp only [List.set_cons_zero, List.set_cons_succ]
            refine takeD (i := 12) (d := 116) (v := .bool (z == xt)) rfl rfl (by kernel_rfl) (by kernel_rfl) (by kernel_rfl) (fun _ _ _ h => h) (yldV [(113, .int .i64 z), (115, .int .i64 xt)] (by kernel_rfl) rfl (by kernel_rfl) ?_) hH0 ?_
            · intro w hSw; go_simp
            dsimp only [List.set_cons_zero, List.set_cons_succ]
            refine takeD (i := 13) (d := 117) (v := .bool (z == xt)) rfl rfl (by kernel_rfl) (by kernel_rfl) (by kernel_rfl) (fun _ _ _ h => h) (yldV [(112, .bool false), (116, .bool (z == xt))] (by kernel_rfl) rfl (by kernel_rfl) ?_) hH0 ?_
            · intro w hSw; go_simp
            dsimp only [List.set_cons_zero, List.set_cons_succ]
            refine takeD (i := 14) (d := 17) (v := .bool true) rfl rfl (by kernel_rfl) (by kernel_rfl) (by kernel_rfl) (fun _ _ _ h => h) (yldV [(110, .bool true)] (by kernel_rfl) rfl (by kernel_rfl) ?_) hH0 ?_
            · intro w hSw; go_simp
            dsimp only [List.set_cons_zero, List.set_cons_succ]
            refine takeD (i := 15) (d := 18) (v := .bool (z == xt)) rfl rfl (by kernel_rfl) (by kernel_rfl) (by kernel_rfl) (fun _ _ _ h => h) (yldV [(117, .bool (z == xt))] (by kernel_rfl) rfl (by kernel_rfl) ?_) hH0 ?_
            · intro w hSw; go_simp
            dsimp only [List.set_cons_zero, List.set_cons_succ]
            refine wpAnyH_done (by kernel_rfl) ?_ _
            have HF3 := Lib.hid' (show true = (P.take (k + 1)).any (fun y => y == xf) ∧ (z == xt) = (P.take (k + 1)).any (fun y => y == xt) by rw [HF2.out.1, HF2.out.2]; exact ⟨rfl, rfl⟩)
            have HW2 := Lib.hid' (HW.out.trans (Below.mono hH0 HW.out.size))
            clear HF2 HCW
            go_wp2_with fail
            go_roundw
            case rel => exact ⟨k + 1, true, (z == xt), by go_num, rfl, rfl, by omega, HF3, HW2⟩
            case measure => simp [intOf]; omega
        | false =>
          cases fb with
          | true =>
            refine startD (S := (fun w' => Below wr.heap.size wr w')) (by kernel_rfl) ((Below.refl _ _).drew) (fun hH0 => ?_)
            simp only [List.length_cons, List.length_nil, Nat.reduceAdd, List.replicate_succ, List.replicate_zero]
            refine takeD (i := 0) (d := 104) (v := .bool false) rfl rfl (by kernel_rfl) (by kernel_rfl) (by kernel_rfl) (fun _ _ _ h => h) (yldV [(17, .bool false)] (by kernel_rfl) rfl (by kernel_rfl) ?_) hH0 ?_
            · intro w hSw; go_simp
            dsimp only [List.set_cons_zero, List.set_cons_succ]
            refine takeD (i := 1) (d := 105) (v := .bool false) rfl rfl (by kernel_rfl) (by kernel_rfl) (by kernel_rfl) (fun _ _ _ h => h) (yldV [(104, .bool false)] (by kernel_rfl) rfl (by kernel_rfl) ?_) hH0 ?_
            · intro w hSw; go_simp
            dsimp only [List.set_cons_zero, List.set_cons_succ]
            refine takeD (i := 2) (d := 106) (v := .int .i64 z) rfl rfl (by kernel_rfl) (by kernel_rfl) (by kernel_rfl) (fun _ _ _ h => h) (yldV [(20, .int .i64 z)] (by kernel_rfl) rfl (by kernel_rfl) ?_) hH0 ?_
            · intro w hSw; go_simp
            dsimp only [List.set_cons_zero, List.set_cons_succ]
            refine takeD (i := 3) (d := 107) (v := .pointer (some ⟨N14, 1, none⟩)) rfl rfl (by kernel_rfl) (by kernel_rfl) (by kernel_rfl) (fun _ _ _ h => h) (yldV [(16, .pointer (some ⟨N14, 0, none⟩))] (by kernel_rfl) rfl (by kernel_rfl) ?_) hH0 ?_
            · intro w hSw; go_simp
            dsimp only [List.set_cons_zero, List.set_cons_succ]
            refine takeD (i := 4) (d := 108) (v := .int .i64 xf) rfl rfl (by kernel_rfl) (by kernel_rfl) (by kernel_rfl) (fun _ _ _ h => h) (yldV [(107, .pointer (some ⟨N14, 1, none⟩))] (by kernel_rfl) rfl (by kernel_rfl) ?_) hH0 ?_
            · intro w hSw; have q := (HCW.out w hSw); obtain ⟨q1, q2⟩ := q; go_simp
            dsimp only [List.set_cons_zero, List.set_cons_succ]
            refine takeD (i := 5) (d := 109) (v := .bool (z == xf)) rfl rfl (by kernel_rfl) (by kernel_rfl) (by kernel_rfl) (fun _ _ _ h => h) (yldV [(106, .int .i64 z), (108, .int .i64 xf)] (by kernel_rfl) rfl (by kernel_rfl) ?_) hH0 ?_
            · intro w hSw; go_simp
            dsimp only [List.set_cons_zero, List.set_cons_succ]
            refine takeD (i := 6) (d := 110) (v := .bool (z == xf)) rfl rfl (by kernel_rfl) (by kernel_rfl) (by kernel_rfl) (fun _ _ _ h => h) (yldV [(105, .bool false), (109, .bool (z == xf))] (by kernel_rfl) rfl (by kernel_rfl) ?_) hH0 ?_
            · intro w hSw; go_simp
            dsimp only [List.set_cons_zero, List.set_cons_succ]
            refine takeD (i := 7) (d := 111) (v := .bool true) rfl rfl (by kernel_rfl) (by kernel_rfl) (by kernel_rfl) (fun _ _ _ h => h) (yldV [(18, .bool true)] (by kernel_rfl) rfl (by kernel_rfl) ?_) hH0 ?_
            · intro w hSw; go_simp
            dsimp only [List.set_cons_zero, List.set_cons_succ]
            refine takeD (i := 8) (d := 112) (v := .bool true) rfl rfl (by kernel_rfl) (by kernel_rfl) (by kernel_rfl) (fun _ _ _ h => h) (yldV [(111, .bool true)] (by kernel_rfl) rfl (by kernel_rfl) ?_) hH0 ?_
            · intro w hSw; go_simp
            dsimp only [List.set_cons_zero, List.set_cons_succ]
            refine takeD (i := 9) (d := 113) (v := undef) rfl rfl (by kernel_rfl) (by kernel_rfl) (by kernel_rfl) (fun _ _ _ h => h) (Or.inr ⟨by kernel_rfl, rfl⟩) hH0 ?_
            dsimp only [List.set_cons_zero, List.set_cons_succ]
            refine takeD (i := 10) (d := 114) (v := undef) rfl rfl (by kernel_rfl) (by kernel_rfl) (by kernel_rfl) (fun _ _ _ h => h) (Or.inr ⟨by kernel_rfl, rfl⟩) hH0 ?_
            dsimp only [List.set_cons_zero, List.set_cons_succ]
            refine takeD (i := 11) (d := 115) (v := undef) rfl rfl (by kernel_rfl) (by kernel_rfl) (by kernel_rfl) (fun _ _ _ h => h) (Or.inr ⟨by kernel_rfl, rfl⟩) hH0 ?_
            dsimp only [List.set_cons_zero, List.set_cons_succ]
            refine takeD (i := 12) (d := 116) (v := undef) rfl rfl (by kernel_rfl) (by kernel_rfl) (by kernel_rfl) (fun _ _ _ h => h) (Or.inr ⟨by kernel_rfl, rfl⟩) hH0 ?_
            dsimp only [List.set_cons_zero, List.set_cons_succ]
            refine takeD (i := 13) (d := 117) (v := .bool true) rfl rfl (by kernel_rfl) (by kernel_rfl) (by kernel_rfl) (fun _ _ _ h => h) (yldV [(112, .bool true), (116, undef)] (by kernel_rfl) rfl (by kernel_rfl) ?_) hH0 ?_
            · intro w hSw; go_simp
            dsimp only [List.set_cons_zero, List.set_cons_succ]
            refine takeD (i := 14) (d := 17) (v := .bool (z == xf)) rfl rfl (by kernel_rfl) (by kernel_rfl) (by kernel_rfl) (fun _ _ _ h => h) (yldV [(110, .bool (z == xf))] (by kernel_rfl) rfl (by kernel_rfl) ?_) hH0 ?_
            · intro w hSw; go_simp
            dsimp only [List.set_cons_zero, List.set_cons_succ]
            refine takeD (i := 15) (d := 18) (v := .bool true) rfl rfl (by kernel_rfl) (by kernel_rfl) (by kernel_rfl) (fun _ _ _ h => h) (yldV [(117, .bool true)] (by kernel_rfl) rfl (by kernel_rfl) ?_) hH0 ?_
            · intro w hSw; go_simp
            dsimp only [List.set_cons_zero, List.set_cons_succ]
            refine wpAnyH_done (by kernel_rfl) ?_ _
            have HF3 := Lib.hid' (show (z == xf) = (P.take (k + 1)).any (fun y => y == xf) ∧ true = (P.take (k + 1)).any (fun y => y == xt) by rw [HF2.out.1, HF2.out.2]; exact ⟨rfl, rfl⟩)
            have HW2 := Lib.hid' (HW.out.trans (Below.mono hH0 HW.out.size))
            clear HF2 HCW
            go_wp2_with fail
            go_roundw
            case rel => exact ⟨k + 1, (z == xf), true, by go_num, rfl, rfl, by omega, HF3, HW2⟩
            case measure => simp [intOf]; omega
          | false =>
            refine startD (S := (fun w' => Below wr.heap.size wr w')) (by kernel_rfl) ((Below.refl _ _).drew) (fun hH0 => ?_)
            simp only [List.length_cons, List.length_nil, Nat.reduceAdd, List.replicate_succ, List.replicate_zero]
            refine takeD (i := 0) (d := 104) (v := .bool false) rfl rfl (by kernel_rfl) (by kernel_rfl) (by kernel_rfl) (fun _ _ _ h => h) (yldV [(17, .bool false)] (by kernel_rfl) rfl (by kernel_rfl) ?_) hH0 ?_
            · intro w hSw; go_simp
            dsimp only [List.set_cons_zero, List.set_cons_succ]
            refine takeD (i := 1) (d := 105) (v := .bool false) rfl rfl (by kernel_rfl) (by kernel_rfl) (by kernel_rfl) (fun _ _ _ h => h) (yldV [(104, .bool false)] (by kernel_rfl) rfl (by kernel_rfl) ?_) hH0 ?_
            · intro w hSw; go_simp
            dsimp only [List.set_cons_zero, List.set_cons_succ]
            refine takeD (i := 2) (d := 106) (v := .int .i64 z) rfl rfl (by kernel_rfl) (by kernel_rfl) (by kernel_rfl) (fun _ _ _ h => h) (yldV [(20, .int .i64 z)] (by kernel_rfl) rfl (by kernel_rfl) ?_) hH0 ?_
            · intro w hSw; go_simp
            dsimp only [List.set_cons_zero, List.set_cons_succ]
            refine takeD (i := 3) (d := 107) (v := .pointer (some ⟨N14, 1, none⟩)) rfl rfl (by kernel_rfl) (by kernel_rfl) (by kernel_rfl) (fun _ _ _ h => h) (yldV [(16, .pointer (some ⟨N14, 0, none⟩))] (by kernel_rfl) rfl (by kernel_rfl) ?_) hH0 ?_
            · intro w hSw; go_simp
            dsimp only [List.set_cons_zero, List.set_cons_succ]
            refine takeD (i := 4) (d := 108) (v := .int .i64 xf) rfl rfl (by kernel_rfl) (by kernel_rfl) (by kernel_rfl) (fun _ _ _ h => h) (yldV [(107, .pointer (some ⟨N14, 1, none⟩))] (by kernel_rfl) rfl (by kernel_rfl) ?_) hH0 ?_
            · intro w hSw; have q := (HCW.out w hSw); obtain ⟨q1, q2⟩ := q; go_simp
            dsimp only [List.set_cons_zero, List.set_cons_succ]
            refine takeD (i := 5) (d := 109) (v := .bool (z == xf)) rfl rfl (by kernel_rfl) (by kernel_rfl) (by kernel_rfl) (fun _ _ _ h => h) (yldV [(106, .int .i64 z), (108, .int .i64 xf)] (by kernel_rfl) rfl (by kernel_rfl) ?_) hH0 ?_
            · intro w hSw; go_simp
            dsimp only [List.set_cons_zero, List.set_cons_succ]
            refine takeD (i := 6) (d := 110) (v := .bool (z == xf)) rfl rfl (by kernel_rfl) (by kernel_rfl) (by kernel_rfl) (fun _ _ _ h => h) (yldV [(105, .bool false), (109, .bool (z == xf))] (by kernel_rfl) rfl (by kernel_rfl) ?_) hH0 ?_
            · intro w hSw; go_simp
            dsimp only [List.set_cons_zero, List.set_cons_succ]
            refine takeD (i := 7) (d := 111) (v := .bool false) rfl rfl (by kernel_rfl) (by kernel_rfl) (by kernel_rfl) (fun _ _ _ h => h) (yldV [(18, .bool false)] (by kernel_rfl) rfl (by kernel_rfl) ?_) hH0 ?_
            · intro w hSw; go_simp
            dsimp only [List.set_cons_zero, List.set_cons_succ]
            refine takeD (i := 8) (d := 112) (v := .bool false) rfl rfl (by kernel_rfl) (by kernel_rfl) (by kernel_rfl) (fun _ _ _ h => h) (yldV [(111, .bool false)] (by kernel_rfl) rfl (by kernel_rfl) ?_) hH0 ?_
            · intro w hSw; go_simp
            dsimp only [List.set_cons_zero, List.set_cons_succ]
            refine takeD (i := 9) (d := 113) (v := .int .i64 z) rfl rfl (by kernel_rfl) (by kernel_rfl) (by kernel_rfl) (fun _ _ _ h => h) (yldV [(20, .int .i64 z)] (by kernel_rfl) rfl (by kernel_rfl) ?_) hH0 ?_
            · intro w hSw; go_simp
            dsimp only [List.set_cons_zero, List.set_cons_succ]
            refine takeD (i := 10) (d := 114) (v := .pointer (some ⟨N14, 2, none⟩)) rfl rfl (by kernel_rfl) (by kernel_rfl) (by kernel_rfl) (fun _ _ _ h => h) (yldV [(16, .pointer (some ⟨N14, 0, none⟩))] (by kernel_rfl) rfl (by kernel_rfl) ?_) hH0 ?_
            · intro w hSw; go_simp
            dsimp only [List.set_cons_zero, List.set_cons_succ]
            refine takeD (i := 11) (d := 115) (v := .int .i64 xt) rfl rfl (by kernel_rfl) (by kernel_rfl) (by kernel_rfl) (fun _ _ _ h => h) (yldV [(114, .pointer (some ⟨N14, 2, none⟩))] (by kernel_rfl) rfl (by kernel_rfl) ?_) hH0 ?_
            · intro w hSw; have q := (HCW.out w hSw); obtain ⟨q1, q2⟩ := q; go_simp
            dsimp only [List.set_cons_zero, List.set_cons_succ]
            refine takeD (i := 12) (d := 116) (v := .bool (z == xt)) rfl rfl (by kernel_rfl) (by kernel_rfl) (by kernel_rfl) (fun _ _ _ h => h) (yldV [(113, .int .i64 z), (115, .int .i64 xt)] (by kernel_rfl) rfl (by kernel_rfl) ?_) hH0 ?_
            · intro w hSw; go_simp
            dsimp only [List.set_cons_zero, List.set_cons_succ]
            refine takeD (i := 13) (d := 117) (v := .bool (z == xt)) rfl rfl (by kernel_rfl) (by kernel_rfl) (by kernel_rfl) (fun _ _ _ h => h) (yldV [(112, .bool false), (116, .bool (z == xt))] (by kernel_rfl) rfl (by kernel_rfl) ?_) hH0 ?_
            · intro w hSw; go_simp
            dsimp only [List.set_cons_zero, List.set_cons_succ]
            refine takeD (i := 14) (d := 17) (v := .bool (z == xf)) rfl rfl (by kernel_rfl) (by kernel_rfl) (by kernel_rfl) (fun _ _ _ h => h) (yldV [(110, .bool (z == xf))] (by kernel_rfl) rfl (by kernel_rfl) ?_) hH0 ?_
            · intro w hSw; go_simp
            dsimp only [List.set_cons_zero, List.set_cons_succ]
            refine takeD (i := 15) (d := 18) (v := .bool (z == xt)) rfl rfl (by kernel_rfl) (by kernel_rfl) (by kernel_rfl) (fun _ _ _ h => h) (yldV [(117, .bool (z == xt))] (by kernel_rfl) rfl (by kernel_rfl) ?_) hH0 ?_
            · intro w hSw; go_simp
            dsimp only [List.set_cons_zero, List.set_cons_succ]
            refine wpAnyH_done (by kernel_rfl) ?_ _
            have HF3 := Lib.hid' (show (z == xf) = (P.take (k + 1)).any (fun y => y == xf) ∧ (z == xt) = (P.take (k + 1)).any (fun y => y == xt) by rw [HF2.out.1, HF2.out.2]; exact ⟨rfl, rfl⟩)
            have HW2 := Lib.hid' (HW.out.trans (Below.mono hH0 HW.out.size))
            clear HF2 HCW
            go_wp2_with fail
            go_roundw
            case rel => exact ⟨k + 1, (z == xf), (z == xt), by go_num, rfl, rfl, by omega, HF3, HW2⟩
            case measure => simp [intOf]; omega
end Go.Proofs.YtinbcehlpfnlaaaGreatDoor

namespace Go.Proofs.YtinbcehlpfnlaaaGreatDoor
open Go.ChangeShapes Go.WideShapes Go.ChangeAt Go.RowKit
set_option linter.unusedSimpArgs false
set_option linter.unusedVariables false
set_option maxRecDepth 100000
theorem sumLaw : RSumLaw := fun t ta tc ka kc fa fc w hT hl hK hF => rsum_any t ta tc ka kc fa fc w hT hl hK hF
def laidL : List (String × DataW Unit) := Rows.planOfRow.laid
theorem door_met (os : Os) (args : Array Value) : laidMetH Tryz.prog laidL ((World.doorLaid Tryz.prog 19 os).forCall (fun _ _ => 0) ⟨#[], args, []⟩).memory :=
  laidMetH_of_parts3 (fuel := 8) (laidMet_of_run' 8 (by kernel_rfl) (by kernel_rfl)) (by kernel_rfl) (by kernel_rfl)
theorem planOf_lifted (os : Os) (started : os.Started) (H : Type) (enc : TypeId × Value → H) :
    ReturnsInHanded {} Tryz.checked os 3 .any (fun w args => (Rows.planOfSpec.pre enc Tryz.prog Tryz.f3 [] false w args ∧ laidMetH Tryz.prog laidL w) ∧ sizedMet enc Tryz.prog Tryz.f3 (OpenSpec.ofChange Rows.planOfSpec) false w args)
      (Rows.planOfSpec.post enc Tryz.prog Tryz.f3 false true false false) := by
  refine returnsInHanded_of_change_and (C := Tryz.checked) (X := fun w _ => laidMetH Tryz.prog laidL w) (fun _ _ _ hh h => h.of_heap hh) own0 started (by kernel_rfl) Tryz.func3
    (ChangeSpec.witness_shaped (enc := enc) (C := Tryz.checked) (os := os) (X := fun w _ => laidMetH Tryz.prog laidL w) false (World.doorLaid Tryz.prog 19 os) #[.slice none 0 0, .int .i64 0] 8 rfl (World.shaped_of_RefB (by kernel_rfl) (by kernel_rfl)) (by kernel_rfl) (by kernel_rfl) (by kernel_rfl) (door_met os _)) ?_
  intro W base args ds gs before hval0 hW _ _ hL _
  have hval : ∀ (j : Nat) t v, Tryz.f3.params[j]? = some t → args[j]? = some v → Value.okWide Tryz.prog W .any base t v := hval0
  have hW' := hW
  obtain ⟨p, q, hA0, hV, rfl, _, _⟩ := hW
  have hA : DataW.TrodAll enc Tryz.prog W 0 (fun _ => true) true Tryz.f3.params.toList args.toList ds p := hA0
  rw [Tryz.params3] at hA hval
  obtain ⟨v0, v1, d0, d1, p0, p1, rfl, rfl, rfl, h0, h1⟩ := trodAll_two hA
  obtain ⟨rfl, rfl⟩ := trodVars_none hV
  clear hA0 hval0
  simp only [List.append_nil, List.append_assoc] at hW'
  have hlt : ∀ x ∈ p0 ++ p1, x.block < W.heap.size := fun x hx => by simpa using hW'.lt x hx
  have k0 : ∀ W', Below W.heap.size W W' → DataW.Trod enc Tryz.prog W' 0 (fun b => decide (b < W.heap.size)) true _ v0 d0 p0 := fun W' hb => Below.trod laidOut0 (by kernel_rfl) (of_decide_eq_true (by kernel_rfl)) h0 hb (fun x hx => hlt x (by simp [hx]))
  have k1 : ∀ W', Below W.heap.size W W' → DataW.Trod enc Tryz.prog W' 0 (fun b => decide (b < W.heap.size)) true _ v1 d1 p1 := fun W' hb => Below.trod laidOut0 (by kernel_rfl) (of_decide_eq_true (by kernel_rfl)) h1 hb (fun x hx => hlt x (by simp [hx]))
  obtain ⟨a0, n0, c0, rfl⟩ := okWide_slice Tryz.underlying22 (hval 0 _ v0 rfl rfl)
  obtain ⟨X0, rfl, hm0⟩ := rd_mfs (a := a0) (n := n0) (c := c0) (by simpa [Value.cells] using Rd.of_trod h0)
  obtain ⟨x1, rfl, _, _, w1⟩ := open_int Tryz.underlying3 (hval 1 _ v1 rfl rfl) h1
  refine (planOf_any sumLaw X0 a0 c0 x1 W hm0 (laid_of hL) (ir_wf w1)).mono fun e W' ⟨he, hb⟩ => ?_
  subst he
  exact ⟨_, rfl, _, _, _, [], p0 ++ p1, [], hW', trodAll_mk1 (shut_bool Tryz.underlying4 _), trodAll_mk2 (k0 _ hb) (k1 _ hb), rfl, hb.frame _, fun h => by cases h⟩

theorem planOf_row : Rows.PlanOfSaid :=
  OpenClaim.holds_of_wide 3 Tryz.f3 rfl rfl rfl rfl rfl rfl rfl ⟨rfl, rfl, rfl, rfl, rfl⟩ rfl rfl rfl rfl rfl (by kernel_rfl) Tryz.func3 (by kernel_rfl)
    (of_decide_eq_true (by kernel_rfl)) (by unfold Func.isWrapper; first | (rw [if_pos (by decide +kernel)]; kernel_rfl) | (rw [if_neg (by decide +kernel)]; exact ⟨rfl, rfl⟩))
    (fun os started H enc _ => planOf_lifted os started H enc)
theorem planOf_holds : Rows.PlanOfCardSaid :=
  Claim7.holds_tied_plain_at .later [] [.data, .data] true Rows.planOfCard.stood.harness true
    planOf_row (fun _ h => by cases h) (by kernel_rfl) (fun _ h => by cases h) planOf_row_tie rfl ⟨rfl, rfl⟩ (by kernel_rfl) rfl
    (fun f fn hf hfn => by
      obtain rfl : f = 3 := Option.some.inj ((show Tryz.prog.funcNamed "holdfast/holdfastlaw21.PlanOf" = some 3 by kernel_rfl).symm.trans hf) |>.symm
      obtain rfl : fn = Tryz.f3 := (Option.some.inj (Tryz.func3.symm.trans hfn)).symm
      exact ⟨by kernel_rfl, fun j t ht => by
        rw [Tryz.params3] at ht
        have hm : t ∈ [22, 3] := by have := Array.mem_of_getElem? ht; first | (simpa using this) | (simp at this; rcases this with rfl | rfl | rfl <;> simp)
        have hall : ([22, 3].all fun u => !Tryz.prog.wantsStandIn u) = true := by kernel_rfl
        exact (show Tryz.prog.wantsStandIn t = false by simpa using List.all_eq_true.1 hall t hm)⟩)
    (by kernel_rfl)
#print axioms planOf_holds
end Go.Proofs.YtinbcehlpfnlaaaGreatDoor
