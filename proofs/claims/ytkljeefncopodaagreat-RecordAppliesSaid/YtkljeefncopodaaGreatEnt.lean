import Derived.Test.YtkljeefncopodaaGreatKeys
import Derived.Test.YtkljeefncopodaaGreatUnitW
namespace Go.Proofs.YtkljeefncopodaaGreat
open Go.RowKit
set_option linter.unusedSimpArgs false
set_option linter.unusedVariables false
set_option maxRecDepth 20000

abbrev Ent := Int × C × Option Addr × Nat
def entV (x : Ent) : List Value := [.int .i64 x.1, .int .i64 x.2.1.k, .slice x.2.2.1 x.2.1.d.length x.2.2.2]
def ents (E : List Ent) : List Value := E.flatMap entV
theorem ents_append (L M : List Ent) : ents (L ++ M) = ents L ++ ents M := by simp [ents]
def noAd (x : Ent) : Int × C := (x.1, x.2.1)


theorem etEnt : ElemT Tryz.prog 61 118 3 40 := ElemT.mk' (z := .agg #[.int .i64 0, .int .i64 0, .slice none 0 0]) Tryz.underlying61 (by kernel_rfl) rfl (by decide) (by decide)
def sortA (M : List (Int × C)) : List Int := (M.map (·.1)).mergeSort (fun x y => decide (x ≤ y))
def sortC (M : List (Int × C)) : List (Int × C) := (sortA M).map (fun a => (a, lookC M a))

theorem one3s (a b : Int) (p : Option Addr) (n c : Nat) : ∀ u ∈ [Value.int .i64 a, .int .i64 b, .slice p n c], u.oneCell' = true := by intro u hu; simp at hu; rcases hu with rfl | rfl | rfl <;> rfl

/-- all cells, by their addresses, as a row of the call's own, with data of its own -/
theorem sortC_len (M : List (Int × C)) : (sortC M).length = M.length := by simp [sortC, sortA]
def EntsR (M : List (Int × C)) (w : World) (en : Ending) (w' : World) : Prop :=
  ∃ (E : List Ent) (a : Option Addr) (c : Nat), en = .returned (.slice a E.length c) ∧ E.map noAd = sortC M ∧ w'.ownsRow w.heap.size 118 3 (.slice a E.length c) E.length (ents E) ∧
    (∀ x ∈ E, w'.ownsRow w.heap.size 5 1 (.slice x.2.2.1 x.2.1.d.length x.2.2.2) x.2.1.d.length (byteVs x.2.1.d)) ∧ Below w.heap.size w w'

theorem HLW {A : Nat → Prop} {w : World} {bu bm : Nat} {u : U} (h : UnitAt A w bu bm u) {L : List (Int × Value)} (hr : F2 (EntIs A w) L u.cells) : ∀ p ∈ L, (Lit.int .i64 p.1).wf = true := by
  intro p hp
  obtain ⟨q, hq, hr⟩ := F2.mem_left hr hp
  have h1 := h.ok.addr q hq
  have h2 := h.ok.l0
  rw [hr.1]
  show (decide _ && decide _) = true
  rw [Bool.and_eq_true]
  exact ⟨decide_eq_true (by show (-9223372036854775808 : Int) ≤ _; omega), decide_eq_true (by show _ ≤ (9223372036854775807 : Int); omega)⟩

theorem look_len {u : U} (h : u.ok) (a : Int) : (lookC u.cells a).d.length ≤ 64 := by
  cases ha : u.cells.any (·.1 == a) with
  | true => exact (h.kind _ (lookC_mem ha)).2
  | false => rw [lookC_none ha]; exact Nat.zero_le _

theorem entries_any {A : Nat → Prop} {bu bm : Nat} {u : U} (w : World) (h : UnitAt A w bu bm u) (hlen : u.cells.length ≤ 1048576) : Calls Tryz.prog 63 #[.pointer (some ⟨bu, 0, none⟩)] w (EntsR u.cells w) := by
  obtain ⟨c0, c1, c2⟩ := h.cell
  have HU := Lib.hid' h
  obtain ⟨L, hm, hrel⟩ := h.map
  have HM := Lib.hid' hm
  have HR := Lib.hid' hrel
  clear h hm hrel
  go_enter Tryz.func63, Tryz.ntmps63
  go_wp2_with fail
  refine (keys_any (some bm) w).mono ?_
  rintro en w1 ⟨rfl, rfl⟩
  go_wp2_with fail
  have hlen2 : L.length ≤ 1048576 := by rw [HR.out.length]; exact hlen
  refine (sorted_any bm L w HM.out (HLW HU.out HR.out) hlen2).mono ?_
  rintro en w2 ⟨ks, rfl, hks, hnil, hb⟩
  have HKS := Lib.hid' hks
  have HB := Lib.hid' hb
  obtain ⟨ka, kc, rfl⟩ := own_shape hks
  clear hks hb hnil
  go_wp2
  have HKL := Lib.hid' (show (sortK L) = sortA u.cells by unfold sortK sortA; rw [HR.out.map_eq (f := (·.1)) (g := (·.1)) (fun p q h => h.1)])
  go_loopw [3, 15] (fun vo vi wr => ∃ (k : Nat) (E : List Ent) (a' : Option Addr) (c' : Nat), vo = .slice a' E.length c' ∧ vi = .int .i64 k ∧ k ≤ L.length ∧ E.map noAd = (sortC u.cells).take k ∧ wr.ownsRow w2.heap.size 118 3 (.slice a' E.length c') E.length (ents E) ∧ (∀ x ∈ E, wr.ownsRow w2.heap.size 5 1 (.slice x.2.2.1 x.2.1.d.length x.2.2.2) x.2.1.d.length (byteVs x.2.1.d)) ∧ Below w2.heap.size w2 wr) (fun _ vi _ => L.length - (intOf vi).toNat)
  case atStart => exact ⟨0, [], none, 0, rfl, rfl, Nat.zero_le _, by simp, own_nil _ _ _ _, by simp, Below.refl _ _⟩
  case round =>
    obtain ⟨k, E, a', c', rfl, rfl, hk, hE, ho, hx, hbr⟩ := hrel
    have HE := Lib.hid' hE
    have HO := Lib.hid' ho
    have HX := Lib.hid' hx
    have HBW := Lib.hid' (show Below w.heap.size w wr from ((Below.refl w.heap.size w).alloc (Nat.le_refl _) _ |>.trans (HB.out.mono (by omega))).trans (hbr.mono (by have := HB.out.size; simp [kmap] at this; omega)))
    have HBR := Lib.hid' hbr
    clear hE ho hx
    have hKn : (sortK L).length = L.length := by simp [sortK]
    have hKm : (sortA u.cells).length = L.length := by rw [← HKL.out]; exact hKn
    have HEl := Lib.hid' (show E.length = k by have := congrArg List.length HE.out; rw [List.length_map, List.length_take, sortC, List.length_map, hKm] at this; omega)
    have hEb : E.length ≤ 1048576 := by have := HEl.out; omega
    by_cases hlt : k < L.length
    · have hkr : SlV wr (.slice ka L.length kc) L.length ((sortK L).map encZ) := SlV.below (SlV.of_own HKS.out) (Nat.le_refl _) hbr
      obtain ⟨kb, ko, rfl, hkb, hkc⟩ := SlV.addr hkr (by intro h0; have := congrArg List.length h0; rw [List.length_map, hKn] at this; simp only [List.length_nil] at this; omega)
      have ck : wr.cell? ⟨kb, ko + k, none⟩ = some (.int .i64 ((sortK L)[k]'(by omega))) := hkc k _ (by rw [List.getElem?_map, List.getElem?_eq_getElem (by omega : k < (sortK L).length)]; rfl)
      have HKe := Lib.hid' (show (sortK L)[k]'(by omega) = (sortA u.cells)[k]'(by omega) by simp only [HKL.out])
      have hkk : k < (sortK L).length := by omega
      generalize (sortK L)[k]'hkk = a at ck HKe
      have HNX := Lib.hid' (show (sortC u.cells).take (k + 1) = (sortC u.cells).take k ++ [(a, lookC u.cells a)] by
        rw [take_succ _ k (by simp [sortC, ← HKL.out]; omega)]; simp [sortC, HKe.out])
      clear hkr hkc
      have HUr := Lib.hid' (HU.out.below (Nat.le_refl _) HBW.out)
      obtain ⟨g0, g1, g2⟩ := HUr.out.cell
      obtain ⟨L2, ad, cap, hM2, hv, hB2⟩ := HUr.out.map.look a
      have HM2 := Lib.hid' hM2
      have Hlen := Lib.hid' (look_len HU.out.ok a)
      have HV2 := Lib.hid' hv
      have HB2 := Lib.hid' hB2
      clear hM2 hv hB2 hbr
      go_wp2_with (first
        | (at_lookup; refine wp_look (b := bm) (L := L2) mtCells rfl (.tmp 24) (.tmp 25) rfl rfl a rfl HM2.out ?_; rw [HV2.out])
        | (at_builtin; go_loud (refine append_one etEnt rfl (.tmp 19) (.tmp 29) rfl [.int .i64 a, .int .i64 (lookC u.cells a).k, .slice ad2 (lookC u.cells a).d.length cap2] rfl w2.heap.size _ _ _ rfl HOq.out rfl (one3s _ _ _ _ _) (by omega) hwsq ?_); intro a9 c9 w9 ho9 hf9; have HO9 := Lib.hid' ho9; have HF9 := Lib.hid' hf9; clear ho9 hf9)
        | (go_at_call 71; refine (copy_any _ (lookC u.cells a) _ ⟨_, _, rfl, HB2.out⟩ (by have := Hlen.out; omega)).mono ?_; rintro en w5 ⟨ad2, cap2, rfl, ho5, hb5⟩; have HO5 := Lib.hid' ho5; have HB5 := Lib.hid' hb5; have HOq := Lib.hid' (own_below HO.out (Nat.le_refl _) hb5); have hwsq : w2.heap.size ≤ w5.heap.size := Nat.le_trans HBR.out.size hb5.size; clear ho5 hb5))
      refine ⟨⟨k + 1, E ++ [(a, lookC u.cells a, ad2, cap2)], a9, c9, by simp, by go_num, by omega, ?_, ?_, ?_, ?_⟩, ?_⟩
      · rw [List.map_append, HE.out, HNX.out]; rfl
      · rw [ents_append, List.length_append]; exact HO9.out
      · intro x hx
        rcases List.mem_append.1 hx with hx | hx
        · have h1 := own_below (HX.out x hx) (Nat.le_refl _) HB5.out
          exact own_fr h1 HF9.out (own_apart h1 HOq.out (by decide))
        · rw [List.mem_singleton] at hx
          subst hx
          exact own_fr (own_base HO5.out HBR.out.size) HF9.out (own_apart HO5.out HOq.out (by decide))
      · exact HF9.out.row HOq.out (Nat.le_refl _) hwsq (below_call HBR.out HBR.out.size HB5.out)
      · simp [intOf]; omega
    · go_wp2
      refine bodyPost_ret (v := .slice a' E.length c') (by simp [results, Tryz.results63, go_sem]) rfl ?_
      have hws : w.heap.size ≤ w2.heap.size := by have := HB.out.size; simp [kmap] at this; omega
      refine ⟨E, a', c', rfl, ?_, own_base HO.out hws, fun x hx => own_base (HX.out x hx) hws, HBW.out⟩
      rw [HE.out, List.take_of_length_le]
      simp only [sortC, List.length_map, hKm]; omega
end Go.Proofs.YtkljeefncopodaaGreat
