/- Layer 33 (model): Entries. -/
import Derived.Test.YtjkbcjliaacebaaMdlE
import Derived.Test.YtjkbcjliaacebaaEnt
namespace Go.Proofs.Ytjkbcjliaacebaa
open Go.RowKit
set_option linter.unusedSimpArgs false
set_option linter.unusedVariables false
set_option maxRecDepth 20000

theorem HLWm {A : Nat → Prop} {w : World} {bl bm : Nat} {m : M} (h : LogAt A w bl bm m) {L : List (Int × Value)} (hr : F2 (EntIs A w) L m.u.cells) : ∀ p ∈ L, (Lit.int .i64 p.1).wf = true := by
  intro p hp
  obtain ⟨q, hq, hr⟩ := F2.mem_left hr hp
  have h1 := h.ok.u.addr q hq
  have h2 := h.ok.u.l0
  rw [hr.1]
  show (decide _ && decide _) = true
  rw [Bool.and_eq_true]
  exact ⟨decide_eq_true (by show (-9223372036854775808 : Int) ≤ _; omega), decide_eq_true (by show _ ≤ (9223372036854775807 : Int); omega)⟩

theorem mentries_any {A : Nat → Prop} {bl bm : Nat} {m : M} (w : World) (h : LogAt A w bl bm m) (hlen : m.u.cells.length ≤ 1048576) : Calls Try.prog 22 #[.pointer (some ⟨bl, 0, none⟩)] w (EntsR m.u.cells w) := by
  obtain ⟨c0, c1, c2⟩ := h.cell
  have HU := Lib.hid' h
  obtain ⟨L, hm, hrel⟩ := h.map
  have HM := Lib.hid' hm
  have HR := Lib.hid' hrel
  clear h hm hrel
  go_enter Try.func22, Try.ntmps22
  go_wp2_with fail
  refine (keys_any (some bm) w).mono ?_
  rintro en w1 ⟨rfl, rfl⟩
  go_wp2_with fail
  have hlen2 : L.length ≤ 1048576 := by rw [HR.out.length]; exact hlen
  refine (sorted_any bm L w HM.out (HLWm HU.out HR.out) hlen2).mono ?_
  rintro en w2 ⟨ks, rfl, hks, hnil, hb⟩
  have HKS := Lib.hid' hks
  have HB := Lib.hid' hb
  obtain ⟨ka, kc, rfl⟩ := own_shape hks
  clear hks hb hnil
  go_wp2
  have HKL := Lib.hid' (show (sortK L) = sortA m.u.cells by unfold sortK sortA; rw [HR.out.map_eq (f := (·.1)) (g := (·.1)) (fun p q h => h.1)])
  go_loopw [3, 15] (fun vo vi wr => ∃ (k : Nat) (E : List Ent) (a' : Option Addr) (c' : Nat), vo = .slice a' E.length c' ∧ vi = .int .i64 k ∧ k ≤ L.length ∧ E.map noAd = (sortC m.u.cells).take k ∧ wr.ownsRow w2.heap.size 89 3 (.slice a' E.length c') E.length (ents E) ∧ (∀ x ∈ E, wr.ownsRow w2.heap.size 5 1 (.slice x.2.2.1 x.2.1.d.length x.2.2.2) x.2.1.d.length (byteVs x.2.1.d)) ∧ Below w2.heap.size w2 wr) (fun _ vi _ => L.length - (intOf vi).toNat)
  case atStart => exact ⟨0, [], none, 0, rfl, rfl, Nat.zero_le _, by simp, own_nil _ _ _ _, by simp, Below.refl _ _⟩
  case round =>
    obtain ⟨k, E, a', c', rfl, rfl, hk, hE, ho, hx, hbr⟩ := hrel
    have HE := Lib.hid' hE
    have HO := Lib.hid' ho
    have HX := Lib.hid' hx
    have HBW := Lib.hid' (show Below w.heap.size w wr from ((Below.refl w.heap.size w).alloc (Nat.le_refl _) _ |>.trans (HB.out.mono (by omega))).trans (hbr.mono (by have := HB.out.size; simp [kmap] at this; omega)))
    have HBR := Lib.hid' hbr
    clear hE ho hx
    have hKn : (sortK L).length = L.length := by simp [sortK]
    have hKm : (sortA m.u.cells).length = L.length := by rw [← HKL.out]; exact hKn
    have HEl := Lib.hid' (show E.length = k by have := congrArg List.length HE.out; rw [List.length_map, List.length_take, sortC, List.length_map, hKm] at this; omega)
    have hEb : E.length ≤ 1048576 := by have := HEl.out; omega
    by_cases hlt : k < L.length
    · have hkr : SlV wr (.slice ka L.length kc) L.length ((sortK L).map encZ) := SlV.below (SlV.of_own HKS.out) (Nat.le_refl _) hbr
      obtain ⟨kb, ko, rfl, hkb, hkc⟩ := SlV.addr hkr (by intro h0; have := congrArg List.length h0; rw [List.length_map, hKn] at this; simp only [List.length_nil] at this; omega)
      have ck : wr.cell? ⟨kb, ko + k, none⟩ = some (.int .i64 ((sortK L)[k]'(by omega))) := hkc k _ (by rw [List.getElem?_map, List.getElem?_eq_getElem (by omega : k < (sortK L).length)]; rfl)
      have HKe := Lib.hid' (show (sortK L)[k]'(by omega) = (sortA m.u.cells)[k]'(by omega) by simp only [HKL.out])
      have hkk : k < (sortK L).length := by omega
      generalize (sortK L)[k]'hkk = a at ck HKe
      have HNX := Lib.hid' (show (sortC m.u.cells).take (k + 1) = (sortC m.u.cells).take k ++ [(a, lookC m.u.cells a)] by
        rw [take_succ _ k (by simp [sortC, ← HKL.out]; omega)]; simp [sortC, HKe.out])
      clear hkr hkc
      have HUr := Lib.hid' (HU.out.below (Nat.le_refl _) HBW.out)
      obtain ⟨g0, g1, g2⟩ := HUr.out.cell
      obtain ⟨L2, ad, cap, hM2, hv, hB2⟩ := HUr.out.map.look a
      have HM2 := Lib.hid' hM2
      have Hlen := Lib.hid' (look_len HU.out.ok.u a)
      have HV2 := Lib.hid' hv
      have HB2 := Lib.hid' hB2
      clear hM2 hv hB2 hbr
      go_wp2_with (first
        | (at_lookup; refine wp_look (b := bm) (L := L2) mtCells rfl (.tmp 24) (.tmp 25) rfl rfl a rfl HM2.out ?_; rw [HV2.out])
        | (at_builtin; go_loud (refine append_one etEnt rfl (.tmp 19) (.tmp 29) rfl [.int .i64 a, .int .i64 (lookC m.u.cells a).k, .slice ad2 (lookC m.u.cells a).d.length cap2] rfl w2.heap.size _ _ _ rfl HOq.out rfl (one3s _ _ _ _ _) (by omega) hwsq ?_); intro a9 c9 w9 ho9 hf9; have HO9 := Lib.hid' ho9; have HF9 := Lib.hid' hf9; clear ho9 hf9)
        | (go_at_call 64; refine (copy_any _ (lookC m.u.cells a) _ ⟨_, _, rfl, HB2.out⟩ (by have := Hlen.out; omega)).mono ?_; rintro en w5 ⟨ad2, cap2, rfl, ho5, hb5⟩; have HO5 := Lib.hid' ho5; have HB5 := Lib.hid' hb5; have HOq := Lib.hid' (own_below HO.out (Nat.le_refl _) hb5); have hwsq : w2.heap.size ≤ w5.heap.size := Nat.le_trans HBR.out.size hb5.size; clear ho5 hb5))
      refine ⟨⟨k + 1, E ++ [(a, lookC m.u.cells a, ad2, cap2)], a9, c9, by simp, by go_num, by omega, ?_, ?_, ?_, ?_⟩, ?_⟩
      · rw [List.map_append, HE.out, HNX.out]; rfl
      · rw [ents_append, List.length_append]; exact HO9.out
      · intro x hx
        rcases List.mem_append.1 hx with hx | hx
        · have h1 := own_below (HX.out x hx) (Nat.le_refl _) HB5.out
          exact own_fr h1 HF9.out (own_apart h1 HOq.out (by decide))
        · rw [List.mem_singleton] at hx
          subst hx
          exact own_fr (own_base HO5.out HBR.out.size) HF9.out (own_apart HO5.out HOq.out (by decide))
      · exact HF9.out.row HOq.out (Nat.le_refl _) hwsq (below_call HBR.out HBR.out.size HB5.out)
      · simp [intOf]; omega
    · go_wp2
      refine bodyPost_ret (v := .slice a' E.length c') (by simp [results, Try.results22, go_sem]) rfl ?_
      have hws : w.heap.size ≤ w2.heap.size := by have := HB.out.size; simp [kmap] at this; omega
      refine ⟨E, a', c', rfl, ?_, own_base HO.out hws, fun x hx => own_base (HX.out x hx) hws, HBW.out⟩
      rw [HE.out, List.take_of_length_le]
      simp only [sortC, List.length_map, hKm]; omega
end Go.Proofs.Ytjkbcjliaacebaa
