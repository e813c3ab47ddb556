import Derived.Test.YtjkbcjliaacebaaRefZ
import Derived.Laws.StructEq
namespace Go.Proofs.Ytjkbcjliaacebaa
open Go.RowKit
set_option linter.unusedSimpArgs false
set_option linter.unusedVariables false
set_option maxRecDepth 20000

theorem eqIn_rent_n (n : Nat) (a k a' k' : Int) (s s' : ByteArray) (w : World) : (Op.equalIn (n + 5) 169 (.agg #[.int .i64 a, .int .i64 k, .string s]) (.agg #[.int .i64 a', .int .i64 k', .string s'])).run Try.prog w = .ok (a == a' && (k == k' && s.toList == s'.toList)) w := by
  rw [show n + 5 = (n + 4) + 1 from rfl, run_equalIn_agg w (n+4) 169 _ _ (by kernel_rfl) (by kernel_rfl)]
  simp [Program.fieldsOf, Try.underlying169, go_sem, Op.eqFields]
  by_cases h : a = a'
  · by_cases h1 : k = k'
    · by_cases h2 : s.toList = s'.toList <;> simp [h, h1, h2]
    · simp [h, h1]
  · simp [h]
@[go_sem] theorem eqIn_rent (a k a' k' : Int) (s s' : ByteArray) (w : World) : (Op.equalIn 10000 169 (.agg #[.int .i64 a, .int .i64 k, .string s]) (.agg #[.int .i64 a', .int .i64 k', .string s'])).run Try.prog w = .ok (a == a' && (k == k' && s.toList == s'.toList)) w := eqIn_rent_n 9995 a k a' k' s s' w
theorem eqIn_rcell_n (n : Nat) (k k' : Int) (s s' : ByteArray) (w : World) : (Op.equalIn (n + 3) 125 (.agg #[.int .i64 k, .string s]) (.agg #[.int .i64 k', .string s'])).run Try.prog w = .ok (k == k' && s.toList == s'.toList) w := by
  rw [show n + 3 = (n + 2) + 1 from rfl, run_equalIn_agg w (n+2) 125 _ _ (by kernel_rfl) (by kernel_rfl)]
  simp [Program.fieldsOf, Try.underlying125, go_sem, Op.eqFields]
  by_cases h : k = k'
  · by_cases h' : s.toList = s'.toList <;> simp [h, h']
  · simp [h]
@[go_sem] theorem eqIn_rcell (k k' : Int) (s s' : ByteArray) (w : World) : (Op.equalIn 10000 125 (.agg #[.int .i64 k, .string s]) (.agg #[.int .i64 k', .string s'])).run Try.prog w = .ok (k == k' && s.toList == s'.toList) w := eqIn_rcell_n 9997 k k' s s' w

theorem rent_eq (p q : Int × C) : (p.1 == q.1 && (p.2.k == q.2.k && p.2.d == q.2.d)) = decide (p = q) := by
  obtain ⟨a, k, d⟩ := p; obtain ⟨a', k', d'⟩ := q
  rw [Bool.eq_iff_iff]; simp
@[go_sem] theorem entGuard : Try.prog.eqGuardType Try.prog.depth 169 = false := by kernel_rfl

theorem rSame_any (u v : U) (a1 : Option Addr) (c1 : Nat) (a2 : Option Addr) (c2 : Nat) (w : World) (h : RList w (.slice a1 u.cells.length c1) u.cells) (h' : RList w (.slice a2 v.cells.length c2) v.cells) :
    Calls Try.prog 96 #[ruV u a1 c1, ruV v a2 c2] w fun en w' => en = .returned (.bool (u.rSame v)) ∧ Below w.heap.size w w' := by
  have H := Lib.hid' h
  have H' := Lib.hid' h'
  have hlen : u.cells.length ≤ 9223372036854775807 := by obtain ⟨_, _, he, h1, h2, _⟩ := h; cases he; unfold maxLen at h2; omega
  have hlen2 : v.cells.length ≤ 9223372036854775807 := by obtain ⟨_, _, he, h1, h2, _⟩ := h'; cases he; unfold maxLen at h2; omega
  clear h h'
  unfold ruV
  by_cases he : u.e = v.e
  rotate_left
  · have hf := Lib.hid' (show u.rSame v = false by simp [U.rSame, he])
    go_enter Try.func96, Try.ntmps96
    go_wp2
    refine bodyPost_ret (v := .bool false) (by simp [results, Try.results96, go_sem]) rfl ⟨by rw [hf.out], by go_grown⟩
  by_cases hl : u.l = v.l
  rotate_left
  · have hf := Lib.hid' (show u.rSame v = false by simp [U.rSame, hl])
    go_enter Try.func96, Try.ntmps96
    go_wp2
    refine bodyPost_ret (v := .bool false) (by simp [results, Try.results96, go_sem]) rfl ⟨by rw [hf.out], by go_grown⟩
  by_cases hn : u.cells.length = v.cells.length
  rotate_left
  · have hf := Lib.hid' (show u.rSame v = false by simp only [U.rSame, decide_eq_false_iff_not]; rintro ⟨-, -, h⟩; exact hn (by rw [h]))
    go_enter Try.func96, Try.ntmps96
    go_wp2
    refine bodyPost_ret (v := .bool false) (by simp [results, Try.results96, go_sem]) rfl ⟨by rw [hf.out], by go_grown⟩
  obtain ⟨e, l, uc⟩ := u
  obtain ⟨e', l', vc⟩ := v
  dsimp only at *
  subst he; subst hl
  have HN := Lib.hid' hn
  have hn2 : ((uc.length : Int) != vc.length) = false := by simp [hn]
  have Hf := Lib.hid' (show U.rSame ⟨e, l, uc⟩ ⟨e, l, vc⟩ = decide (uc = vc) by simp [U.rSame])
  clear hn
  go_enter Try.func96, Try.ntmps96
  go_wp2
  have HX := Lib.hid' (Box2.start w e l (.slice a1 uc.length c1) [.int .i64 e, .int .i64 l, .slice a2 vc.length c2] 61 61)
  have HB := Lib.hid' (show Below w.heap.size w ((w.alloc (.cells #[.int .i64 e, .int .i64 l, .slice a1 uc.length c1] 61)).alloc (.cells #[.int .i64 e, .int .i64 l, .slice a2 vc.length c2] 61)) by go_grown)
  have e0 : (w.alloc (.cells #[.int .i64 e, .int .i64 l, .slice a1 uc.length c1] 61)).alloc (.cells [.int .i64 e, .int .i64 l, .slice a2 vc.length c2].toArray 61) = (w.alloc (.cells #[.int .i64 e, .int .i64 l, .slice a1 uc.length c1] 61)).alloc (.cells #[.int .i64 e, .int .i64 l, .slice a2 vc.length c2] 61) := rfl
  rw [e0] at HX; clear e0
  generalize (w.alloc (.cells #[.int .i64 e, .int .i64 l, .slice a1 uc.length c1] 61)).alloc (.cells #[.int .i64 e, .int .i64 l, .slice a2 vc.length c2] 61) = w3 at *
  have HU := Lib.hid' (SlV.below H.out (Nat.le_refl _) HB.out)
  have HV := Lib.hid' (SlV.below H'.out (Nat.le_refl _) HB.out)
  go_loopw [5] (fun v5 wr => ∃ (k : Nat), v5 = .int .i64 k ∧ k ≤ uc.length ∧ uc.take k = vc.take k ∧ Below w3.heap.size w3 wr) (fun v5 _ => uc.length - (intOf v5).toNat)
  case atStart => exact ⟨0, rfl, Nat.zero_le _, by simp, Below.refl _ _⟩
  case round =>
    obtain ⟨k, rfl, hk, htk, hbr⟩ := hrel
    have HTK := Lib.hid' htk
    have HBR := Lib.hid' hbr
    have HXr := Lib.hid' (HX.out.below (Nat.le_refl _) hbr)
    obtain ⟨x0, x1, x2, y0, y1, y2, xr, xf, xs⟩ := HXr.out
    have r2 := xr 2 _ rfl
    clear xr xf htk y0 y1 y2
    by_cases hlt : k < uc.length
    · have HUr : RList wr _ _ := SlV.below HU.out (Nat.le_refl _) hbr
      have HVr : RList wr _ _ := SlV.below HV.out (Nat.le_refl _) hbr
      have hlt2 : k < vc.length := by rw [← HN.out]; exact hlt
      obtain ⟨b, off, rfl, hb, d0, d1, d2⟩ := RList.get HUr hlt
      obtain ⟨b', off', rfl, hb', e0, e1, e2⟩ := RList.get HVr hlt2
      have HQ := Lib.hid' (rent_eq uc[k] vc[k])
      by_cases hq : uc[k] = vc[k]
      · clear hbr
        go_wp2_with fail
        go_region_held3 (fun w' => w'.cell? ⟨w.heap.size, 2, none⟩ = some (.slice (some ⟨b, off, none⟩) uc.length c1) ∧ w'.cell? ⟨w.heap.size + 1, 2, none⟩ = some (.slice (some ⟨b', off', none⟩) vc.length c2) ∧ w'.cell? ⟨b, off + k * 3, none⟩ = some (.int .i64 uc[k].1) ∧ w'.cell? ⟨b, off + k * 3 + 1, none⟩ = some (.int .i64 uc[k].2.k) ∧ w'.cell? ⟨b, off + k * 3 + 2, none⟩ = some (.string (strOf uc[k].2.d)) ∧ w'.cell? ⟨b', off' + k * 3, none⟩ = some (.int .i64 vc[k].1) ∧ w'.cell? ⟨b', off' + k * 3 + 1, none⟩ = some (.int .i64 vc[k].2.k) ∧ w'.cell? ⟨b', off' + k * 3 + 2, none⟩ = some (.string (strOf vc[k].2.d))) (go_keep) (fail)
        go_wp2
        go_roundw
        case rel => exact ⟨k + 1, by go_num, by omega, by rw [take_succ uc k hlt, take_succ vc k hlt2, HTK.out, hq], HBR.out.drew⟩
        case measure => simp [intOf]; omega
      · have Hq := Lib.hid' hq
        have Hd : ¬ uc = vc := by
          intro h; subst h; exact hq rfl
        have HF := Lib.hid' (show U.rSame ⟨e, l, uc⟩ ⟨e, l, vc⟩ = false by rw [Hf.out]; simpa using Hd)
        have hcs : (¬ uc[k].1 = vc[k].1) ∨ (uc[k].1 = vc[k].1 ∧ ¬ uc[k].2.k = vc[k].2.k) ∨ (uc[k].1 = vc[k].1 ∧ uc[k].2.k = vc[k].2.k ∧ ¬ (strOf uc[k].2.d).toList = (strOf vc[k].2.d).toList) := by
          by_cases a1 : uc[k].1 = vc[k].1
          · by_cases a2 : uc[k].2.k = vc[k].2.k
            · refine Or.inr (Or.inr ⟨a1, a2, fun a3 => hq ?_⟩)
              rw [strOf_toList, strOf_toList] at a3
              exact Prod.ext a1 (by cases h1 : uc[k].2; cases h2 : vc[k].2; simp_all)
            · exact Or.inr (Or.inl ⟨a1, a2⟩)
          · exact Or.inl a1
        clear hq Hd
        have HBR2 := Lib.hid' (below_call HB.out HB.out.size hbr)
        clear hbr HQ
        rcases hcs with h1 | ⟨h1, h2⟩ | ⟨h1, h2, h3⟩
        all_goals
          go_wp2_with fail
          go_region_held3 (fun w' => w'.cell? ⟨w.heap.size, 2, none⟩ = some (.slice (some ⟨b, off, none⟩) uc.length c1) ∧ w'.cell? ⟨w.heap.size + 1, 2, none⟩ = some (.slice (some ⟨b', off', none⟩) vc.length c2) ∧ w'.cell? ⟨b, off + k * 3, none⟩ = some (.int .i64 uc[k].1) ∧ w'.cell? ⟨b, off + k * 3 + 1, none⟩ = some (.int .i64 uc[k].2.k) ∧ w'.cell? ⟨b, off + k * 3 + 2, none⟩ = some (.string (strOf uc[k].2.d)) ∧ w'.cell? ⟨b', off' + k * 3, none⟩ = some (.int .i64 vc[k].1) ∧ w'.cell? ⟨b', off' + k * 3 + 1, none⟩ = some (.int .i64 vc[k].2.k) ∧ w'.cell? ⟨b', off' + k * 3 + 2, none⟩ = some (.string (strOf vc[k].2.d))) (go_keep) (fail)
          go_wp2
          refine bodyPost_ret (v := .bool false) (by simp [results, Try.results96, go_sem]) rfl ⟨by rw [HF.out], ?_⟩
          exact HBR2.out.drew
    · go_wp2
      refine bodyPost_ret (v := .bool true) (by simp [results, Try.results96, go_sem]) rfl ⟨?_, ?_⟩
      · have e2 := HTK.out
        rw [List.take_of_length_le (by omega), List.take_of_length_le (by have := HN.out; omega)] at e2
        rw [Hf.out, e2]; simp
      · exact below_call HB.out HB.out.size hbr
end Go.Proofs.Ytjkbcjliaacebaa
