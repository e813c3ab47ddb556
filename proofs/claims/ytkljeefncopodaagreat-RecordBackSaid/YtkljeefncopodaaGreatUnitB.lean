/- Layer 8 (unit): the methods that change a unit. -/
import Derived.Test.YtkljeefncopodaaGreatUnit
namespace Go.Proofs.YtkljeefncopodaaGreat
open Go.RowKit
set_option linter.unusedSimpArgs false
set_option linter.unusedVariables false
set_option maxRecDepth 20000

def IsCell (v : Value) : Prop := ∃ k a n c, v = .agg #[.int .i64 k, .slice a n c]

def DelR (p : Int → Bool) (b : Nat) (L : List (Int × Value)) (w : World) (e : Ending) (w' : World) : Prop :=
  e = .returned (.tuple #[]) ∧ MapAt w' b (L.filter (fun q => !p q.1)) ∧ Fr (· = b) w w'

theorem del_step {L left pre post : List (Int × Value)} {p : Int → Bool} {x : Int} {v : Value} {k : Bool} (hp : p x = k) (hl : left = pre ++ (x, v) :: post) (hn : (left.map (·.1)).Nodup) :
    (if k then delE (L.filter (fun q => !p q.1 || left.any (·.1 == q.1))) x else L.filter (fun q => !p q.1 || left.any (·.1 == q.1))) = L.filter (fun q => !p q.1 || (pre ++ post).any (·.1 == q.1)) := by
  subst hl
  simp only [List.map_append, List.map_cons, List.nodup_append, List.nodup_cons] at hn
  have hx : ∀ q ∈ pre ++ post, q.1 ≠ x := fun q hq he => by
    rcases List.mem_append.1 hq with hq | hq
    · exact hn.2.2 _ (List.mem_map_of_mem hq) _ List.mem_cons_self he
    · exact hn.2.1.1 (by rw [← he]; exact List.mem_map_of_mem hq)
  have hany : (pre ++ post).any (fun q => q.1 == x) = false := by
    rw [List.any_eq_false]; intro q hq; simpa using hx q hq
  cases k with
  | true =>
    simp only [if_true, delE, List.filter_filter]
    refine List.filter_congr fun q hq => ?_
    by_cases hqx : q.1 = x
    · rw [hqx, hp, hany]; simp
    · have e1 : (x == q.1) = false := by simp; exact fun h => hqx h.symm
      simp [hqx, e1, List.any_append, List.any_cons]
  | false =>
    simp only [Bool.false_eq_true, if_false]
    refine List.filter_congr fun q hq => ?_
    by_cases hqx : q.1 = x
    · rw [hqx, hp]; simp
    · have e1 : (x == q.1) = false := by simp; exact fun h => hqx h.symm
      simp [e1, List.any_append, List.any_cons]

set_option maxHeartbeats 1000000 in
theorem deleteFunc_any (fid : Nat) (caps : Array Value) (p : Int → Bool) (b : Nat) (L : List (Int × Value)) (w : World) (h : MapAt w b L) (hL : ∀ q ∈ L, IsCell q.2)
    (hcf : ∀ args w, (callFunc fid args).run Tryz.prog w = .ok (.enter fid args) w) (hcall : Hid (∀ w2 x v, Fr (· = b) w w2 → IsCell v → Calls Tryz.prog fid (#[.int .i64 x, v] ++ caps) w2 (fun e w' => e = .returned (.bool (p x)) ∧ Below w2.heap.size w2 w'))) :
    Calls Tryz.prog 135 #[.map (some b), .func (.func fid) #[] caps] w (DelR p b L w) := by
  have HL := h
  go_enter Tryz.func135, Tryz.ntmps135
  go_wp2_with (refine wp_range mtCells rfl _ rfl rfl HL ?_; intro w1 hi hb1 hz1)
  go_frame
  go_loopw [5] (fun _ wr => ∃ left last, IterAt wr w.heap.size b (L.filter (fun q => !p q.1 || left.any (·.1 == q.1))) left last ∧ left.Sublist L ∧ Fr (· = b) w wr) (fun _ wr => iterLeft wr w.heap.size)
  case atStart =>
    refine ⟨L, none, ?_, List.Sublist.refl _, Fr.of_below hb1⟩
    rw [List.filter_eq_self.2]; exact hi
    intro q hq; simp; right; exact ⟨_, hq⟩
  case round =>
    obtain ⟨left, last, hit, hsub, hfr⟩ := hrel
    have hlt := hit.lt
    have hm := hit.left_eq
    clear hi hb1 hz1
    go_wp2_with (refine wp_next rfl _ rfl rfl hit ?_ ?_)
    · intro hl w' hbw hh
      have HH : Hid (w'.heap = wr.heap) := hh
      subst hl
      clear hh hm hlt hcf
      go_wp2
      go_end0
      refine ⟨rfl, ?_, hfr.trans_below hbw⟩
      have h3 := hit.map.block (w' := w') (by rw [HH.out])
      simpa using h3
    · intro w2 x v pre post hl hit2 hf2
      have hv : IsCell v := hL (x, v) (hsub.mem (by rw [hl]; simp))
      have hv' := hv
      obtain ⟨k, a, n, c, rfl⟩ := hv
      have HL2 : Hid (left = pre ++ (x, .agg #[.int .i64 k, .slice a n c]) :: post) := hl
      clear hl hlt hL HL
      have hlt2 := hit2.lt
      go_wp2_with (refine wp_entry rfl _ rfl rfl hit2 ?_)
      have hfr2 : Fr (· = b) w w2 := hfr.trans hf2 (fun i hi => Or.inr (by omega))
      refine (hcall.out _ _ _ (hfr2.trans_below ((Below.refl _ _).alloc (Nat.le_refl _) _)) hv').mono ?_
      rintro e w3 ⟨rfl, hb3⟩
      have hb23 : Below w2.heap.size w2 w3 := below_call ((Below.refl _ _).alloc (Nat.le_refl _) _) (by simp) hb3
      have hfr3 : Fr (· = b) w w3 := hfr2.trans_below hb23
      have hit3 : IterAt w3 w.heap.size b (L.filter (fun q => !p q.1 || left.any (·.1 == q.1))) (pre ++ post) (some (x, .agg #[.int .i64 k, .slice a n c])) :=
        hit2.blocks (hb23.block _ hit2.map.lt) (hb23.block _ hlt2)
      have hnd : (left.map (·.1)).Nodup := h.nodup.sublist (hsub.map _)
      clear hb3 hit2 hf2 hfr2 hfr hlt2 hv' hcf hb23
      cases hp : p x with
      | true =>
        go_wp2_with (at_delete; refine wp_del (b := b) (x0 := x) mtCells rfl (.tmp 17) (.tmp 18) rfl rfl rfl hit3 ?hl ?_)
        case hl =>
          intro q hq he
          have h1 := HL2.out
          rw [h1] at hnd
          simp only [List.map_append, List.map_cons, List.nodup_append, List.nodup_cons] at hnd
          rcases List.mem_append.1 hq with hq | hq
          · exact hnd.2.2 _ (List.mem_map_of_mem hq) _ List.mem_cons_self he
          · exact hnd.2.1.1 (by rw [← he]; exact List.mem_map_of_mem hq)
        intro w4 hit4 hf4 hz4
        go_wp2
        go_roundw
        case rel =>
          refine ⟨pre ++ post, none, ?_, ?_, ?_⟩
          · rw [← del_step (k := true) hp HL2.out hnd]; exact hit4
          · exact List.Sublist.trans (by rw [HL2.out]; simp) hsub
          · exact hfr3.trans hf4 (fun i hi => Or.inl hi)
        case measure =>
          rw [hm, hit4.left_eq, HL2.out]; simp
      | false =>
        go_wp2
        go_roundw
        case rel =>
          refine ⟨pre ++ post, some (x, .agg #[.int .i64 k, .slice a n c]), ?_, ?_, hfr3⟩
          · rw [← del_step (k := false) hp HL2.out hnd]; exact hit3
          · exact List.Sublist.trans (by rw [HL2.out]; simp) hsub
        case measure =>
          rw [hm, hit3.left_eq, HL2.out]; simp

/-- the unit then: what was there stays, but for its own two blocks -/
def UnitR (v : Value) (A : Nat → Prop) (bu bm : Nat) (u : U) (w : World) (en : Ending) (w' : World) : Prop :=
  en = .returned v ∧ UnitAt A w' bu bm u ∧ Fr (fun k => k = bu ∨ k = bm) w w'
theorem UnitR.same {v : Value} {A : Nat → Prop} {bu bm : Nat} {u : U} {w : World} {en : Ending} {w' : World} (h : UnitAt A w bu bm u) (he : en = .returned v) (hb : Below w.heap.size w w') : UnitR v A bu bm u w en w' :=
  ⟨he, h.below (Nat.le_refl _) hb, Fr.of_below hb⟩

theorem UnitAt.set0 {A : Nat → Prop} {w : World} {bu bm : Nat} {u : U} (h : UnitAt A w bu bm u) {e : Int} (hok : U.ok { u with e := e }) : UnitAt A (w.setCell ⟨bu, 0, none⟩ (.int .i64 e)) bu bm { u with e := e } := by
  have hne := h.ne
  have hf : Fr (· = bu) w (w.setCell ⟨bu, 0, none⟩ (.int .i64 e)) := ⟨rfl, rfl, rfl, by simp, fun k _ hk => heap_setCell_other _ _ _ _ hk⟩
  exact ⟨heap_setCell_same w bu 0 _ _ _ h.blk, h.map.fr hf (heap_setCell_other _ _ _ _ (fun e => hne e.symm)) (fun k hk => by rw [hk]; exact h.abu), hok, h.abu, h.abm⟩
theorem UnitAt.set1 {A : Nat → Prop} {w : World} {bu bm : Nat} {u : U} (h : UnitAt A w bu bm u) {l : Int} (hok : U.ok { u with l := l }) : UnitAt A (w.setCell ⟨bu, 1, none⟩ (.int .i64 l)) bu bm { u with l := l } := by
  have hne := h.ne
  have hf : Fr (· = bu) w (w.setCell ⟨bu, 1, none⟩ (.int .i64 l)) := ⟨rfl, rfl, rfl, by simp, fun k _ hk => heap_setCell_other _ _ _ _ hk⟩
  exact ⟨heap_setCell_same w bu 1 _ _ _ h.blk, h.map.fr hf (heap_setCell_other _ _ _ _ (fun e => hne e.symm)) (fun k hk => by rw [hk]; exact h.abu), hok, h.abu, h.abm⟩
theorem fr_setCell (w : World) (b o : Nat) (v : Value) : Fr (· = b) w (w.setCell ⟨b, o, none⟩ v) := ⟨rfl, rfl, rfl, by simp, fun k _ hk => heap_setCell_other _ _ _ _ hk⟩

theorem seal_any {A : Nat → Prop} {bu bm : Nat} {u : U} (e : Int) (w : World) (h : UnitAt A w bu bm u) :
    Calls Tryz.prog 76 #[.pointer (some ⟨bu, 0, none⟩), .int .i64 e] w (UnitR (.tuple #[.int .i64 (u.sealE e).2.1, errV (u.sealE e).1]) A bu bm (u.sealE e).2.2 w) := by
  have H := Lib.hid' h
  obtain ⟨c0, _, _⟩ := h.cell
  have f0 := h.free 0
  have hok := Lib.hid' (U.ok_sealE h.ok e)
  have hlt := h.lt.1
  clear h
  cases hin : inR e 1099511627776 with
  | false =>
    have Hf := Lib.hid' (show u.sealE e = (1, 0, u) by simp [U.sealE, hin])
    go_enter Tryz.func76, Tryz.ntmps76
    go_wp2_with (go_at_call 67; refine (in_any _ _ _).mono ?_; rintro en w' ⟨rfl, rfl⟩; rw [hin])
    go_ret2
    rw [Hf.out]
    exact UnitR.same H.out rfl (Below.refl _ _)
  | true =>
    by_cases hle : e ≤ u.e
    · have Hf := Lib.hid' (show u.sealE e = (6, 0, u) by simp [U.sealE, hin, hle])
      go_enter Tryz.func76, Tryz.ntmps76
      go_wp2_with (go_at_call 67; refine (in_any _ _ _).mono ?_; rintro en w' ⟨rfl, rfl⟩; rw [hin])
      go_ret2
      rw [Hf.out]
      exact UnitR.same H.out rfl (Below.refl _ _)
    · have Hf := Lib.hid' (show u.sealE e = (0, u.tail, { u with e := e }) by simp [U.sealE, hin, hle])
      have hset := H.out.set0 (e := e) (by have := hok.out; rw [Hf.out] at this; exact this)
      have Hset := Lib.hid' hset
      clear hset
      go_enter Tryz.func76, Tryz.ntmps76
      go_wp2_with (go_at_call 67; refine (in_any _ _ _).mono ?_; rintro en w' ⟨rfl, rfl⟩; rw [hin])
      refine (tail_any _ Hset.out).mono ?_
      rintro en w1 ⟨rfl, hb⟩
      go_wp2
      go_ret2
      rw [Hf.out]
      exact ⟨rfl, Hset.out.below (Nat.le_refl _) hb, ((fr_setCell _ _ _ _).mono (fun _ h => Or.inl h)).trans_below hb⟩

end Go.Proofs.YtkljeefncopodaaGreat
