/- Layer 8, the document's: every function of holdfastref08. -/
import Derived.Test.YtkljeefncopodaaGreatRefU
import Derived.Test.YtkljeefncopodaaGreatUnitN
import Derived.Laws.StructEq
namespace Go.Proofs.YtkljeefncopodaaGreat
open Go.RowKit
set_option linter.unusedSimpArgs false
set_option linter.unusedVariables false
set_option maxRecDepth 20000

def ruV (u : U) (ad : Option Addr) (cap : Nat) : Value := .agg #[.int .i64 u.e, .int .i64 u.l, .slice ad u.cells.length cap]
/-- the document's unit is handed back -/
def RUR (u : U) (w : World) (en : Ending) (w' : World) : Prop := ∃ ad cap, en = .returned (ruV u ad cap) ∧ RList w' (.slice ad u.cells.length cap) u.cells ∧ (∀ p, ad = some p → w.heap.size ≤ p.block) ∧ Below w.heap.size w w'

/-- what 'with' has gathered behind k rounds -/
def WithAt (L : List (Int × C)) (a : Int) (c : C) (k : Nat) (put : Bool) (O : List (Int × C)) : Prop :=
  (put = false ∧ O = L.take k ∧ ∀ p ∈ L.take k, p.1 ≤ a) ∨ (put = true ∧ O = insC (L.take k) a c ∧ ∃ p ∈ L.take k, a < p.1)

theorem one3 (a k : Int) (s : ByteArray) : ∀ u ∈ [Value.int .i64 a, Value.int .i64 k, Value.string s], u.oneCell' = true := by
  intro x hx; simp at hx; rcases hx with rfl | rfl | rfl <;> rfl
theorem with_len {L : List (Int × C)} {a : Int} {c : C} {k : Nat} {put : Bool} {O : List (Int × C)} (h : WithAt L a c k put O) : O.length ≤ L.length + 1 := by
  rcases h with ⟨_, rfl, _⟩ | ⟨_, rfl, _⟩
  · rw [List.length_take]; omega
  · have : ∀ M : List (Int × C), (insC M a c).length = M.length + 1 := fun M => by
      induction M with
      | nil => rfl
      | cons p M ih => simp only [insC]; split <;> simp [ih]
    rw [this, List.length_take]; omega
theorem with_end {L : List (Int × C)} {a : Int} {c : C} {put : Bool} {O : List (Int × C)} (h : WithAt L a c L.length put O) : (put = true → O = insC L a c) ∧ (put = false → O ++ [(a, c)] = insC L a c) := by
  rw [WithAt, List.take_length] at h
  rcases h with ⟨rfl, rfl, hp⟩ | ⟨rfl, rfl, hp⟩
  · exact ⟨fun h => (by cases h), fun _ => (insC_all hp).symm⟩
  · exact ⟨fun _ => rfl, fun h => (by cases h)⟩
theorem with_cells {w3 wr : World} {N : Nat} {x0 x1 x2 : Value} (hz : w3.heap.size = N + 3) (R : w3.cell? ⟨N + 1 + 1, 0, none⟩ = some x0 ∧ w3.cell? ⟨N + 1 + 1, 1, none⟩ = some x1 ∧ w3.cell? ⟨N + 1 + 1, 2, none⟩ = some x2 ∧ w3.frozen? ⟨N, 2, none⟩ = false ∧ w3.frozen? ⟨N + 1 + 1, 0, none⟩ = false ∧ w3.frozen? ⟨N + 1 + 1, 1, none⟩ = false ∧ w3.frozen? ⟨N + 1 + 1, 2, none⟩ = false) (hb : Below w3.heap.size w3 wr) :
    wr.cell? ⟨N + 1 + 1, 0, none⟩ = some x0 ∧ wr.cell? ⟨N + 1 + 1, 1, none⟩ = some x1 ∧ wr.cell? ⟨N + 1 + 1, 2, none⟩ = some x2 ∧ wr.frozen? ⟨N, 2, none⟩ = false ∧ wr.frozen? ⟨N + 1 + 1, 0, none⟩ = false ∧ wr.frozen? ⟨N + 1 + 1, 1, none⟩ = false ∧ wr.frozen? ⟨N + 1 + 1, 2, none⟩ = false := by
  obtain ⟨hc, hf⟩ := bcell hb
  obtain ⟨a, b, c, d, e, f, g⟩ := R
  have h1 : N < w3.heap.size := by omega
  have h2 : N + 1 + 1 < w3.heap.size := by omega
  exact ⟨(hc _ _ h2).trans a, (hc _ _ h2).trans b, (hc _ _ h2).trans c, (hf _ _ h1).trans d, (hf _ _ h2).trans e, (hf _ _ h2).trans f, (hf _ _ h2).trans g⟩
theorem with_put {L : List (Int × C)} {a : Int} {c : C} {k : Nat} {x : Int × C} {O : List (Int × C)} (h : WithAt L a c k true O) (hx : L.take (k + 1) = L.take k ++ [x]) : WithAt L a c (k + 1) true (O ++ [x]) ∧ True := by
  rcases h with ⟨h, _⟩ | ⟨_, rfl, hp⟩
  · cases h
  · refine ⟨.inr ⟨rfl, ?_, ?_⟩, trivial⟩
    · rw [hx, insC_past hp]
    · rw [hx]; obtain ⟨p, hp, h⟩ := hp; exact ⟨p, List.mem_append_left _ hp, h⟩
theorem with_not {L : List (Int × C)} {a : Int} {c : C} {k : Nat} {x : Int × C} {O : List (Int × C)} (h : WithAt L a c k false O) (hx : L.take (k + 1) = L.take k ++ [x]) (hn : ¬ a < x.1) : WithAt L a c (k + 1) false (O ++ [x]) := by
  rcases h with ⟨_, rfl, hp⟩ | ⟨h, _⟩
  · refine .inl ⟨rfl, hx.symm, ?_⟩
    rw [hx]; intro p hp'
    rcases List.mem_append.1 hp' with h | h
    · exact hp p h
    · simp at h; subst h; omega
  · cases h
theorem with_here {L : List (Int × C)} {a : Int} {c : C} {k : Nat} {x : Int × C} {O : List (Int × C)} (h : WithAt L a c k false O) (hx : L.take (k + 1) = L.take k ++ [x]) (hn : a < x.1) : WithAt L a c (k + 1) true (O ++ [(a, c), x]) := by
  rcases h with ⟨_, rfl, hp⟩ | ⟨h, _⟩
  · refine .inr ⟨rfl, ?_, x, ?_, hn⟩
    · rw [hx, insC_here hp hn]
    · rw [hx]; simp
  · cases h

set_option maxHeartbeats 2000000 in
theorem with_any (u : U) (ad : Option Addr) (cap : Nat) (a : Int) (c : C) (w : World) (h : RList w (.slice ad u.cells.length cap) u.cells) (hlen : u.cells.length ≤ 4194304) :
    Calls Tryz.prog 141 #[ruV u ad cap, .int .i64 a, rcellV c] w (RUR { u with cells := insC u.cells a c } w) := by
  have H := Lib.hid' h
  clear h
  unfold ruV rcellV
  go_enter Tryz.func141, Tryz.ntmps141
  go_wp2_with fail
  obtain ⟨w3, hw3⟩ : ∃ w3, w3 = ((w.alloc (.cells #[.int .i64 u.e, .int .i64 u.l, .slice ad u.cells.length cap] 54)).alloc (.cells #[.int .i64 c.k, .string (strOf c.d)] 122)).alloc (.cells #[.int .i64 0, .int .i64 0, .slice none 0 0] 54) := ⟨_, rfl⟩
  have hz : w3.heap.size = w.heap.size + 3 := by rw [hw3]; simp
  have hb3 := Lib.hid' (show Below w.heap.size w w3 by rw [hw3]; go_grown)
  have k0 : w3.cell? ⟨w.heap.size, 0, none⟩ = some (.int .i64 u.e) := by rw [hw3]; simp [go_sem]
  have k1 : w3.cell? ⟨w.heap.size, 1, none⟩ = some (.int .i64 u.l) := by rw [hw3]; simp [go_sem]
  have k2 : w3.cell? ⟨w.heap.size, 2, none⟩ = some (.slice ad u.cells.length cap) := by rw [hw3]; simp [go_sem]
  have k3 : w3.cell? ⟨w.heap.size + 1, 0, none⟩ = some (.int .i64 c.k) := by rw [hw3]; simp [go_sem]
  have k4 : w3.cell? ⟨w.heap.size + 1, 1, none⟩ = some (.string (strOf c.d)) := by rw [hw3]; simp [go_sem]
  have r0 : w3.cell? ⟨w.heap.size + 1 + 1, 0, none⟩ = some (.int .i64 0) := by rw [hw3]; simp [go_sem]
  have r1 : w3.cell? ⟨w.heap.size + 1 + 1, 1, none⟩ = some (.int .i64 0) := by rw [hw3]; simp [go_sem]
  have r2 : w3.cell? ⟨w.heap.size + 1 + 1, 2, none⟩ = some (.slice none 0 0) := by rw [hw3]; simp [go_sem]
  have f2 : w3.frozen? ⟨w.heap.size, 2, none⟩ = false := by rw [hw3]; simp [go_sem]
  have g0 : w3.frozen? ⟨w.heap.size + 1 + 1, 0, none⟩ = false := by rw [hw3]; simp [go_sem]
  have g1 : w3.frozen? ⟨w.heap.size + 1 + 1, 1, none⟩ = false := by rw [hw3]; simp [go_sem]
  have g2 : w3.frozen? ⟨w.heap.size + 1 + 1, 2, none⟩ = false := by rw [hw3]; simp [go_sem]
  rw [← hw3]
  have K := Lib.hid' (And.intro k0 (And.intro k1 (And.intro k2 (And.intro k3 k4))))
  have R := Lib.hid' (And.intro r0 (And.intro r1 (And.intro r2 (And.intro f2 (And.intro g0 (And.intro g1 g2))))))
  have Hz := Lib.hid' hz
  clear k0 k1 k2 k3 k4 r0 r1 r2 f2 g0 g1 g2 hz hw3
  have e4 : w.heap.size + 1 + 1 + 1 = w3.heap.size := by rw [Hz.out]
  rw [e4]
  clear e4
  go_loopw [7, 8, 9] (fun v7 v8 v9 wr => ∃ (k : Nat) (put : Bool) (O : List (Int × C)) (a' : Option Addr) (c' : Nat), v7 = .slice a' O.length c' ∧ v8 = .bool put ∧ v9 = .int .i64 k ∧ k ≤ u.cells.length ∧ WithAt u.cells a c k put O ∧ wr.ownsRow w3.heap.size 126 3 (.slice a' O.length c') O.length (rents O) ∧ Below w3.heap.size w3 wr) (fun _ _ v9 _ => u.cells.length - (intOf v9).toNat)
  case atStart => exact ⟨0, false, [], _, _, rfl, rfl, rfl, Nat.zero_le _, .inl ⟨rfl, rfl, by simp⟩, own_empty _ _ _, by go_grown⟩
  case round =>
    obtain ⟨k, put, O, a', c', rfl, rfl, rfl, hk, hW, ho, hbr⟩ := hrel
    have HW := Lib.hid' hW
    have HO := Lib.hid' ho
    have HBR := Lib.hid' hbr
    have hlt3 : w.heap.size < w3.heap.size := by have := Hz.out; omega
    have hlt3' : w.heap.size + 1 < w3.heap.size := by have := Hz.out; omega
    have m2 : wr.cell? ⟨w.heap.size, 2, none⟩ = some (.slice ad u.cells.length cap) := ((bcell hbr).1 _ _ hlt3).trans K.out.2.2.1
    clear hW ho
    by_cases hlt : k < u.cells.length
    · obtain ⟨b, off, rfl, hb, c0, c1, c2⟩ := H.out.get hlt
      have hbw := Lib.hid' (hb3.out.trans (hbr.mono (by have := Hz.out; omega)))
      have d0 : wr.cell? ⟨b, off + k * 3, none⟩ = some (.int .i64 u.cells[k].1) := ((bcell hbw.out).1 _ _ hb).trans c0
      have d1 : wr.cell? ⟨b, off + k * 3 + 1, none⟩ = some (.int .i64 u.cells[k].2.k) := ((bcell hbw.out).1 _ _ hb).trans c1
      have d2 : wr.cell? ⟨b, off + k * 3 + 2, none⟩ = some (.string (strOf u.cells[k].2.d)) := ((bcell hbw.out).1 _ _ hb).trans c2
      have hbr0 : b < wr.heap.size := Nat.lt_of_lt_of_le hb hbw.out.size
      have Hnx := Lib.hid' (take_succ u.cells k hlt)
      clear c0 c1 c2 hbr
      have m3 : wr.cell? ⟨w.heap.size + 1, 0, none⟩ = some (.int .i64 c.k) := ((bcell HBR.out).1 _ _ hlt3').trans K.out.2.2.2.1
      have m4 : wr.cell? ⟨w.heap.size + 1, 1, none⟩ = some (.string (strOf c.d)) := ((bcell HBR.out).1 _ _ hlt3').trans K.out.2.2.2.2
      have hn0 : O.length ≤ u.cells.length + 1 := by
        have := with_len HW.out; omega
      have hws : w3.heap.size ≤ wr.heap.size := HBR.out.size
      cases put with
      | true =>
        go_wp2_with (at_builtin; refine append_one etREnt rfl (.tmp 36) (.tmp 42) rfl [.int .i64 u.cells[k].1, .int .i64 u.cells[k].2.k, .string (strOf u.cells[k].2.d)] rfl w3.heap.size O.length (rents O) _ rfl HO.out rfl (one3 _ _ _) (by omega) hws ?_)
        · intro a2 c2 w5 ho2 hf2
          have HO2 := Lib.hid' ho2
          have HB2 := Lib.hid' (hf2.row HO.out (Nat.le_refl _) hws HBR.out)
          clear ho2 hf2
          go_wp2
          go_roundw
          case rel =>
            obtain ⟨h1, h2⟩ := with_put HW.out Hnx.out
            refine ⟨k + 1, true, O ++ [u.cells[k]], a2, c2, by simp, rfl, by go_num, by omega, h1, ?_, HB2.out⟩
            rw [rents_append, List.length_append]; exact HO2.out
          case measure => simp [intOf]; omega
      | false =>
        cases hx : decide (a < u.cells[k].1) with
        | false =>
          have hx' : ¬ a < u.cells[k].1 := by simpa using hx
          clear hx
          go_wp2_with (at_builtin; refine append_one etREnt rfl (.tmp 36) (.tmp 42) rfl [.int .i64 u.cells[k].1, .int .i64 u.cells[k].2.k, .string (strOf u.cells[k].2.d)] rfl w3.heap.size O.length (rents O) _ rfl HO.out rfl (one3 _ _ _) (by omega) hws ?_)
          · intro a2 c2 w5 ho2 hf2
            have HO2 := Lib.hid' ho2
            have HB2 := Lib.hid' (hf2.row HO.out (Nat.le_refl _) hws HBR.out)
            clear ho2 hf2
            go_wp2
            go_roundw
            case rel =>
              refine ⟨k + 1, false, O ++ [u.cells[k]], a2, c2, by simp, rfl, by go_num, by omega, with_not HW.out Hnx.out (Int.not_lt.2 hx'), ?_, HB2.out⟩
              rw [rents_append, List.length_append]; exact HO2.out
            case measure => simp [intOf]; omega
        | true =>
          have hx' : a < u.cells[k].1 := by simpa using hx
          clear hx
          go_wp2_with (at_builtin; refine append_one etREnt rfl (.tmp 30) (.tmp 34) rfl [.int .i64 a, .int .i64 c.k, .string (strOf c.d)] rfl w3.heap.size O.length (rents O) _ rfl HO.out rfl (one3 _ _ _) (by omega) hws ?_)
          · intro a2 c2 w5 ho2 hf2
            have HO2 := Lib.hid' ho2
            have HB2 := Lib.hid' (hf2.row HO.out (Nat.le_refl _) hws HBR.out)
            have hw5 := hf2.size
            have n2 : w5.cell? ⟨w.heap.size, 2, none⟩ = some (.slice (some ⟨b, off, none⟩) u.cells.length cap) := ((bcell HB2.out).1 _ _ hlt3).trans K.out.2.2.1
            have hbw5 := Lib.hid' (hb3.out.trans (HB2.out.mono (by have := Hz.out; omega)))
            have e0 : w5.cell? ⟨b, off + k * 3, none⟩ = some (.int .i64 u.cells[k].1) := ((bcell hbw5.out).1 _ _ hb).trans (((bcell hbw.out).1 _ _ hb).symm.trans d0)
            have e1 : w5.cell? ⟨b, off + k * 3 + 1, none⟩ = some (.int .i64 u.cells[k].2.k) := ((bcell hbw5.out).1 _ _ hb).trans (((bcell hbw.out).1 _ _ hb).symm.trans d1)
            have e2 : w5.cell? ⟨b, off + k * 3 + 2, none⟩ = some (.string (strOf u.cells[k].2.d)) := ((bcell hbw5.out).1 _ _ hb).trans (((bcell hbw.out).1 _ _ hb).symm.trans d2)
            have hws5 : w3.heap.size ≤ w5.heap.size := by omega
            clear ho2 hf2 d0 d1 d2 m2 m3 m4
            go_wp2_with (at_builtin; refine append_one etREnt rfl (.tmp 36) (.tmp 42) rfl [.int .i64 u.cells[k].1, .int .i64 u.cells[k].2.k, .string (strOf u.cells[k].2.d)] rfl w3.heap.size _ _ _ rfl HO2.out rfl (one3 _ _ _) (by omega) hws5 ?_)
            · intro a3 c3 w6 ho3 hf3
              have HO3 := Lib.hid' ho3
              have HB3 := Lib.hid' (hf3.row HO2.out (Nat.le_refl _) hws5 HB2.out)
              clear ho3 hf3
              go_wp2
              go_roundw
              case rel =>
                refine ⟨k + 1, true, O ++ [(a, c), u.cells[k]], a3, c3, by simp, rfl, by go_num, by omega, with_here HW.out Hnx.out hx', ?_, HB3.out⟩
                rw [rents_append, List.length_append]
                have := HO3.out
                simpa [rents, rent, List.append_assoc] using this
              case measure => simp [intOf]; omega
    · have hws : w3.heap.size ≤ wr.heap.size := HBR.out.size
      have hzz := Hz.out
      have hkk : k = u.cells.length := by omega
      have Hend := Lib.hid' (with_end (hkk ▸ HW.out))
      have hn0 : O.length ≤ u.cells.length + 1 := by
        have := with_len HW.out; omega
      have fin : ∀ (wq : World) (O' : List (Int × C)) (a2 : Option Addr) (c2 : Nat), O' = insC u.cells a c → wq.ownsRow w3.heap.size 126 3 (.slice a2 O'.length c2) O'.length (rents O') → Below w3.heap.size w3 wq →
          RUR { u with cells := insC u.cells a c } w (.returned (.agg #[.int .i64 u.e, .int .i64 u.l, .slice a2 O'.length c2])) ((((wq.setCell ⟨w.heap.size, 2, none⟩ (.slice a2 O'.length c2)).setCell ⟨w.heap.size + 1 + 1, 0, none⟩ (.int .i64 u.e)).setCell ⟨w.heap.size + 1 + 1, 1, none⟩ (.int .i64 u.l)).setCell ⟨w.heap.size + 1 + 1, 2, none⟩ (.slice a2 O'.length c2)) := by
        intro wq O' a2 c2 hO' ho' hb'
        subst hO'
        refine ⟨a2, c2, rfl, SlV.of_own (ownsRow_setCell_below (ownsRow_setCell_below (ownsRow_setCell_below (ownsRow_setCell_below ho' (by simp; omega) _) (by simp; omega) _) (by simp; omega) _) (by simp; omega) _), fun p hp => by have := (own_in ho' p _ _ (by rw [hp])).1; omega, ?_⟩
        exact ((((hb3.out.trans (hb'.mono (by omega))).setCell (by simp) _).setCell (by simp; omega) _).setCell (by simp; omega) _).setCell (by simp; omega) _
      have FIN := Lib.hid' fin
      have m0 : wr.cell? ⟨w.heap.size, 0, none⟩ = some (.int .i64 u.e) := ((bcell hbr).1 _ _ hlt3).trans K.out.1
      have m1 : wr.cell? ⟨w.heap.size, 1, none⟩ = some (.int .i64 u.l) := ((bcell hbr).1 _ _ hlt3).trans K.out.2.1
      have m3 : wr.cell? ⟨w.heap.size + 1, 0, none⟩ = some (.int .i64 c.k) := ((bcell HBR.out).1 _ _ hlt3').trans K.out.2.2.2.1
      have m4 : wr.cell? ⟨w.heap.size + 1, 1, none⟩ = some (.string (strOf c.d)) := ((bcell HBR.out).1 _ _ hlt3').trans K.out.2.2.2.2
      clear fin hzz hkk hbr
      cases put with
      | true =>
        obtain ⟨q0, q1, q2, p2, p3, p4, p5⟩ := with_cells Hz.out R.out HBR.out
        go_wp2
        refine bodyPost_ret (v := .agg #[.int .i64 u.e, .int .i64 u.l, .slice a' O.length c']) (by simp [results, Tryz.results141, go_sem, q0, q1, q2, m0, m1, m2]) rfl ?_
        exact FIN.out _ O a' c' (Hend.out.1 (by simp)) HO.out HBR.out
      | false =>
        go_wp2_with (at_builtin; refine append_one etREnt rfl (.tmp 46) (.tmp 50) rfl [.int .i64 a, .int .i64 c.k, .string (strOf c.d)] rfl w3.heap.size _ _ _ rfl HO.out rfl (one3 _ _ _) (by omega) hws ?_)
        intro a2 c2 w5 ho2 hf2
        have HO2 := Lib.hid' ho2
        have HB2 := Lib.hid' (hf2.row HO.out (Nat.le_refl _) hws HBR.out)
        have n0 : w5.cell? ⟨w.heap.size, 0, none⟩ = some (.int .i64 u.e) := ((bcell HB2.out).1 _ _ hlt3).trans K.out.1
        have n1 : w5.cell? ⟨w.heap.size, 1, none⟩ = some (.int .i64 u.l) := ((bcell HB2.out).1 _ _ hlt3).trans K.out.2.1
        have n2 : w5.cell? ⟨w.heap.size, 2, none⟩ = some (.slice ad u.cells.length cap) := ((bcell HB2.out).1 _ _ hlt3).trans K.out.2.2.1
        obtain ⟨q0, q1, q2, p2, p3, p4, p5⟩ := with_cells Hz.out R.out HB2.out
        clear ho2 hf2 m0 m1 m2 m3 m4
        go_wp2
        refine bodyPost_ret (v := .agg #[.int .i64 u.e, .int .i64 u.l, .slice a2 (O.length + 1) c2]) (by simp [results, Tryz.results141, go_sem, q0, q1, q2, n0, n1, n2]) rfl ?_
        have := FIN.out w5 (O ++ [(a, c)]) a2 c2 (Hend.out.2 (by simp))
        simp only [List.length_append, List.length_singleton, rents_append] at this
        exact this HO2.out HB2.out

end Go.Proofs.YtkljeefncopodaaGreat

namespace Go.Proofs.YtkljeefncopodaaGreat
open Go.RowKit
set_option linter.unusedSimpArgs false
set_option linter.unusedVariables false
set_option maxRecDepth 20000

theorem rCur_any (u : U) (ad : Option Addr) (cap : Nat) (e : Int) (w : World) :
    Calls Tryz.prog 139 #[ruV u ad cap, .int .i64 e] w fun en w' => en = .returned (.int .i64 (u.cur e)) ∧ Below w.heap.size w w' := by
  unfold ruV
  go_enter Tryz.func139, Tryz.ntmps139
  go_wp2
  all_goals go_ret
  all_goals refine ⟨ret_eq ?_, by go_grown⟩
  all_goals (unfold U.cur; (repeat' split) <;> first | rfl | (exfalso; omega))

theorem rTail_any (u : U) (ad : Option Addr) (cap : Nat) (w : World) (h : RList w (.slice ad u.cells.length cap) u.cells) (hu : ∀ p ∈ u.cells, 0 ≤ p.1 ∧ p.1 < 1048576) :
    Calls Tryz.prog 138 #[ruV u ad cap] w fun en w' => en = .returned (.int .i64 u.rTail) ∧ Below w.heap.size w w' := by
  have H := Lib.hid' h
  have hlen : u.cells.length ≤ 9223372036854775807 := by obtain ⟨_, _, he, h1, h2, _⟩ := h; cases he; unfold maxLen at h2; omega
  clear h
  unfold ruV
  by_cases h0 : u.cells.length = 0
  · have h0' : ((u.cells.length : Int) == 0) = true := by simpa using h0
    have hn : u.cells = [] := List.eq_nil_of_length_eq_zero h0
    have e1 := Lib.hid' (show u.rTail = u.l by simp [U.rTail, hn])
    clear hn h0 hu
    go_enter Tryz.func138, Tryz.ntmps138
    go_wp2
    go_ret
    exact ⟨ret_eq (by rw [e1.out]; rfl), by go_grown⟩
  · have h0' : ((u.cells.length : Int) == 0) = false := by simpa using h0
    have hk : u.cells.length - 1 < u.cells.length := by omega
    obtain ⟨b, off, rfl, hb, c0, c1, c2⟩ := H.out.get hk
    have e1 := Lib.hid' (show u.rTail = u.cells[u.cells.length - 1].1 + 1 by simp [U.rTail, List.getLast?_eq_getElem?, List.getElem?_eq_getElem hk])
    have hx := hu _ (List.getElem_mem hk)
    have hi : ((u.cells.length : Int) - 1).toNat = u.cells.length - 1 := by omega
    have hi0 : (0 : Int) ≤ (u.cells.length : Int) - 1 := by omega
    have hi1 : (u.cells.length : Int) - 1 < u.cells.length := by omega
    clear h0 hu c1 c2
    go_enter Tryz.func138, Tryz.ntmps138
    go_wp2
    go_ret
    exact ⟨ret_eq (by rw [e1.out]; rfl), by go_grown⟩

/-- a unit and an error's number are handed back -/
def RUN (u : U) (n : Nat) (w : World) (en : Ending) (w' : World) : Prop := ∃ ad cap, en = .returned (.tuple #[ruV u ad cap, .int .i64 n]) ∧ RList w' (.slice ad u.cells.length cap) u.cells ∧ Below w.heap.size w w'
def RTUN (t : Int) (u : U) (n : Nat) (w : World) (en : Ending) (w' : World) : Prop := ∃ ad cap, en = .returned (.tuple #[.int .i64 t, ruV u ad cap, .int .i64 n]) ∧ RList w' (.slice ad u.cells.length cap) u.cells ∧ Below w.heap.size w w'
theorem RList.below {w w' : World} {s : Value} {L : List (Int × C)} (h : RList w s L) {B : Nat} (hB : w.heap.size ≤ B) (hb : Below B w w') : RList w' s L := SlV.below h hB hb

theorem rSeal_any (u : U) (ad : Option Addr) (cap : Nat) (e : Int) (w : World) (h : RList w (.slice ad u.cells.length cap) u.cells) (hu : ∀ p ∈ u.cells, 0 ≤ p.1 ∧ p.1 < 1048576) :
    Calls Tryz.prog 81 #[ruV u ad cap, .int .i64 e] w (RTUN (u.rSeal e).1 (u.rSeal e).2.1 (u.rSeal e).2.2 w) := by
  have H := Lib.hid' h
  have HU := Lib.hid' hu
  clear h hu
  by_cases h1 : e < 0 ∨ 1099511627776 < e
  · have Hf := Lib.hid' (show u.rSeal e = (0, u, 1) by simp [U.rSeal, h1])
    unfold ruV
    rcases h1 with h1 | h1
    · go_enter Tryz.func81, Tryz.ntmps81
      go_wp2_with fail
      go_region_held3 (fun w' => w'.cell? ⟨w.heap.size, 0, none⟩ = some (.int .i64 u.e) ∧ w'.cell? ⟨w.heap.size, 1, none⟩ = some (.int .i64 u.l) ∧ w'.cell? ⟨w.heap.size, 2, none⟩ = some (.slice ad u.cells.length cap)) (go_keep) (fail)
      go_wp2
      refine bodyPost_ret (v := .tuple #[.int .i64 0, .agg #[.int .i64 u.e, .int .i64 u.l, .slice ad u.cells.length cap], .int .i64 1]) (by simp [results, Tryz.results81, go_sem]) rfl ?_
      rw [Hf.out]
      exact ⟨ad, cap, rfl, H.out.below (Nat.le_refl _) (by go_grown), by go_grown⟩
    · have h1' : ¬ e < 0 := by omega
      go_enter Tryz.func81, Tryz.ntmps81
      go_wp2_with fail
      go_region_held3 (fun w' => w'.cell? ⟨w.heap.size, 0, none⟩ = some (.int .i64 u.e) ∧ w'.cell? ⟨w.heap.size, 1, none⟩ = some (.int .i64 u.l) ∧ w'.cell? ⟨w.heap.size, 2, none⟩ = some (.slice ad u.cells.length cap)) (go_keep) (fail)
      go_wp2
      refine bodyPost_ret (v := .tuple #[.int .i64 0, .agg #[.int .i64 u.e, .int .i64 u.l, .slice ad u.cells.length cap], .int .i64 1]) (by simp [results, Tryz.results81, go_sem]) rfl ?_
      rw [Hf.out]
      exact ⟨ad, cap, rfl, H.out.below (Nat.le_refl _) (by go_grown), by go_grown⟩
  · have h1a : ¬ e < 0 := by omega
    have h1b : ¬ 1099511627776 < e := by omega
    by_cases h2 : e ≤ u.e
    · have Hf := Lib.hid' (show u.rSeal e = (0, u, 6) by simp [U.rSeal, h1, h2])
      unfold ruV
      clear h1
      go_enter Tryz.func81, Tryz.ntmps81
      go_wp2_with fail
      go_region_held3 (fun w' => w'.cell? ⟨w.heap.size, 0, none⟩ = some (.int .i64 u.e) ∧ w'.cell? ⟨w.heap.size, 1, none⟩ = some (.int .i64 u.l) ∧ w'.cell? ⟨w.heap.size, 2, none⟩ = some (.slice ad u.cells.length cap)) (go_keep) (fail)
      go_wp2
      refine bodyPost_ret (v := .tuple #[.int .i64 0, .agg #[.int .i64 u.e, .int .i64 u.l, .slice ad u.cells.length cap], .int .i64 6]) (by simp [results, Tryz.results81, go_sem]) rfl ?_
      rw [Hf.out]
      exact ⟨ad, cap, rfl, H.out.below (Nat.le_refl _) (by go_grown), by go_grown⟩
    · have Hf := Lib.hid' (show u.rSeal e = (U.rTail { u with e := e }, { u with e := e }, 0) by simp [U.rSeal, h1, h2])
      unfold ruV
      clear h1
      go_enter Tryz.func81, Tryz.ntmps81
      go_wp2_with fail
      go_region_held3 (fun w' => w'.cell? ⟨w.heap.size, 0, none⟩ = some (.int .i64 e) ∧ w'.cell? ⟨w.heap.size, 1, none⟩ = some (.int .i64 u.l) ∧ w'.cell? ⟨w.heap.size, 2, none⟩ = some (.slice ad u.cells.length cap)) (go_keep) (first | (go_at_call 138; refine (rTail_any { u with e := e } ad cap _ (H.out.below (Nat.le_refl _) (by go_grown)) HU.out).mono ?_; rintro en w' ⟨rfl, hb⟩; obtain ⟨hc, hf⟩ := bcell hb))
      have c0 : w'.cell? ⟨w.heap.size + 1, 0, none⟩ = some (.int .i64 0) := (hc _ _ (by simp)).trans (by simp [go_sem])
      have c1 : w'.cell? ⟨w.heap.size + 1, 1, none⟩ = some (.int .i64 0) := (hc _ _ (by simp)).trans (by simp [go_sem])
      have c2 : w'.cell? ⟨w.heap.size + 1, 2, none⟩ = some (.slice none 0 0) := (hc _ _ (by simp)).trans (by simp [go_sem])
      go_wp2
      refine bodyPost_ret (v := .tuple #[.int .i64 (U.rTail { u with e := e }), .agg #[.int .i64 e, .int .i64 u.l, .slice ad u.cells.length cap], .int .i64 0]) (by simp [results, Tryz.results81, go_sem, c0, c1, c2]) rfl ?_
      rw [Hf.out]
      have hbb : Below w.heap.size w w' := below_call (by go_grown) (by go_size) hb
      exact ⟨ad, cap, rfl, H.out.below (Nat.le_refl _) (((hbb.setCell (by simp) _).setCell (by simp) _).setCell (by simp) _), ((hbb.setCell (by simp) _).setCell (by simp) _).setCell (by simp) _⟩

end Go.Proofs.YtkljeefncopodaaGreat

namespace Go.Proofs.YtkljeefncopodaaGreat
open Go.RowKit
set_option linter.unusedSimpArgs false
set_option linter.unusedVariables false
set_option maxRecDepth 20000

@[go_sem] theorem field_rkind (w : World) (x y : Value) : (Instr.field 122 (.agg #[x, y]) 0).run Tryz.prog w = .ok x w := by kernel_rfl

/-- the boxed parameter at block N, the result's place at N + 1 -/
def Box2 (N : Nat) (e l : Int) (s : Value) (R : List Value) (w : World) : Prop :=
  w.cell? ⟨N, 0, none⟩ = some (.int .i64 e) ∧ w.cell? ⟨N, 1, none⟩ = some (.int .i64 l) ∧ w.cell? ⟨N, 2, none⟩ = some s ∧
  w.frozen? ⟨N, 0, none⟩ = false ∧ w.frozen? ⟨N, 1, none⟩ = false ∧ w.frozen? ⟨N, 2, none⟩ = false ∧
  (∀ j v, R[j]? = some v → w.cell? ⟨N + 1, j, none⟩ = some v) ∧ (∀ j, w.frozen? ⟨N + 1, j, none⟩ = false) ∧ N + 1 < w.heap.size
theorem Box2.below {N : Nat} {e l : Int} {s : Value} {R : List Value} {w w' : World} (h : Box2 N e l s R w) {B : Nat} (hB : w.heap.size ≤ B) (hb : Below B w w') : Box2 N e l s R w' := by
  obtain ⟨a, b, c, d, f, g, i, j, k⟩ := h
  obtain ⟨hc, hf⟩ := bcell hb
  exact ⟨(hc _ _ (by omega)).trans a, (hc _ _ (by omega)).trans b, (hc _ _ (by omega)).trans c, (hf _ _ (by omega)).trans d, (hf _ _ (by omega)).trans f, (hf _ _ (by omega)).trans g,
    fun x v hx => (hc _ _ (by omega)).trans (i x v hx), fun x => (hf _ _ (by omega)).trans (j x), Nat.lt_of_lt_of_le k hb.size⟩
theorem Box2.start (w : World) (e l : Int) (s : Value) (R : List Value) (t t' : Nat) : Box2 w.heap.size e l s R ((w.alloc (.cells #[.int .i64 e, .int .i64 l, s] t)).alloc (.cells R.toArray t')) := by
  have h1 : ((w.alloc (.cells #[.int .i64 e, .int .i64 l, s] t)).alloc (.cells R.toArray t')).heap[w.heap.size + 1]? = some (.cells R.toArray t' (0, 0)) := heap_alloc2_new w _ _
  have h0 : ((w.alloc (.cells #[.int .i64 e, .int .i64 l, s] t)).alloc (.cells R.toArray t')).heap[w.heap.size]? = some (.cells #[.int .i64 e, .int .i64 l, s] t (0, 0)) := heap_alloc2_old w _ _
  refine ⟨?_, ?_, ?_, ?_, ?_, ?_, fun j v hj => ?_, fun j => ?_, by simp⟩
  · rw [cell_of_row _ _ _ _ _ _ h0]; rfl
  · rw [cell_of_row _ _ _ _ _ _ h0]; rfl
  · rw [cell_of_row _ _ _ _ _ _ h0]; rfl
  · exact frozen_of_row _ _ _ _ _ h0
  · exact frozen_of_row _ _ _ _ _ h0
  · exact frozen_of_row _ _ _ _ _ h0
  · rw [cell_of_row _ _ _ _ _ _ h1]; simpa using hj
  · exact frozen_of_row _ _ _ _ _ h1

theorem set3_below {N : Nat} {w w' : World} (hb : Below N w w') (x y z : Value) : Below N w (((w'.setCell ⟨N + 1, 0, none⟩ x).setCell ⟨N + 1, 1, none⟩ y).setCell ⟨N + 1, 2, none⟩ z) :=
  ((hb.setCell (by simp) _).setCell (by simp) _).setCell (by simp) _
theorem set2_below {N : Nat} {w w' : World} (hb : Below N w w') (x y : Value) : Below N w ((w'.setCell ⟨N + 1, 0, none⟩ x).setCell ⟨N + 1, 1, none⟩ y) :=
  (hb.setCell (by simp) _).setCell (by simp) _

def zU : List Value := [.int .i64 0, .int .i64 0, .slice none 0 0]
def zRC : List Value := [.int .i64 0, .string ⟨#[]⟩]




set_option maxHeartbeats 2000000 in
theorem rWrite_any (u : U) (ad : Option Addr) (cap : Nat) (e a : Int) (d : List UInt8) (w : World) (h : RList w (.slice ad u.cells.length cap) u.cells) (hc : u.cells.length ≤ 4194304) (hd : d.length ≤ 1099511627776) :
    Calls Tryz.prog 82 #[ruV u ad cap, .int .i64 e, .int .i64 a, .string (strOf d)] w (RUN (u.rWrite e a d).1 (u.rWrite e a d).2 w) := by
  have H := Lib.hid' h; have hcount := Lib.hid' hc; clear h hc; unfold ruV
  by_cases h1 : a < 0 ∨ 1048575 < a
  · have Hf := Lib.hid' (show u.rWrite e a d = (u, 1) by simp [U.rWrite, h1])
    rcases h1 with h1 | h1
    · skip
      go_enter Tryz.func82, Tryz.ntmps82
      go_wp2
      refine bodyPost_ret (v := .tuple #[.agg #[.int .i64 u.e, .int .i64 u.l, .slice ad u.cells.length cap], .int .i64 1]) (by simp [results, Tryz.results82, go_sem]) rfl ?_
      rw [Hf.out]
      exact ⟨ad, cap, rfl, H.out.below (Nat.le_refl _) (by go_grown), by go_grown⟩
    · have h1b : ¬ a < 0 := by omega
      go_enter Tryz.func82, Tryz.ntmps82
      go_wp2
      refine bodyPost_ret (v := .tuple #[.agg #[.int .i64 u.e, .int .i64 u.l, .slice ad u.cells.length cap], .int .i64 1]) (by simp [results, Tryz.results82, go_sem]) rfl ?_
      rw [Hf.out]
      exact ⟨ad, cap, rfl, H.out.below (Nat.le_refl _) (by go_grown), by go_grown⟩
  have h1a : ¬ a < 0 := by omega
  have h1b : ¬ 1048575 < a := by omega
  by_cases h2 : 64 < d.length
  · have Hf := Lib.hid' (show u.rWrite e a d = (u, 3) by simp [U.rWrite, h1, h2])
    have h2' : (64 : Int) < ((strOf d).size : Int) := by rw [strOf_size]; omega
    clear h1
    go_enter Tryz.func82, Tryz.ntmps82
    go_wp2
    refine bodyPost_ret (v := .tuple #[.agg #[.int .i64 u.e, .int .i64 u.l, .slice ad u.cells.length cap], .int .i64 3]) (by simp [results, Tryz.results82, go_sem]) rfl ?_
    rw [Hf.out]
    exact ⟨ad, cap, rfl, H.out.below (Nat.le_refl _) (by go_grown), by go_grown⟩
  have h2' : ¬ (64 : Int) < ((strOf d).size : Int) := by rw [strOf_size]; omega
  by_cases hc0 : u.cur e = 0
  rotate_left
  · have Hf := Lib.hid' (show u.rWrite e a d = (u, u.cur e) by simp [U.rWrite, h1, h2, hc0])
    have hc1 : (((u.cur e : Nat) : Int) != 0) = true := by rw [bne_iff_ne]; omega
    have hc2 := hc1
    clear h1 h2 hc0 hc1
    go_enter Tryz.func82, Tryz.ntmps82
    go_wp2_with fail
    have HX := Lib.hid' (Box2.start w u.e u.l (.slice ad u.cells.length cap) zU 54 54)
    have hb0 := Lib.hid' (show Below w.heap.size w ((w.alloc (.cells #[.int .i64 u.e, .int .i64 u.l, .slice ad u.cells.length cap] 54)).alloc (.cells #[.int .i64 0, .int .i64 0, .slice none 0 0] 54)) by go_grown)
    have e0 : (w.alloc (.cells #[.int .i64 u.e, .int .i64 u.l, .slice ad u.cells.length cap] 54)).alloc (.cells zU.toArray 54) = (w.alloc (.cells #[.int .i64 u.e, .int .i64 u.l, .slice ad u.cells.length cap] 54)).alloc (.cells #[.int .i64 0, .int .i64 0, .slice none 0 0] 54) := rfl
    rw [e0] at HX; clear e0
    generalize (w.alloc (.cells #[.int .i64 u.e, .int .i64 u.l, .slice ad u.cells.length cap] 54)).alloc (.cells #[.int .i64 0, .int .i64 0, .slice none 0 0] 54) = w0 at *
    refine (rCur_any u ad cap e _).mono ?_
    rintro en w1 ⟨rfl, hb1⟩
    have HX1 := Lib.hid' (HX.out.below (Nat.le_refl _) hb1)
    have HB1 := Lib.hid' (below_call hb0.out hb0.out.size hb1)
    obtain ⟨x0, x1, x2, _, _, _, xr, xf, xs⟩ := HX1.out
    clear hb1
    have r0 := xr 0 _ rfl; have r1 := xr 1 _ rfl; have r2 := xr 2 _ rfl
    have f0 := xf 0; have f1 := xf 1; have f2 := xf 2
    clear xr xf
    go_wp2
    refine bodyPost_ret (v := .tuple #[.agg #[.int .i64 u.e, .int .i64 u.l, .slice ad u.cells.length cap], .int .i64 (u.cur e : Nat)]) (by simp [results, Tryz.results82, go_sem, r0, r1, r2]) rfl ?_
    rw [Hf.out]
    exact ⟨ad, cap, rfl, H.out.below (Nat.le_refl _) (set3_below HB1.out _ _ _), set3_below HB1.out _ _ _⟩
  have hc1 : u.cur e = 0 := hc0
  have HC := Lib.hid' hc0
  by_cases hk3 : (u.at a).k = 3
  · have Hf := Lib.hid' (show u.rWrite e a d = (u, 9) by simp [U.rWrite, h1, h2, hc0, hk3])
    have hb3 : ((u.at a).k == 3) = true := by simpa using hk3
    clear h1 h2 hc0 hc1 hk3
    go_enter Tryz.func82, Tryz.ntmps82
    go_wp2_with fail
    have HX := Lib.hid' (Box2.start w u.e u.l (.slice ad u.cells.length cap) zU 54 54)
    have hb0 := Lib.hid' (show Below w.heap.size w ((w.alloc (.cells #[.int .i64 u.e, .int .i64 u.l, .slice ad u.cells.length cap] 54)).alloc (.cells #[.int .i64 0, .int .i64 0, .slice none 0 0] 54)) by go_grown)
    have e0 : (w.alloc (.cells #[.int .i64 u.e, .int .i64 u.l, .slice ad u.cells.length cap] 54)).alloc (.cells zU.toArray 54) = (w.alloc (.cells #[.int .i64 u.e, .int .i64 u.l, .slice ad u.cells.length cap] 54)).alloc (.cells #[.int .i64 0, .int .i64 0, .slice none 0 0] 54) := rfl
    rw [e0] at HX; clear e0
    generalize (w.alloc (.cells #[.int .i64 u.e, .int .i64 u.l, .slice ad u.cells.length cap] 54)).alloc (.cells #[.int .i64 0, .int .i64 0, .slice none 0 0] 54) = w0 at *
    refine (rCur_any u ad cap e _).mono ?_
    rintro en w1 ⟨rfl, hb1⟩
    have HX1 := Lib.hid' (HX.out.below (Nat.le_refl _) hb1)
    have HB1 := Lib.hid' (below_call hb0.out hb0.out.size hb1)
    obtain ⟨x0, x1, x2, _, _, _, xr, xf, xs⟩ := HX1.out
    clear hb1
    rw [show ((u.cur e : Nat) : Int) = 0 by rw [HC.out]; rfl]
    go_wp2_with fail
    refine (rAt_any u ad cap a _ (H.out.below (Nat.le_refl _) HB1.out)).mono ?_
    rintro en w2 ⟨rfl, hb2⟩
    have HX2 := Lib.hid' (HX1.out.below (Nat.le_refl _) hb2)
    have HB2 := Lib.hid' (below_call HB1.out HB1.out.size hb2)
    clear x0 x1 x2 xr xf xs hb2
    obtain ⟨x0, x1, x2, _, _, _, xr, xf, xs⟩ := HX2.out
    unfold rcellV
    have r0 := xr 0 _ rfl; have r1 := xr 1 _ rfl; have r2 := xr 2 _ rfl
    have f0 := xf 0; have f1 := xf 1; have f2 := xf 2
    clear xr xf
    go_wp2
    refine bodyPost_ret (v := .tuple #[.agg #[.int .i64 u.e, .int .i64 u.l, .slice ad u.cells.length cap], .int .i64 9]) (by simp [results, Tryz.results82, go_sem, r0, r1, r2]) rfl ?_
    rw [Hf.out]
    exact ⟨ad, cap, rfl, H.out.below (Nat.le_refl _) (set3_below HB2.out _ _ _), set3_below HB2.out _ _ _⟩
  have hb3 : ((u.at a).k == 3) = false := by simpa using hk3
  by_cases hk0 : (u.at a).k = 0
  · have Hf := Lib.hid' (show u.rWrite e a d = ({ u with cells := insC u.cells a ⟨1, d⟩ }, 0) by simp [U.rWrite, h1, h2, hc0, hk3, hk0])
    have hb0 : ((u.at a).k == 0) = true := by simpa using hk0
    clear h1 h2 hc0 hc1 hk3 hk0
    go_enter Tryz.func82, Tryz.ntmps82
    go_wp2_with fail
    have HX := Lib.hid' (Box2.start w u.e u.l (.slice ad u.cells.length cap) zU 54 54)
    have hb0 := Lib.hid' (show Below w.heap.size w ((w.alloc (.cells #[.int .i64 u.e, .int .i64 u.l, .slice ad u.cells.length cap] 54)).alloc (.cells #[.int .i64 0, .int .i64 0, .slice none 0 0] 54)) by go_grown)
    have e0 : (w.alloc (.cells #[.int .i64 u.e, .int .i64 u.l, .slice ad u.cells.length cap] 54)).alloc (.cells zU.toArray 54) = (w.alloc (.cells #[.int .i64 u.e, .int .i64 u.l, .slice ad u.cells.length cap] 54)).alloc (.cells #[.int .i64 0, .int .i64 0, .slice none 0 0] 54) := rfl
    rw [e0] at HX; clear e0
    generalize (w.alloc (.cells #[.int .i64 u.e, .int .i64 u.l, .slice ad u.cells.length cap] 54)).alloc (.cells #[.int .i64 0, .int .i64 0, .slice none 0 0] 54) = w0 at *
    refine (rCur_any u ad cap e _).mono ?_
    rintro en w1 ⟨rfl, hb1⟩
    have HX1 := Lib.hid' (HX.out.below (Nat.le_refl _) hb1)
    have HB1 := Lib.hid' (below_call hb0.out hb0.out.size hb1)
    obtain ⟨x0, x1, x2, _, _, _, xr, xf, xs⟩ := HX1.out
    clear hb1
    rw [show ((u.cur e : Nat) : Int) = 0 by rw [HC.out]; rfl]
    go_wp2_with fail
    refine (rAt_any u ad cap a _ (H.out.below (Nat.le_refl _) HB1.out)).mono ?_
    rintro en w2 ⟨rfl, hb2⟩
    have HX2 := Lib.hid' (HX1.out.below (Nat.le_refl _) hb2)
    have HB2 := Lib.hid' (below_call HB1.out HB1.out.size hb2)
    clear x0 x1 x2 xr xf xs hb2
    obtain ⟨x0, x1, x2, _, _, _, xr, xf, xs⟩ := HX2.out
    unfold rcellV
    go_wp2_with fail
    refine (with_any u ad cap a ⟨1, d⟩ _ (H.out.below (Nat.le_refl _) HB2.out) hcount.out).mono ?_
    rintro en w3 ⟨ad3, cap3, rfl, hl3, hin3, hb3⟩
    have HX3 := Lib.hid' (HX2.out.below (Nat.le_refl _) hb3)
    have HB3 := Lib.hid' (below_call HB2.out HB2.out.size hb3)
    have HL3 := Lib.hid' hl3
    clear x0 x1 x2 xr xf xs hl3 hb3
    obtain ⟨x0, x1, x2, _, _, _, xr, xf, xs⟩ := HX3.out
    have r0 := xr 0 _ rfl; have r1 := xr 1 _ rfl; have r2 := xr 2 _ rfl
    have f0 := xf 0; have f1 := xf 1; have f2 := xf 2
    clear xr xf
    unfold ruV
    go_wp2
    refine bodyPost_ret (v := .tuple #[.agg #[.int .i64 u.e, .int .i64 u.l, .slice ad3 (insC u.cells a ⟨1, d⟩).length cap3], .int .i64 0]) (by simp [results, Tryz.results82, go_sem, r0, r1, r2]) rfl ?_
    rw [Hf.out]
    refine ⟨ad3, cap3, rfl, ?_, set3_below HB3.out _ _ _⟩
    refine SlV.fr HL3.out (F := fun k => k = w.heap.size + 1) (((fr_set _ _ _ _).trans (fr_set _ _ _ _) (fun _ h => .inl h)).trans (fr_set _ _ _ _) (fun _ h => .inl h)) ?_
    intro p n c' hp hk
    simp only [Value.slice.injEq] at hp
    have := hin3 p hp.1; have := HX2.out.2.2.2.2.2.2.2.2; omega
  have hb0 : ((u.at a).k == 0) = false := by simpa using hk0
  have Hf := Lib.hid' (show u.rWrite e a d = (u, 8) by simp [U.rWrite, h1, h2, hc0, hk3, hk0])
  clear h1 h2 hc0 hc1 hk3 hk0
  go_enter Tryz.func82, Tryz.ntmps82
  go_wp2_with fail
  have HX := Lib.hid' (Box2.start w u.e u.l (.slice ad u.cells.length cap) zU 54 54)
  have hb0 := Lib.hid' (show Below w.heap.size w ((w.alloc (.cells #[.int .i64 u.e, .int .i64 u.l, .slice ad u.cells.length cap] 54)).alloc (.cells #[.int .i64 0, .int .i64 0, .slice none 0 0] 54)) by go_grown)
  have e0 : (w.alloc (.cells #[.int .i64 u.e, .int .i64 u.l, .slice ad u.cells.length cap] 54)).alloc (.cells zU.toArray 54) = (w.alloc (.cells #[.int .i64 u.e, .int .i64 u.l, .slice ad u.cells.length cap] 54)).alloc (.cells #[.int .i64 0, .int .i64 0, .slice none 0 0] 54) := rfl
  rw [e0] at HX; clear e0
  generalize (w.alloc (.cells #[.int .i64 u.e, .int .i64 u.l, .slice ad u.cells.length cap] 54)).alloc (.cells #[.int .i64 0, .int .i64 0, .slice none 0 0] 54) = w0 at *
  refine (rCur_any u ad cap e _).mono ?_
  rintro en w1 ⟨rfl, hb1⟩
  have HX1 := Lib.hid' (HX.out.below (Nat.le_refl _) hb1)
  have HB1 := Lib.hid' (below_call hb0.out hb0.out.size hb1)
  obtain ⟨x0, x1, x2, _, _, _, xr, xf, xs⟩ := HX1.out
  clear hb1
  rw [show ((u.cur e : Nat) : Int) = 0 by rw [HC.out]; rfl]
  go_wp2_with fail
  refine (rAt_any u ad cap a _ (H.out.below (Nat.le_refl _) HB1.out)).mono ?_
  rintro en w2 ⟨rfl, hb2⟩
  have HX2 := Lib.hid' (HX1.out.below (Nat.le_refl _) hb2)
  have HB2 := Lib.hid' (below_call HB1.out HB1.out.size hb2)
  clear x0 x1 x2 xr xf xs hb2
  obtain ⟨x0, x1, x2, _, _, _, xr, xf, xs⟩ := HX2.out
  unfold rcellV
  have r0 := xr 0 _ rfl; have r1 := xr 1 _ rfl; have r2 := xr 2 _ rfl
  have f0 := xf 0; have f1 := xf 1; have f2 := xf 2
  clear xr xf
  go_wp2
  refine bodyPost_ret (v := .tuple #[.agg #[.int .i64 u.e, .int .i64 u.l, .slice ad u.cells.length cap], .int .i64 8]) (by simp [results, Tryz.results82, go_sem, r0, r1, r2]) rfl ?_
  rw [Hf.out]
  exact ⟨ad, cap, rfl, H.out.below (Nat.le_refl _) (set3_below HB2.out _ _ _), set3_below HB2.out _ _ _⟩

set_option maxHeartbeats 2000000 in
theorem rFill_any (u : U) (ad : Option Addr) (cap : Nat) (e a : Int) (w : World) (h : RList w (.slice ad u.cells.length cap) u.cells) (hc : u.cells.length ≤ 4194304) :
    Calls Tryz.prog 83 #[ruV u ad cap, .int .i64 e, .int .i64 a] w (RUN (u.rFill e a).1 (u.rFill e a).2 w) := by
  have H := Lib.hid' h; have hcount := Lib.hid' hc; clear h hc; unfold ruV
  by_cases h1 : a < 0 ∨ 1048575 < a
  · have Hf := Lib.hid' (show u.rFill e a = (u, 1) by simp [U.rFill, h1])
    rcases h1 with h1 | h1
    · skip
      go_enter Tryz.func83, Tryz.ntmps83
      go_wp2
      refine bodyPost_ret (v := .tuple #[.agg #[.int .i64 u.e, .int .i64 u.l, .slice ad u.cells.length cap], .int .i64 1]) (by simp [results, Tryz.results83, go_sem]) rfl ?_
      rw [Hf.out]
      exact ⟨ad, cap, rfl, H.out.below (Nat.le_refl _) (by go_grown), by go_grown⟩
    · have h1b : ¬ a < 0 := by omega
      go_enter Tryz.func83, Tryz.ntmps83
      go_wp2
      refine bodyPost_ret (v := .tuple #[.agg #[.int .i64 u.e, .int .i64 u.l, .slice ad u.cells.length cap], .int .i64 1]) (by simp [results, Tryz.results83, go_sem]) rfl ?_
      rw [Hf.out]
      exact ⟨ad, cap, rfl, H.out.below (Nat.le_refl _) (by go_grown), by go_grown⟩
  have h1a : ¬ a < 0 := by omega
  have h1b : ¬ 1048575 < a := by omega
  by_cases hc0 : u.cur e = 0
  rotate_left
  · have Hf := Lib.hid' (show u.rFill e a = (u, u.cur e) by simp [U.rFill, h1, hc0])
    have hc1 : (((u.cur e : Nat) : Int) != 0) = true := by rw [bne_iff_ne]; omega
    have hc2 := hc1
    clear h1 hc0 hc1
    go_enter Tryz.func83, Tryz.ntmps83
    go_wp2_with fail
    have HX := Lib.hid' (Box2.start w u.e u.l (.slice ad u.cells.length cap) zU 54 54)
    have hb0 := Lib.hid' (show Below w.heap.size w ((w.alloc (.cells #[.int .i64 u.e, .int .i64 u.l, .slice ad u.cells.length cap] 54)).alloc (.cells #[.int .i64 0, .int .i64 0, .slice none 0 0] 54)) by go_grown)
    have e0 : (w.alloc (.cells #[.int .i64 u.e, .int .i64 u.l, .slice ad u.cells.length cap] 54)).alloc (.cells zU.toArray 54) = (w.alloc (.cells #[.int .i64 u.e, .int .i64 u.l, .slice ad u.cells.length cap] 54)).alloc (.cells #[.int .i64 0, .int .i64 0, .slice none 0 0] 54) := rfl
    rw [e0] at HX; clear e0
    generalize (w.alloc (.cells #[.int .i64 u.e, .int .i64 u.l, .slice ad u.cells.length cap] 54)).alloc (.cells #[.int .i64 0, .int .i64 0, .slice none 0 0] 54) = w0 at *
    refine (rCur_any u ad cap e _).mono ?_
    rintro en w1 ⟨rfl, hb1⟩
    have HX1 := Lib.hid' (HX.out.below (Nat.le_refl _) hb1)
    have HB1 := Lib.hid' (below_call hb0.out hb0.out.size hb1)
    obtain ⟨x0, x1, x2, _, _, _, xr, xf, xs⟩ := HX1.out
    clear hb1
    have r0 := xr 0 _ rfl; have r1 := xr 1 _ rfl; have r2 := xr 2 _ rfl
    have f0 := xf 0; have f1 := xf 1; have f2 := xf 2
    clear xr xf
    go_wp2
    refine bodyPost_ret (v := .tuple #[.agg #[.int .i64 u.e, .int .i64 u.l, .slice ad u.cells.length cap], .int .i64 (u.cur e : Nat)]) (by simp [results, Tryz.results83, go_sem, r0, r1, r2]) rfl ?_
    rw [Hf.out]
    exact ⟨ad, cap, rfl, H.out.below (Nat.le_refl _) (set3_below HB1.out _ _ _), set3_below HB1.out _ _ _⟩
  have hc1 : u.cur e = 0 := hc0
  have HC := Lib.hid' hc0
  by_cases hk3 : (u.at a).k = 3
  · have Hf := Lib.hid' (show u.rFill e a = (u, 9) by simp [U.rFill, h1, hc0, hk3])
    have hb3 : ((u.at a).k == 3) = true := by simpa using hk3
    clear h1 hc0 hc1 hk3
    go_enter Tryz.func83, Tryz.ntmps83
    go_wp2_with fail
    have HX := Lib.hid' (Box2.start w u.e u.l (.slice ad u.cells.length cap) zU 54 54)
    have hb0 := Lib.hid' (show Below w.heap.size w ((w.alloc (.cells #[.int .i64 u.e, .int .i64 u.l, .slice ad u.cells.length cap] 54)).alloc (.cells #[.int .i64 0, .int .i64 0, .slice none 0 0] 54)) by go_grown)
    have e0 : (w.alloc (.cells #[.int .i64 u.e, .int .i64 u.l, .slice ad u.cells.length cap] 54)).alloc (.cells zU.toArray 54) = (w.alloc (.cells #[.int .i64 u.e, .int .i64 u.l, .slice ad u.cells.length cap] 54)).alloc (.cells #[.int .i64 0, .int .i64 0, .slice none 0 0] 54) := rfl
    rw [e0] at HX; clear e0
    generalize (w.alloc (.cells #[.int .i64 u.e, .int .i64 u.l, .slice ad u.cells.length cap] 54)).alloc (.cells #[.int .i64 0, .int .i64 0, .slice none 0 0] 54) = w0 at *
    refine (rCur_any u ad cap e _).mono ?_
    rintro en w1 ⟨rfl, hb1⟩
    have HX1 := Lib.hid' (HX.out.below (Nat.le_refl _) hb1)
    have HB1 := Lib.hid' (below_call hb0.out hb0.out.size hb1)
    obtain ⟨x0, x1, x2, _, _, _, xr, xf, xs⟩ := HX1.out
    clear hb1
    rw [show ((u.cur e : Nat) : Int) = 0 by rw [HC.out]; rfl]
    go_wp2_with fail
    refine (rAt_any u ad cap a _ (H.out.below (Nat.le_refl _) HB1.out)).mono ?_
    rintro en w2 ⟨rfl, hb2⟩
    have HX2 := Lib.hid' (HX1.out.below (Nat.le_refl _) hb2)
    have HB2 := Lib.hid' (below_call HB1.out HB1.out.size hb2)
    clear x0 x1 x2 xr xf xs hb2
    obtain ⟨x0, x1, x2, _, _, _, xr, xf, xs⟩ := HX2.out
    unfold rcellV
    have r0 := xr 0 _ rfl; have r1 := xr 1 _ rfl; have r2 := xr 2 _ rfl
    have f0 := xf 0; have f1 := xf 1; have f2 := xf 2
    clear xr xf
    go_wp2
    refine bodyPost_ret (v := .tuple #[.agg #[.int .i64 u.e, .int .i64 u.l, .slice ad u.cells.length cap], .int .i64 9]) (by simp [results, Tryz.results83, go_sem, r0, r1, r2]) rfl ?_
    rw [Hf.out]
    exact ⟨ad, cap, rfl, H.out.below (Nat.le_refl _) (set3_below HB2.out _ _ _), set3_below HB2.out _ _ _⟩
  have hb3 : ((u.at a).k == 3) = false := by simpa using hk3
  by_cases hk1 : (u.at a).k = 1
  · have Hf := Lib.hid' (show u.rFill e a = (u, 8) by simp [U.rFill, h1, hc0, hk3, hk1])
    have hb1 : ((u.at a).k == 1) = true := by simpa using hk1
    clear h1 hc0 hc1 hk3 hk1
    go_enter Tryz.func83, Tryz.ntmps83
    go_wp2_with fail
    have HX := Lib.hid' (Box2.start w u.e u.l (.slice ad u.cells.length cap) zU 54 54)
    have hb0 := Lib.hid' (show Below w.heap.size w ((w.alloc (.cells #[.int .i64 u.e, .int .i64 u.l, .slice ad u.cells.length cap] 54)).alloc (.cells #[.int .i64 0, .int .i64 0, .slice none 0 0] 54)) by go_grown)
    have e0 : (w.alloc (.cells #[.int .i64 u.e, .int .i64 u.l, .slice ad u.cells.length cap] 54)).alloc (.cells zU.toArray 54) = (w.alloc (.cells #[.int .i64 u.e, .int .i64 u.l, .slice ad u.cells.length cap] 54)).alloc (.cells #[.int .i64 0, .int .i64 0, .slice none 0 0] 54) := rfl
    rw [e0] at HX; clear e0
    generalize (w.alloc (.cells #[.int .i64 u.e, .int .i64 u.l, .slice ad u.cells.length cap] 54)).alloc (.cells #[.int .i64 0, .int .i64 0, .slice none 0 0] 54) = w0 at *
    refine (rCur_any u ad cap e _).mono ?_
    rintro en w1 ⟨rfl, hb1⟩
    have HX1 := Lib.hid' (HX.out.below (Nat.le_refl _) hb1)
    have HB1 := Lib.hid' (below_call hb0.out hb0.out.size hb1)
    obtain ⟨x0, x1, x2, _, _, _, xr, xf, xs⟩ := HX1.out
    clear hb1
    rw [show ((u.cur e : Nat) : Int) = 0 by rw [HC.out]; rfl]
    go_wp2_with fail
    refine (rAt_any u ad cap a _ (H.out.below (Nat.le_refl _) HB1.out)).mono ?_
    rintro en w2 ⟨rfl, hb2⟩
    have HX2 := Lib.hid' (HX1.out.below (Nat.le_refl _) hb2)
    have HB2 := Lib.hid' (below_call HB1.out HB1.out.size hb2)
    clear x0 x1 x2 xr xf xs hb2
    obtain ⟨x0, x1, x2, _, _, _, xr, xf, xs⟩ := HX2.out
    unfold rcellV
    have r0 := xr 0 _ rfl; have r1 := xr 1 _ rfl; have r2 := xr 2 _ rfl
    have f0 := xf 0; have f1 := xf 1; have f2 := xf 2
    clear xr xf
    go_wp2
    refine bodyPost_ret (v := .tuple #[.agg #[.int .i64 u.e, .int .i64 u.l, .slice ad u.cells.length cap], .int .i64 8]) (by simp [results, Tryz.results83, go_sem, r0, r1, r2]) rfl ?_
    rw [Hf.out]
    exact ⟨ad, cap, rfl, H.out.below (Nat.le_refl _) (set3_below HB2.out _ _ _), set3_below HB2.out _ _ _⟩
  have hb1 : ((u.at a).k == 1) = false := by simpa using hk1
  by_cases hk0 : (u.at a).k = 0
  · have Hf := Lib.hid' (show u.rFill e a = ({ u with cells := insC u.cells a ⟨2, []⟩ }, 0) by simp [U.rFill, h1, hc0, hk3, hk1, hk0])
    have hb0 : ((u.at a).k == 0) = true := by simpa using hk0
    clear h1 hc0 hc1 hk3 hk1 hk0
    go_enter Tryz.func83, Tryz.ntmps83
    go_wp2_with fail
    have HX := Lib.hid' (Box2.start w u.e u.l (.slice ad u.cells.length cap) zU 54 54)
    have hb0 := Lib.hid' (show Below w.heap.size w ((w.alloc (.cells #[.int .i64 u.e, .int .i64 u.l, .slice ad u.cells.length cap] 54)).alloc (.cells #[.int .i64 0, .int .i64 0, .slice none 0 0] 54)) by go_grown)
    have e0 : (w.alloc (.cells #[.int .i64 u.e, .int .i64 u.l, .slice ad u.cells.length cap] 54)).alloc (.cells zU.toArray 54) = (w.alloc (.cells #[.int .i64 u.e, .int .i64 u.l, .slice ad u.cells.length cap] 54)).alloc (.cells #[.int .i64 0, .int .i64 0, .slice none 0 0] 54) := rfl
    rw [e0] at HX; clear e0
    generalize (w.alloc (.cells #[.int .i64 u.e, .int .i64 u.l, .slice ad u.cells.length cap] 54)).alloc (.cells #[.int .i64 0, .int .i64 0, .slice none 0 0] 54) = w0 at *
    refine (rCur_any u ad cap e _).mono ?_
    rintro en w1 ⟨rfl, hb1⟩
    have HX1 := Lib.hid' (HX.out.below (Nat.le_refl _) hb1)
    have HB1 := Lib.hid' (below_call hb0.out hb0.out.size hb1)
    obtain ⟨x0, x1, x2, _, _, _, xr, xf, xs⟩ := HX1.out
    clear hb1
    rw [show ((u.cur e : Nat) : Int) = 0 by rw [HC.out]; rfl]
    go_wp2_with fail
    refine (rAt_any u ad cap a _ (H.out.below (Nat.le_refl _) HB1.out)).mono ?_
    rintro en w2 ⟨rfl, hb2⟩
    have HX2 := Lib.hid' (HX1.out.below (Nat.le_refl _) hb2)
    have HB2 := Lib.hid' (below_call HB1.out HB1.out.size hb2)
    clear x0 x1 x2 xr xf xs hb2
    obtain ⟨x0, x1, x2, _, _, _, xr, xf, xs⟩ := HX2.out
    unfold rcellV
    go_wp2_with fail
    refine (with_any u ad cap a ⟨2, []⟩ _ (H.out.below (Nat.le_refl _) HB2.out) hcount.out).mono ?_
    rintro en w3 ⟨ad3, cap3, rfl, hl3, hin3, hb3⟩
    have HX3 := Lib.hid' (HX2.out.below (Nat.le_refl _) hb3)
    have HB3 := Lib.hid' (below_call HB2.out HB2.out.size hb3)
    have HL3 := Lib.hid' hl3
    clear x0 x1 x2 xr xf xs hl3 hb3
    obtain ⟨x0, x1, x2, _, _, _, xr, xf, xs⟩ := HX3.out
    have r0 := xr 0 _ rfl; have r1 := xr 1 _ rfl; have r2 := xr 2 _ rfl
    have f0 := xf 0; have f1 := xf 1; have f2 := xf 2
    clear xr xf
    unfold ruV
    go_wp2
    refine bodyPost_ret (v := .tuple #[.agg #[.int .i64 u.e, .int .i64 u.l, .slice ad3 (insC u.cells a ⟨2, []⟩).length cap3], .int .i64 0]) (by simp [results, Tryz.results83, go_sem, r0, r1, r2]) rfl ?_
    rw [Hf.out]
    refine ⟨ad3, cap3, rfl, ?_, set3_below HB3.out _ _ _⟩
    refine SlV.fr HL3.out (F := fun k => k = w.heap.size + 1) (((fr_set _ _ _ _).trans (fr_set _ _ _ _) (fun _ h => .inl h)).trans (fr_set _ _ _ _) (fun _ h => .inl h)) ?_
    intro p n c' hp hk
    simp only [Value.slice.injEq] at hp
    have := hin3 p hp.1; have := HX2.out.2.2.2.2.2.2.2.2; omega
  have hb0 : ((u.at a).k == 0) = false := by simpa using hk0
  have Hf := Lib.hid' (show u.rFill e a = (u, 0) by simp [U.rFill, h1, hc0, hk3, hk1, hk0])
  clear h1 hc0 hc1 hk3 hk1 hk0
  go_enter Tryz.func83, Tryz.ntmps83
  go_wp2_with fail
  have HX := Lib.hid' (Box2.start w u.e u.l (.slice ad u.cells.length cap) zU 54 54)
  have hb0 := Lib.hid' (show Below w.heap.size w ((w.alloc (.cells #[.int .i64 u.e, .int .i64 u.l, .slice ad u.cells.length cap] 54)).alloc (.cells #[.int .i64 0, .int .i64 0, .slice none 0 0] 54)) by go_grown)
  have e0 : (w.alloc (.cells #[.int .i64 u.e, .int .i64 u.l, .slice ad u.cells.length cap] 54)).alloc (.cells zU.toArray 54) = (w.alloc (.cells #[.int .i64 u.e, .int .i64 u.l, .slice ad u.cells.length cap] 54)).alloc (.cells #[.int .i64 0, .int .i64 0, .slice none 0 0] 54) := rfl
  rw [e0] at HX; clear e0
  generalize (w.alloc (.cells #[.int .i64 u.e, .int .i64 u.l, .slice ad u.cells.length cap] 54)).alloc (.cells #[.int .i64 0, .int .i64 0, .slice none 0 0] 54) = w0 at *
  refine (rCur_any u ad cap e _).mono ?_
  rintro en w1 ⟨rfl, hb1⟩
  have HX1 := Lib.hid' (HX.out.below (Nat.le_refl _) hb1)
  have HB1 := Lib.hid' (below_call hb0.out hb0.out.size hb1)
  obtain ⟨x0, x1, x2, _, _, _, xr, xf, xs⟩ := HX1.out
  clear hb1
  rw [show ((u.cur e : Nat) : Int) = 0 by rw [HC.out]; rfl]
  go_wp2_with fail
  refine (rAt_any u ad cap a _ (H.out.below (Nat.le_refl _) HB1.out)).mono ?_
  rintro en w2 ⟨rfl, hb2⟩
  have HX2 := Lib.hid' (HX1.out.below (Nat.le_refl _) hb2)
  have HB2 := Lib.hid' (below_call HB1.out HB1.out.size hb2)
  clear x0 x1 x2 xr xf xs hb2
  obtain ⟨x0, x1, x2, _, _, _, xr, xf, xs⟩ := HX2.out
  unfold rcellV
  have r0 := xr 0 _ rfl; have r1 := xr 1 _ rfl; have r2 := xr 2 _ rfl
  have f0 := xf 0; have f1 := xf 1; have f2 := xf 2
  clear xr xf
  go_wp2
  refine bodyPost_ret (v := .tuple #[.agg #[.int .i64 u.e, .int .i64 u.l, .slice ad u.cells.length cap], .int .i64 0]) (by simp [results, Tryz.results83, go_sem, r0, r1, r2]) rfl ?_
  rw [Hf.out]
  exact ⟨ad, cap, rfl, H.out.below (Nat.le_refl _) (set3_below HB2.out _ _ _), set3_below HB2.out _ _ _⟩

end Go.Proofs.YtkljeefncopodaaGreat

namespace Go.Proofs.YtkljeefncopodaaGreat
open Go.RowKit
set_option linter.unusedSimpArgs false
set_option linter.unusedVariables false
set_option maxRecDepth 20000

theorem Box2.set1 {N : Nat} {e l : Int} {s : Value} {R : List Value} {w : World} (h : Box2 N e l s R w) (x : Int) : Box2 N e x s R (w.setCell ⟨N, 1, none⟩ (.int .i64 x)) := by
  obtain ⟨a, b, c, d, f, g, i, j, k⟩ := h
  have hn : ∀ o, w.cell? ⟨N, o, none⟩ ≠ none → (w.setCell ⟨N, 1, none⟩ (.int .i64 x)).cell? ⟨N, o, none⟩ = if o = 1 then some (.int .i64 x) else w.cell? ⟨N, o, none⟩ := by
    intro o ho
    by_cases h1 : o = 1
    · subst h1; simp [go_sem, b]
    · rw [if_neg h1]
      cases hc : w.cell? ⟨N, o, none⟩ with
      | none => exact absurd hc ho
      | some v => have h1' : ¬ 1 = o := fun h => h1 h.symm; simp [go_sem, hc, h1, h1']
  have hfz : ∀ B o, (w.setCell ⟨N, 1, none⟩ (.int .i64 x)).frozen? ⟨B, o, none⟩ = w.frozen? ⟨B, o, none⟩ := fun B o => by simp [go_sem]
  refine ⟨?_, ?_, ?_, ?_, ?_, ?_, ?_, ?_, by simpa using k⟩
  · rw [hn 0 (by rw [a]; simp)]; exact a
  · rw [hn 1 (by rw [b]; simp)]; rfl
  · rw [hn 2 (by rw [c]; simp)]; exact c
  · rw [hfz]; exact d
  · rw [hfz]; exact f
  · rw [hfz]; exact g
  · intro q v hq
    rw [← i q v hq]; exact World.cell?_of_block (w := w) (heap_setCell_other _ _ _ _ (by simp))
  · intro q; rw [hfz]; exact j q

set_option maxHeartbeats 4000000 in
theorem rTrim_any (u : U) (ad : Option Addr) (cap : Nat) (e b : Int) (w : World) (h : RList w (.slice ad u.cells.length cap) u.cells) (hc : u.cells.length ≤ 4194304) :
    Calls Tryz.prog 84 #[ruV u ad cap, .int .i64 e, .int .i64 b] w (RUN (u.rTrim e b).1 (u.rTrim e b).2 w) := by
  have H := Lib.hid' h; have hcount := Lib.hid' hc; clear h hc; unfold ruV
  by_cases h1 : b < 0 ∨ 1048576 < b
  · have Hf := Lib.hid' (show u.rTrim e b = (u, 1) by simp [U.rTrim, h1])
    rcases h1 with h1 | h1
    · skip
      go_enter Tryz.func84, Tryz.ntmps84
      go_wp2
      refine bodyPost_ret (v := .tuple #[.agg #[.int .i64 u.e, .int .i64 u.l, .slice ad u.cells.length cap], .int .i64 1]) (by simp [results, Tryz.results84, go_sem]) rfl ?_
      rw [Hf.out]
      exact ⟨ad, cap, rfl, H.out.below (Nat.le_refl _) (by go_grown), by go_grown⟩
    · have h1b : ¬ b < 0 := by omega
      go_enter Tryz.func84, Tryz.ntmps84
      go_wp2
      refine bodyPost_ret (v := .tuple #[.agg #[.int .i64 u.e, .int .i64 u.l, .slice ad u.cells.length cap], .int .i64 1]) (by simp [results, Tryz.results84, go_sem]) rfl ?_
      rw [Hf.out]
      exact ⟨ad, cap, rfl, H.out.below (Nat.le_refl _) (by go_grown), by go_grown⟩
  have h1a : ¬ b < 0 := by omega
  have h1b : ¬ 1048576 < b := by omega
  by_cases hc0 : u.cur e = 0
  rotate_left
  · have Hf := Lib.hid' (show u.rTrim e b = (u, u.cur e) by simp [U.rTrim, h1, hc0])
    have hc1 : (((u.cur e : Nat) : Int) != 0) = true := by rw [bne_iff_ne]; omega
    clear h1 hc0
    go_enter Tryz.func84, Tryz.ntmps84
    go_wp2_with fail
    have HX := Lib.hid' (Box2.start w u.e u.l (.slice ad u.cells.length cap) zU 54 54)
    have hb0 := Lib.hid' (show Below w.heap.size w ((w.alloc (.cells #[.int .i64 u.e, .int .i64 u.l, .slice ad u.cells.length cap] 54)).alloc (.cells #[.int .i64 0, .int .i64 0, .slice none 0 0] 54)) by go_grown)
    have e0 : (w.alloc (.cells #[.int .i64 u.e, .int .i64 u.l, .slice ad u.cells.length cap] 54)).alloc (.cells zU.toArray 54) = (w.alloc (.cells #[.int .i64 u.e, .int .i64 u.l, .slice ad u.cells.length cap] 54)).alloc (.cells #[.int .i64 0, .int .i64 0, .slice none 0 0] 54) := rfl
    rw [e0] at HX; clear e0
    generalize (w.alloc (.cells #[.int .i64 u.e, .int .i64 u.l, .slice ad u.cells.length cap] 54)).alloc (.cells #[.int .i64 0, .int .i64 0, .slice none 0 0] 54) = w0 at *
    refine (rCur_any u ad cap e _).mono ?_
    rintro en w1 ⟨rfl, hb1⟩
    have HX1 := Lib.hid' (HX.out.below (Nat.le_refl _) hb1)
    have HB1 := Lib.hid' (below_call hb0.out hb0.out.size hb1)
    obtain ⟨x0, x1, x2, y0, y1, y2, xr, xf, xs⟩ := HX1.out
    clear hb1
    have r0 := xr 0 _ rfl; have r1 := xr 1 _ rfl; have r2 := xr 2 _ rfl
    have f0 := xf 0; have f1 := xf 1; have f2 := xf 2
    clear xr xf
    go_wp2
    refine bodyPost_ret (v := .tuple #[.agg #[.int .i64 u.e, .int .i64 u.l, .slice ad u.cells.length cap], .int .i64 (u.cur e : Nat)]) (by simp [results, Tryz.results84, go_sem, r0, r1, r2]) rfl ?_
    rw [Hf.out]
    exact ⟨ad, cap, rfl, H.out.below (Nat.le_refl _) (by first | exact set3_below HB1.out _ _ _ | (refine Below.trans ?_ (Below.refl _ _).drew; exact set3_below HB1.out _ _ _) | (exact set3_below (HB1.out.drew) _ _ _)), by first | exact set3_below HB1.out _ _ _ | (exact set3_below (HB1.out.drew) _ _ _)⟩
  have HC := Lib.hid' hc0
  have Hf := Lib.hid' (show u.rTrim e b = ({ u with l := max u.l b, cells := u.cells.filter (fun p => decide (max u.l b ≤ p.1)) }, 0) by simp [U.rTrim, h1, hc0])
  clear h1 hc0
  go_enter Tryz.func84, Tryz.ntmps84
  go_wp2_with fail
  have HX := Lib.hid' (Box2.start w u.e u.l (.slice ad u.cells.length cap) zU 54 54)
  have hb0 := Lib.hid' (show Below w.heap.size w ((w.alloc (.cells #[.int .i64 u.e, .int .i64 u.l, .slice ad u.cells.length cap] 54)).alloc (.cells #[.int .i64 0, .int .i64 0, .slice none 0 0] 54)) by go_grown)
  have e0 : (w.alloc (.cells #[.int .i64 u.e, .int .i64 u.l, .slice ad u.cells.length cap] 54)).alloc (.cells zU.toArray 54) = (w.alloc (.cells #[.int .i64 u.e, .int .i64 u.l, .slice ad u.cells.length cap] 54)).alloc (.cells #[.int .i64 0, .int .i64 0, .slice none 0 0] 54) := rfl
  rw [e0] at HX; clear e0
  generalize (w.alloc (.cells #[.int .i64 u.e, .int .i64 u.l, .slice ad u.cells.length cap] 54)).alloc (.cells #[.int .i64 0, .int .i64 0, .slice none 0 0] 54) = w0 at *
  refine (rCur_any u ad cap e _).mono ?_
  rintro en w1 ⟨rfl, hb1⟩
  have HX1 := Lib.hid' (HX.out.below (Nat.le_refl _) hb1)
  have HB1 := Lib.hid' (below_call hb0.out hb0.out.size hb1)
  obtain ⟨x0, x1, x2, y0, y1, y2, xr, xf, xs⟩ := HX1.out
  clear hb1
  rw [show ((u.cur e : Nat) : Int) = 0 by rw [HC.out]; rfl]
  have cut : ∃ lv : Int, lv = max u.l b := ⟨_, rfl⟩
  obtain ⟨lv, hlv⟩ := cut
  have fin : ∀ wL : World, Box2 w.heap.size u.e lv (.slice ad u.cells.length cap) zU wL → Below w.heap.size w wL → True := fun _ _ _ => trivial
  clear fin
  by_cases hlb : u.l < b
  · obtain rfl : b = lv := by omega
    have Hlv := Lib.hid' hlv; clear hlv
    have HXa := Lib.hid' (HX1.out.set1 b)
    have HBa := Lib.hid' (HB1.out.setCell (p := ⟨w.heap.size, 1, none⟩) (by simp) (.int .i64 b))
    clear x0 x2 xr xf xs y0 y2
    go_wp2_with fail
    have e4 : w1.heap.size = (w1.setCell ⟨w.heap.size, 1, none⟩ (.int .i64 b)).heap.size := by simp
    rw [e4]; clear e4
    generalize w1.setCell ⟨w.heap.size, 1, none⟩ (.int .i64 b) = w4 at *
    go_loopw [9, 10] (fun vo vi wr => ∃ (k : Nat) (O : List (Int × C)) (a' : Option Addr) (c' : Nat), vo = .slice a' O.length c' ∧ vi = .int .i64 k ∧ k ≤ u.cells.length ∧ O = (u.cells.take k).filter (fun p => decide (b ≤ p.1)) ∧ wr.ownsRow w4.heap.size 126 3 (.slice a' O.length c') O.length (rents O) ∧ Below w4.heap.size w4 wr) (fun _ vi _ => u.cells.length - (intOf vi).toNat)
    case atStart => exact ⟨0, [], _, _, rfl, rfl, Nat.zero_le _, by simp, own_empty _ _ _, by go_grown⟩
    case round =>
      obtain ⟨k, O, a', c', rfl, rfl, hk, hO, ho, hbr⟩ := hrel
      have HO' := Lib.hid' hO
      have HO := Lib.hid' ho
      have HBR := Lib.hid' hbr
      have HXr := Lib.hid' (HXa.out.below (Nat.le_refl _) hbr)
      obtain ⟨x0, x1, x2, y0, y1, y2, xr, xf, xs⟩ := HXr.out
      have hws : w4.heap.size ≤ wr.heap.size := hbr.size
      have hn0 : O.length ≤ u.cells.length := by rw [hO]; exact Nat.le_trans (List.length_filter_le _ _) (by rw [List.length_take]; omega)
      have hcc := hcount.out
      have hxa := HXa.out.2.2.2.2.2.2.2.2
      clear hO ho
      by_cases hlt : k < u.cells.length
      · obtain ⟨b0, off, rfl, hb, c0, c1, c2⟩ := H.out.get hlt
        have hbw := Lib.hid' (HBa.out.trans (hbr.mono HBa.out.size))
        have d0 : wr.cell? ⟨b0, off + k * 3, none⟩ = some (.int .i64 u.cells[k].1) := ((bcell hbw.out).1 _ _ hb).trans c0
        have d1 : wr.cell? ⟨b0, off + k * 3 + 1, none⟩ = some (.int .i64 u.cells[k].2.k) := ((bcell hbw.out).1 _ _ hb).trans c1
        have d2 : wr.cell? ⟨b0, off + k * 3 + 2, none⟩ = some (.string (strOf u.cells[k].2.d)) := ((bcell hbw.out).1 _ _ hb).trans c2
        have hbr0 : b0 < wr.heap.size := Nat.lt_of_lt_of_le hb hbw.out.size
        have Hnx := Lib.hid' (take_succ u.cells k hlt)
        clear c0 c1 c2 hbr xr xf
        by_cases hp : b ≤ u.cells[k].1
        · have Hp := Lib.hid' hp
          go_wp2_with fail
          go_region_held3 (fun w' => w'.cell? ⟨w.heap.size, 1, none⟩ = some (.int .i64 b) ∧ w'.cell? ⟨w.heap.size, 2, none⟩ = some (.slice (some ⟨b0, off, none⟩) u.cells.length cap) ∧ w'.cell? ⟨b0, off + k * 3, none⟩ = some (.int .i64 u.cells[k].1)) (go_keep) (fail)
          have HO2 := Lib.hid' (show wr.drew.ownsRow w4.heap.size 126 3 (.slice a' O.length c') O.length (rents O) from HO.out)
          have HBR2 := Lib.hid' (show Below w4.heap.size w4 wr.drew from HBR.out.drew)
          have g2 : wr.drew.cell? ⟨w.heap.size, 2, none⟩ = some (.slice (some ⟨b0, off, none⟩) u.cells.length cap) := x2
          have g3 : wr.drew.cell? ⟨b0, off + k * 3, none⟩ = some (.int .i64 u.cells[k].1) := d0
          have g4 : wr.drew.cell? ⟨b0, off + k * 3 + 1, none⟩ = some (.int .i64 u.cells[k].2.k) := d1
          have g5 : wr.drew.cell? ⟨b0, off + k * 3 + 2, none⟩ = some (.string (strOf u.cells[k].2.d)) := d2
          have hws2 : w4.heap.size ≤ wr.drew.heap.size := hws
          clear x0 x1 x2 y0 y1 y2 d0 d1 d2 HXr HO HBR hbw hws hbr0 xs
          generalize wr.drew = wq at *
          go_wp2_with (at_builtin; refine append_one etREnt rfl (.tmp 48) (.tmp 54) rfl [.int .i64 u.cells[k].1, .int .i64 u.cells[k].2.k, .string (strOf u.cells[k].2.d)] rfl w4.heap.size _ _ _ rfl HO2.out rfl (one3 _ _ _) (by omega) hws2 ?_)
          intro a2 c2 w5 ho2 hf2
          have HO3 := Lib.hid' ho2
          have HB3 := Lib.hid' (hf2.row HO2.out (Nat.le_refl _) hws2 HBR2.out)
          clear ho2 hf2
          go_wp2
          go_roundw
          case rel =>
            refine ⟨k + 1, O ++ [u.cells[k]], a2, c2, by simp, by go_num, by omega, ?_, ?_, HB3.out⟩
            · have := Hp.out; rw [Hnx.out, List.filter_append, ← HO'.out]; simp [this]
            · rw [rents_append, List.length_append]; exact HO3.out
          case measure => simp [intOf]; omega
        · have Hp := Lib.hid' hp
          go_wp2_with fail
          go_region_held3 (fun w' => w'.cell? ⟨w.heap.size, 1, none⟩ = some (.int .i64 b) ∧ w'.cell? ⟨w.heap.size, 2, none⟩ = some (.slice (some ⟨b0, off, none⟩) u.cells.length cap) ∧ w'.cell? ⟨b0, off + k * 3, none⟩ = some (.int .i64 u.cells[k].1)) (go_keep) (fail)
          have HO2 := Lib.hid' (show wr.drew.ownsRow w4.heap.size 126 3 (.slice a' O.length c') O.length (rents O) from HO.out)
          have HBR2 := Lib.hid' (show Below w4.heap.size w4 wr.drew from HBR.out.drew)
          have g2 : wr.drew.cell? ⟨w.heap.size, 2, none⟩ = some (.slice (some ⟨b0, off, none⟩) u.cells.length cap) := x2
          have g3 : wr.drew.cell? ⟨b0, off + k * 3, none⟩ = some (.int .i64 u.cells[k].1) := d0
          have g4 : wr.drew.cell? ⟨b0, off + k * 3 + 1, none⟩ = some (.int .i64 u.cells[k].2.k) := d1
          have g5 : wr.drew.cell? ⟨b0, off + k * 3 + 2, none⟩ = some (.string (strOf u.cells[k].2.d)) := d2
          have hws2 : w4.heap.size ≤ wr.drew.heap.size := hws
          clear x0 x1 x2 y0 y1 y2 d0 d1 d2 HXr HO HBR hbw hws hbr0 xs
          generalize wr.drew = wq at *
          go_wp2
          go_roundw
          case rel =>
            refine ⟨k + 1, O, a', c', rfl, by go_num, by omega, ?_, HO2.out, HBR2.out⟩
            have := Hp.out; rw [Hnx.out, List.filter_append, ← HO'.out]; simp [this]
          case measure => simp [intOf]; omega
      · have HE := Lib.hid' (show O = u.cells.filter (fun p => decide (b ≤ p.1)) by have := HO'.out; rwa [List.take_of_length_le (by omega)] at this)
        have r0 := xr 0 _ rfl; have r1 := xr 1 _ rfl; have r2 := xr 2 _ rfl
        have f0 := xf 0; have f1 := xf 1; have f2 := xf 2
        have hbw := Lib.hid' (HBa.out.trans (hbr.mono HBa.out.size))
        clear xr xf hbr
        go_wp2
        refine bodyPost_ret (v := .tuple #[.agg #[.int .i64 u.e, .int .i64 b, .slice a' O.length c'], .int .i64 0]) (by simp [results, Tryz.results84, go_sem, r0, r1, r2, x0, x1, x2]) rfl ?_
        rw [Hf.out, ← Hlv.out, ← HE.out]
        refine ⟨a', c', rfl, ?_, ?_⟩
        · exact SlV.of_own (ownsRow_setCell_below (ownsRow_setCell_below (ownsRow_setCell_below (ownsRow_setCell_below HO.out (by simp; omega) _) (by simp; omega) _) (by simp; omega) _) (by simp; omega) _)
        · exact set3_below (hbw.out.setCell (by simp) _) _ _ _
  · have hlb' : max u.l b = u.l := by omega
    rw [hlb'] at hlv; subst hlv
    have Hlv := Lib.hid' hlb'; clear hlb'
    have HXa := HX1; have HBa := HB1
    clear x0 x2 xr xf xs y0 y1 y2
    go_wp2_with fail
    generalize w1 = w4 at *
    go_loopw [9, 10] (fun vo vi wr => ∃ (k : Nat) (O : List (Int × C)) (a' : Option Addr) (c' : Nat), vo = .slice a' O.length c' ∧ vi = .int .i64 k ∧ k ≤ u.cells.length ∧ O = (u.cells.take k).filter (fun p => decide (u.l ≤ p.1)) ∧ wr.ownsRow w4.heap.size 126 3 (.slice a' O.length c') O.length (rents O) ∧ Below w4.heap.size w4 wr) (fun _ vi _ => u.cells.length - (intOf vi).toNat)
    case atStart => exact ⟨0, [], _, _, rfl, rfl, Nat.zero_le _, by simp, own_empty _ _ _, by go_grown⟩
    case round =>
      obtain ⟨k, O, a', c', rfl, rfl, hk, hO, ho, hbr⟩ := hrel
      have HO' := Lib.hid' hO
      have HO := Lib.hid' ho
      have HBR := Lib.hid' hbr
      have HXr := Lib.hid' (HXa.out.below (Nat.le_refl _) hbr)
      obtain ⟨x0, x1, x2, y0, y1, y2, xr, xf, xs⟩ := HXr.out
      have hws : w4.heap.size ≤ wr.heap.size := hbr.size
      have hn0 : O.length ≤ u.cells.length := by rw [hO]; exact Nat.le_trans (List.length_filter_le _ _) (by rw [List.length_take]; omega)
      have hcc := hcount.out
      have hxa := HXa.out.2.2.2.2.2.2.2.2
      clear hO ho
      by_cases hlt : k < u.cells.length
      · obtain ⟨b0, off, rfl, hb, c0, c1, c2⟩ := H.out.get hlt
        have hbw := Lib.hid' (HBa.out.trans (hbr.mono HBa.out.size))
        have d0 : wr.cell? ⟨b0, off + k * 3, none⟩ = some (.int .i64 u.cells[k].1) := ((bcell hbw.out).1 _ _ hb).trans c0
        have d1 : wr.cell? ⟨b0, off + k * 3 + 1, none⟩ = some (.int .i64 u.cells[k].2.k) := ((bcell hbw.out).1 _ _ hb).trans c1
        have d2 : wr.cell? ⟨b0, off + k * 3 + 2, none⟩ = some (.string (strOf u.cells[k].2.d)) := ((bcell hbw.out).1 _ _ hb).trans c2
        have hbr0 : b0 < wr.heap.size := Nat.lt_of_lt_of_le hb hbw.out.size
        have Hnx := Lib.hid' (take_succ u.cells k hlt)
        clear c0 c1 c2 hbr xr xf
        by_cases hp : u.l ≤ u.cells[k].1
        · have Hp := Lib.hid' hp
          go_wp2_with fail
          go_region_held3 (fun w' => w'.cell? ⟨w.heap.size, 1, none⟩ = some (.int .i64 u.l) ∧ w'.cell? ⟨w.heap.size, 2, none⟩ = some (.slice (some ⟨b0, off, none⟩) u.cells.length cap) ∧ w'.cell? ⟨b0, off + k * 3, none⟩ = some (.int .i64 u.cells[k].1)) (go_keep) (fail)
          have HO2 := Lib.hid' (show wr.drew.ownsRow w4.heap.size 126 3 (.slice a' O.length c') O.length (rents O) from HO.out)
          have HBR2 := Lib.hid' (show Below w4.heap.size w4 wr.drew from HBR.out.drew)
          have g2 : wr.drew.cell? ⟨w.heap.size, 2, none⟩ = some (.slice (some ⟨b0, off, none⟩) u.cells.length cap) := x2
          have g3 : wr.drew.cell? ⟨b0, off + k * 3, none⟩ = some (.int .i64 u.cells[k].1) := d0
          have g4 : wr.drew.cell? ⟨b0, off + k * 3 + 1, none⟩ = some (.int .i64 u.cells[k].2.k) := d1
          have g5 : wr.drew.cell? ⟨b0, off + k * 3 + 2, none⟩ = some (.string (strOf u.cells[k].2.d)) := d2
          have hws2 : w4.heap.size ≤ wr.drew.heap.size := hws
          clear x0 x1 x2 y0 y1 y2 d0 d1 d2 HXr HO HBR hbw hws hbr0 xs
          generalize wr.drew = wq at *
          go_wp2_with (at_builtin; refine append_one etREnt rfl (.tmp 48) (.tmp 54) rfl [.int .i64 u.cells[k].1, .int .i64 u.cells[k].2.k, .string (strOf u.cells[k].2.d)] rfl w4.heap.size _ _ _ rfl HO2.out rfl (one3 _ _ _) (by omega) hws2 ?_)
          intro a2 c2 w5 ho2 hf2
          have HO3 := Lib.hid' ho2
          have HB3 := Lib.hid' (hf2.row HO2.out (Nat.le_refl _) hws2 HBR2.out)
          clear ho2 hf2
          go_wp2
          go_roundw
          case rel =>
            refine ⟨k + 1, O ++ [u.cells[k]], a2, c2, by simp, by go_num, by omega, ?_, ?_, HB3.out⟩
            · have := Hp.out; rw [Hnx.out, List.filter_append, ← HO'.out]; simp [this]
            · rw [rents_append, List.length_append]; exact HO3.out
          case measure => simp [intOf]; omega
        · have Hp := Lib.hid' hp
          go_wp2_with fail
          go_region_held3 (fun w' => w'.cell? ⟨w.heap.size, 1, none⟩ = some (.int .i64 u.l) ∧ w'.cell? ⟨w.heap.size, 2, none⟩ = some (.slice (some ⟨b0, off, none⟩) u.cells.length cap) ∧ w'.cell? ⟨b0, off + k * 3, none⟩ = some (.int .i64 u.cells[k].1)) (go_keep) (fail)
          have HO2 := Lib.hid' (show wr.drew.ownsRow w4.heap.size 126 3 (.slice a' O.length c') O.length (rents O) from HO.out)
          have HBR2 := Lib.hid' (show Below w4.heap.size w4 wr.drew from HBR.out.drew)
          have g2 : wr.drew.cell? ⟨w.heap.size, 2, none⟩ = some (.slice (some ⟨b0, off, none⟩) u.cells.length cap) := x2
          have g3 : wr.drew.cell? ⟨b0, off + k * 3, none⟩ = some (.int .i64 u.cells[k].1) := d0
          have g4 : wr.drew.cell? ⟨b0, off + k * 3 + 1, none⟩ = some (.int .i64 u.cells[k].2.k) := d1
          have g5 : wr.drew.cell? ⟨b0, off + k * 3 + 2, none⟩ = some (.string (strOf u.cells[k].2.d)) := d2
          have hws2 : w4.heap.size ≤ wr.drew.heap.size := hws
          clear x0 x1 x2 y0 y1 y2 d0 d1 d2 HXr HO HBR hbw hws hbr0 xs
          generalize wr.drew = wq at *
          go_wp2
          go_roundw
          case rel =>
            refine ⟨k + 1, O, a', c', rfl, by go_num, by omega, ?_, HO2.out, HBR2.out⟩
            have := Hp.out; rw [Hnx.out, List.filter_append, ← HO'.out]; simp [this]
          case measure => simp [intOf]; omega
      · have HE := Lib.hid' (show O = u.cells.filter (fun p => decide (u.l ≤ p.1)) by have := HO'.out; rwa [List.take_of_length_le (by omega)] at this)
        have r0 := xr 0 _ rfl; have r1 := xr 1 _ rfl; have r2 := xr 2 _ rfl
        have f0 := xf 0; have f1 := xf 1; have f2 := xf 2
        have hbw := Lib.hid' (HBa.out.trans (hbr.mono HBa.out.size))
        clear xr xf hbr
        go_wp2
        refine bodyPost_ret (v := .tuple #[.agg #[.int .i64 u.e, .int .i64 u.l, .slice a' O.length c'], .int .i64 0]) (by simp [results, Tryz.results84, go_sem, r0, r1, r2, x0, x1, x2]) rfl ?_
        rw [Hf.out, Hlv.out, ← HE.out]
        refine ⟨a', c', rfl, ?_, ?_⟩
        · exact SlV.of_own (ownsRow_setCell_below (ownsRow_setCell_below (ownsRow_setCell_below (ownsRow_setCell_below HO.out (by simp; omega) _) (by simp; omega) _) (by simp; omega) _) (by simp; omega) _)
        · exact set3_below (hbw.out.setCell (by simp) _) _ _ _

set_option maxHeartbeats 4000000 in
theorem rCut_any (u : U) (ad : Option Addr) (cap : Nat) (e b : Int) (w : World) (h : RList w (.slice ad u.cells.length cap) u.cells) (hc : u.cells.length ≤ 4194304) :
    Calls Tryz.prog 85 #[ruV u ad cap, .int .i64 e, .int .i64 b] w (RTUN (u.rCut e b).1 (u.rCut e b).2.1 (u.rCut e b).2.2 w) := by
  have H := Lib.hid' h; have hcount := Lib.hid' hc; clear h hc; unfold ruV
  by_cases h1 : b < 0 ∨ 1048576 < b
  · have Hf := Lib.hid' (show u.rCut e b = (0, u, 1) by simp [U.rCut, h1])
    rcases h1 with h1 | h1
    · skip
      go_enter Tryz.func85, Tryz.ntmps85
      go_wp2_with fail
      go_region_held3 (fun w' => w'.cell? ⟨w.heap.size, 0, none⟩ = some (.int .i64 u.e) ∧ w'.cell? ⟨w.heap.size, 1, none⟩ = some (.int .i64 u.l) ∧ w'.cell? ⟨w.heap.size, 2, none⟩ = some (.slice ad u.cells.length cap)) (go_keep) (fail)
      go_wp2
      refine bodyPost_ret (v := .tuple #[.int .i64 0, .agg #[.int .i64 u.e, .int .i64 u.l, .slice ad u.cells.length cap], .int .i64 1]) (by simp [results, Tryz.results85, go_sem]) rfl ?_
      rw [Hf.out]
      exact ⟨ad, cap, rfl, H.out.below (Nat.le_refl _) (by go_grown), by go_grown⟩
    · have h1b : ¬ b < 0 := by omega
      go_enter Tryz.func85, Tryz.ntmps85
      go_wp2_with fail
      go_region_held3 (fun w' => w'.cell? ⟨w.heap.size, 0, none⟩ = some (.int .i64 u.e) ∧ w'.cell? ⟨w.heap.size, 1, none⟩ = some (.int .i64 u.l) ∧ w'.cell? ⟨w.heap.size, 2, none⟩ = some (.slice ad u.cells.length cap)) (go_keep) (fail)
      go_wp2
      refine bodyPost_ret (v := .tuple #[.int .i64 0, .agg #[.int .i64 u.e, .int .i64 u.l, .slice ad u.cells.length cap], .int .i64 1]) (by simp [results, Tryz.results85, go_sem]) rfl ?_
      rw [Hf.out]
      exact ⟨ad, cap, rfl, H.out.below (Nat.le_refl _) (by go_grown), by go_grown⟩
  have h1a : ¬ b < 0 := by omega
  have h1b : ¬ 1048576 < b := by omega
  by_cases hc0 : u.cur e = 0
  rotate_left
  · have Hf := Lib.hid' (show u.rCut e b = (0, u, u.cur e) by simp [U.rCut, h1, hc0])
    have hc1 : (((u.cur e : Nat) : Int) != 0) = true := by rw [bne_iff_ne]; omega
    clear h1 hc0
    go_enter Tryz.func85, Tryz.ntmps85
    go_wp2_with fail
    have HX := Lib.hid' (Box2.start w u.e u.l (.slice ad u.cells.length cap) zU 54 54)
    have hb0 := Lib.hid' (show Below w.heap.size w ((w.alloc (.cells #[.int .i64 u.e, .int .i64 u.l, .slice ad u.cells.length cap] 54)).alloc (.cells #[.int .i64 0, .int .i64 0, .slice none 0 0] 54)) by go_grown)
    have e0 : (w.alloc (.cells #[.int .i64 u.e, .int .i64 u.l, .slice ad u.cells.length cap] 54)).alloc (.cells zU.toArray 54) = (w.alloc (.cells #[.int .i64 u.e, .int .i64 u.l, .slice ad u.cells.length cap] 54)).alloc (.cells #[.int .i64 0, .int .i64 0, .slice none 0 0] 54) := rfl
    rw [e0] at HX; clear e0
    generalize (w.alloc (.cells #[.int .i64 u.e, .int .i64 u.l, .slice ad u.cells.length cap] 54)).alloc (.cells #[.int .i64 0, .int .i64 0, .slice none 0 0] 54) = w0 at *
    refine (rCur_any u ad cap e _).mono ?_
    rintro en w1 ⟨rfl, hb1⟩
    have HX1 := Lib.hid' (HX.out.below (Nat.le_refl _) hb1)
    have HB1 := Lib.hid' (below_call hb0.out hb0.out.size hb1)
    obtain ⟨x0, x1, x2, y0, y1, y2, xr, xf, xs⟩ := HX1.out
    clear hb1
    have r0 := xr 0 _ rfl; have r1 := xr 1 _ rfl; have r2 := xr 2 _ rfl
    have f0 := xf 0; have f1 := xf 1; have f2 := xf 2
    clear xr xf
    go_wp2_with fail
    go_region_held3 (fun w' => w'.cell? ⟨w.heap.size, 0, none⟩ = some (.int .i64 u.e) ∧ w'.cell? ⟨w.heap.size, 1, none⟩ = some (.int .i64 u.l) ∧ w'.cell? ⟨w.heap.size, 2, none⟩ = some (.slice ad u.cells.length cap)) (go_keep) (fail)
    go_wp2
    refine bodyPost_ret (v := .tuple #[.int .i64 0, .agg #[.int .i64 u.e, .int .i64 u.l, .slice ad u.cells.length cap], .int .i64 (u.cur e : Nat)]) (by simp [results, Tryz.results85, go_sem, r0, r1, r2]) rfl ?_
    rw [Hf.out]
    exact ⟨ad, cap, rfl, H.out.below (Nat.le_refl _) (by first | exact set3_below HB1.out _ _ _ | (refine Below.trans ?_ (Below.refl _ _).drew; exact set3_below HB1.out _ _ _) | (exact set3_below (HB1.out.drew) _ _ _)), by first | exact set3_below HB1.out _ _ _ | (exact set3_below (HB1.out.drew) _ _ _)⟩
  have HC := Lib.hid' hc0
  by_cases hl : b < u.l
  · have Hf := Lib.hid' (show u.rCut e b = (0, u, 9) by simp [U.rCut, h1, hc0, hl])
    clear h1 hc0
    go_enter Tryz.func85, Tryz.ntmps85
    go_wp2_with fail
    have HX := Lib.hid' (Box2.start w u.e u.l (.slice ad u.cells.length cap) zU 54 54)
    have hb0 := Lib.hid' (show Below w.heap.size w ((w.alloc (.cells #[.int .i64 u.e, .int .i64 u.l, .slice ad u.cells.length cap] 54)).alloc (.cells #[.int .i64 0, .int .i64 0, .slice none 0 0] 54)) by go_grown)
    have e0 : (w.alloc (.cells #[.int .i64 u.e, .int .i64 u.l, .slice ad u.cells.length cap] 54)).alloc (.cells zU.toArray 54) = (w.alloc (.cells #[.int .i64 u.e, .int .i64 u.l, .slice ad u.cells.length cap] 54)).alloc (.cells #[.int .i64 0, .int .i64 0, .slice none 0 0] 54) := rfl
    rw [e0] at HX; clear e0
    generalize (w.alloc (.cells #[.int .i64 u.e, .int .i64 u.l, .slice ad u.cells.length cap] 54)).alloc (.cells #[.int .i64 0, .int .i64 0, .slice none 0 0] 54) = w0 at *
    refine (rCur_any u ad cap e _).mono ?_
    rintro en w1 ⟨rfl, hb1⟩
    have HX1 := Lib.hid' (HX.out.below (Nat.le_refl _) hb1)
    have HB1 := Lib.hid' (below_call hb0.out hb0.out.size hb1)
    obtain ⟨x0, x1, x2, y0, y1, y2, xr, xf, xs⟩ := HX1.out
    clear hb1
    rw [show ((u.cur e : Nat) : Int) = 0 by rw [HC.out]; rfl]
    have r0 := xr 0 _ rfl; have r1 := xr 1 _ rfl; have r2 := xr 2 _ rfl
    have f0 := xf 0; have f1 := xf 1; have f2 := xf 2
    clear xr xf
    go_wp2_with fail
    go_region_held3 (fun w' => w'.cell? ⟨w.heap.size, 0, none⟩ = some (.int .i64 u.e) ∧ w'.cell? ⟨w.heap.size, 1, none⟩ = some (.int .i64 u.l) ∧ w'.cell? ⟨w.heap.size, 2, none⟩ = some (.slice ad u.cells.length cap)) (go_keep) (fail)
    go_wp2
    refine bodyPost_ret (v := .tuple #[.int .i64 0, .agg #[.int .i64 u.e, .int .i64 u.l, .slice ad u.cells.length cap], .int .i64 9]) (by simp [results, Tryz.results85, go_sem, r0, r1, r2]) rfl ?_
    rw [Hf.out]
    exact ⟨ad, cap, rfl, H.out.below (Nat.le_refl _) (set3_below (HB1.out.drew) _ _ _), set3_below (HB1.out.drew) _ _ _⟩
  have Hf := Lib.hid' (show u.rCut e b = ((u.cells.length : Int) - (u.cells.filter (fun p => decide (p.1 < b))).length, { u with cells := u.cells.filter (fun p => decide (p.1 < b)) }, 0) by simp [U.rCut, h1, hc0, hl])
  clear h1 hc0
  go_enter Tryz.func85, Tryz.ntmps85
  go_wp2_with fail
  have HX := Lib.hid' (Box2.start w u.e u.l (.slice ad u.cells.length cap) zU 54 54)
  have hb0 := Lib.hid' (show Below w.heap.size w ((w.alloc (.cells #[.int .i64 u.e, .int .i64 u.l, .slice ad u.cells.length cap] 54)).alloc (.cells #[.int .i64 0, .int .i64 0, .slice none 0 0] 54)) by go_grown)
  have e0 : (w.alloc (.cells #[.int .i64 u.e, .int .i64 u.l, .slice ad u.cells.length cap] 54)).alloc (.cells zU.toArray 54) = (w.alloc (.cells #[.int .i64 u.e, .int .i64 u.l, .slice ad u.cells.length cap] 54)).alloc (.cells #[.int .i64 0, .int .i64 0, .slice none 0 0] 54) := rfl
  rw [e0] at HX; clear e0
  generalize (w.alloc (.cells #[.int .i64 u.e, .int .i64 u.l, .slice ad u.cells.length cap] 54)).alloc (.cells #[.int .i64 0, .int .i64 0, .slice none 0 0] 54) = w0 at *
  refine (rCur_any u ad cap e _).mono ?_
  rintro en w1 ⟨rfl, hb1⟩
  have HX1 := Lib.hid' (HX.out.below (Nat.le_refl _) hb1)
  have HB1 := Lib.hid' (below_call hb0.out hb0.out.size hb1)
  obtain ⟨x0, x1, x2, y0, y1, y2, xr, xf, xs⟩ := HX1.out
  clear hb1
  rw [show ((u.cur e : Nat) : Int) = 0 by rw [HC.out]; rfl]
  have HXa := HX1; have HBa := HB1
  clear x0 x2 xr xf xs y0 y1 y2
  go_wp2_with fail
  generalize w1 = w4 at *
  go_loopw [10, 11] (fun vo vi wr => ∃ (k : Nat) (O : List (Int × C)) (a' : Option Addr) (c' : Nat), vo = .slice a' O.length c' ∧ vi = .int .i64 k ∧ k ≤ u.cells.length ∧ O = (u.cells.take k).filter (fun p => decide (p.1 < b)) ∧ wr.ownsRow w4.heap.size 126 3 (.slice a' O.length c') O.length (rents O) ∧ Below w4.heap.size w4 wr) (fun _ vi _ => u.cells.length - (intOf vi).toNat)
  case atStart => exact ⟨0, [], _, _, rfl, rfl, Nat.zero_le _, by simp, own_empty _ _ _, by go_grown⟩
  case round =>
    obtain ⟨k, O, a', c', rfl, rfl, hk, hO, ho, hbr⟩ := hrel
    have HO' := Lib.hid' hO
    have HO := Lib.hid' ho
    have HBR := Lib.hid' hbr
    have HXr := Lib.hid' (HXa.out.below (Nat.le_refl _) hbr)
    obtain ⟨x0, x1, x2, y0, y1, y2, xr, xf, xs⟩ := HXr.out
    have hws : w4.heap.size ≤ wr.heap.size := hbr.size
    have hn0 : O.length ≤ u.cells.length := by rw [hO]; exact Nat.le_trans (List.length_filter_le _ _) (by rw [List.length_take]; omega)
    have hcc := hcount.out
    have hxa := HXa.out.2.2.2.2.2.2.2.2
    clear hO ho
    by_cases hlt : k < u.cells.length
    · obtain ⟨b0, off, rfl, hb, c0, c1, c2⟩ := H.out.get hlt
      have hbw := Lib.hid' (HBa.out.trans (hbr.mono HBa.out.size))
      have d0 : wr.cell? ⟨b0, off + k * 3, none⟩ = some (.int .i64 u.cells[k].1) := ((bcell hbw.out).1 _ _ hb).trans c0
      have d1 : wr.cell? ⟨b0, off + k * 3 + 1, none⟩ = some (.int .i64 u.cells[k].2.k) := ((bcell hbw.out).1 _ _ hb).trans c1
      have d2 : wr.cell? ⟨b0, off + k * 3 + 2, none⟩ = some (.string (strOf u.cells[k].2.d)) := ((bcell hbw.out).1 _ _ hb).trans c2
      have hbr0 : b0 < wr.heap.size := Nat.lt_of_lt_of_le hb hbw.out.size
      have Hnx := Lib.hid' (take_succ u.cells k hlt)
      clear c0 c1 c2 hbr xr xf
      by_cases hp : u.cells[k].1 < b
      · have Hp := Lib.hid' hp
        go_wp2_with (at_builtin; refine append_one etREnt rfl (.tmp 48) (.tmp 54) rfl [.int .i64 u.cells[k].1, .int .i64 u.cells[k].2.k, .string (strOf u.cells[k].2.d)] rfl w4.heap.size _ _ _ rfl HO.out rfl (one3 _ _ _) (by omega) hws ?_)
        intro a2 c2 w5 ho2 hf2
        have HO3 := Lib.hid' ho2
        have HB3 := Lib.hid' (hf2.row HO.out (Nat.le_refl _) hws HBR.out)
        clear ho2 hf2
        go_wp2
        go_roundw
        case rel =>
          refine ⟨k + 1, O ++ [u.cells[k]], a2, c2, by simp, by go_num, by omega, ?_, ?_, HB3.out⟩
          · have := Hp.out; rw [Hnx.out, List.filter_append, ← HO'.out]; simp [this]
          · rw [rents_append, List.length_append]; exact HO3.out
        case measure => simp [intOf]; omega
      · have Hp := Lib.hid' hp
        go_wp2
        go_roundw
        case rel =>
          refine ⟨k + 1, O, a', c', rfl, by go_num, by omega, ?_, HO.out, HBR.out⟩
          have := Hp.out; rw [Hnx.out, List.filter_append, ← HO'.out]; simp [this]
        case measure => simp [intOf]; omega
    · have HE := Lib.hid' (show O = u.cells.filter (fun p => decide (p.1 < b)) by have := HO'.out; rwa [List.take_of_length_le (by omega)] at this)
      have r0 := xr 0 _ rfl; have r1 := xr 1 _ rfl; have r2 := xr 2 _ rfl
      have f0 := xf 0; have f1 := xf 1; have f2 := xf 2
      have hbw := Lib.hid' (HBa.out.trans (hbr.mono HBa.out.size))
      clear xr xf hbr
      go_wp2_with fail
      have z0 : (wr.setCell ⟨w.heap.size, 2, none⟩ (.slice a' O.length c')).cell? ⟨w.heap.size, 0, none⟩ = some (.int .i64 u.e) := by simp [go_sem, x0]
      have z1 : (wr.setCell ⟨w.heap.size, 2, none⟩ (.slice a' O.length c')).cell? ⟨w.heap.size, 1, none⟩ = some (.int .i64 u.l) := by simp [go_sem, x1]
      have z2 : (wr.setCell ⟨w.heap.size, 2, none⟩ (.slice a' O.length c')).cell? ⟨w.heap.size, 2, none⟩ = some (.slice a' O.length c') := by simp [go_sem, x2]
      have q0 : (wr.setCell ⟨w.heap.size, 2, none⟩ (.slice a' O.length c')).cell? ⟨w.heap.size + 1, 0, none⟩ = some (.int .i64 0) := by simp [go_sem, r0]
      have g0 : (wr.setCell ⟨w.heap.size, 2, none⟩ (.slice a' O.length c')).frozen? ⟨w.heap.size + 1, 0, none⟩ = false := by simp [go_sem, f0]
      have q1 : (wr.setCell ⟨w.heap.size, 2, none⟩ (.slice a' O.length c')).cell? ⟨w.heap.size + 1, 1, none⟩ = some (.int .i64 0) := by simp [go_sem, r1]
      have g1 : (wr.setCell ⟨w.heap.size, 2, none⟩ (.slice a' O.length c')).frozen? ⟨w.heap.size + 1, 1, none⟩ = false := by simp [go_sem, f1]
      have q2 : (wr.setCell ⟨w.heap.size, 2, none⟩ (.slice a' O.length c')).cell? ⟨w.heap.size + 1, 2, none⟩ = some (.slice none 0 0) := by simp [go_sem, r2]
      have g2 : (wr.setCell ⟨w.heap.size, 2, none⟩ (.slice a' O.length c')).frozen? ⟨w.heap.size + 1, 2, none⟩ = false := by simp [go_sem, f2]
      have HOv := Lib.hid' (ownsRow_setCell_below HO.out (a := ⟨w.heap.size, 2, none⟩) (by simp; omega) (.slice a' O.length c'))
      have HBv := Lib.hid' (hbw.out.setCell (p := ⟨w.heap.size, 2, none⟩) (by simp) (.slice a' O.length c'))
      clear x0 x1 x2 y0 y1 y2 r0 r1 r2 f0 f1 f2
      generalize (wr.setCell ⟨w.heap.size, 2, none⟩ (.slice a' O.length c')) = wv at *
      go_region_held3 (fun w' => w'.cell? ⟨w.heap.size, 0, none⟩ = some (.int .i64 u.e) ∧ w'.cell? ⟨w.heap.size, 1, none⟩ = some (.int .i64 u.l) ∧ w'.cell? ⟨w.heap.size, 2, none⟩ = some (.slice a' O.length c')) (go_keep) (fail)
      go_wp2
      refine bodyPost_ret (v := .tuple #[.int .i64 ((u.cells.length : Int) - O.length), .agg #[.int .i64 u.e, .int .i64 u.l, .slice a' O.length c'], .int .i64 0]) (by simp [results, Tryz.results85, go_sem, q0, q1, q2]) rfl ?_
      rw [Hf.out, ← HE.out]
      refine ⟨a', c', rfl, ?_, ?_⟩
      · exact SlV.of_own (ownsRow_setCell_below (ownsRow_setCell_below (ownsRow_setCell_below (show wv.drew.ownsRow _ _ _ _ _ _ from HOv.out) (by simp; omega) _) (by simp; omega) _) (by simp; omega) _)
      · exact set3_below HBv.out.drew _ _ _

end Go.Proofs.YtkljeefncopodaaGreat

namespace Go.Proofs.YtkljeefncopodaaGreat
open Go.RowKit
set_option linter.unusedSimpArgs false
set_option linter.unusedVariables false
set_option maxRecDepth 20000

theorem eqIn_rent_n (n : Nat) (a k a' k' : Int) (s s' : ByteArray) (w : World) : (Op.equalIn (n + 5) 126 (.agg #[.int .i64 a, .int .i64 k, .string s]) (.agg #[.int .i64 a', .int .i64 k', .string s'])).run Tryz.prog w = .ok (a == a' && (k == k' && s.toList == s'.toList)) w := by
  rw [show n + 5 = (n + 4) + 1 from rfl, run_equalIn_agg w (n+4) 126 _ _ (by kernel_rfl) (by kernel_rfl)]
  simp [Program.fieldsOf, Tryz.underlying126, go_sem, Op.eqFields]
  by_cases h : a = a'
  · by_cases h1 : k = k'
    · by_cases h2 : s.toList = s'.toList <;> simp [h, h1, h2]
    · simp [h, h1]
  · simp [h]
@[go_sem] theorem eqIn_rent (a k a' k' : Int) (s s' : ByteArray) (w : World) : (Op.equalIn 10000 126 (.agg #[.int .i64 a, .int .i64 k, .string s]) (.agg #[.int .i64 a', .int .i64 k', .string s'])).run Tryz.prog w = .ok (a == a' && (k == k' && s.toList == s'.toList)) w := eqIn_rent_n 9995 a k a' k' s s' w
theorem eqIn_rcell_n (n : Nat) (k k' : Int) (s s' : ByteArray) (w : World) : (Op.equalIn (n + 3) 122 (.agg #[.int .i64 k, .string s]) (.agg #[.int .i64 k', .string s'])).run Tryz.prog w = .ok (k == k' && s.toList == s'.toList) w := by
  rw [show n + 3 = (n + 2) + 1 from rfl, run_equalIn_agg w (n+2) 122 _ _ (by kernel_rfl) (by kernel_rfl)]
  simp [Program.fieldsOf, Tryz.underlying122, go_sem, Op.eqFields]
  by_cases h : k = k'
  · by_cases h' : s.toList = s'.toList <;> simp [h, h']
  · simp [h]
@[go_sem] theorem eqIn_rcell (k k' : Int) (s s' : ByteArray) (w : World) : (Op.equalIn 10000 122 (.agg #[.int .i64 k, .string s]) (.agg #[.int .i64 k', .string s'])).run Tryz.prog w = .ok (k == k' && s.toList == s'.toList) w := eqIn_rcell_n 9997 k k' s s' w

theorem rent_eq (p q : Int × C) : (p.1 == q.1 && (p.2.k == q.2.k && p.2.d == q.2.d)) = decide (p = q) := by
  obtain ⟨a, k, d⟩ := p; obtain ⟨a', k', d'⟩ := q
  rw [Bool.eq_iff_iff]; simp
@[go_sem] theorem entGuard : Tryz.prog.eqGuardType Tryz.prog.depth 126 = false := by kernel_rfl

theorem rSame_any (u v : U) (a1 : Option Addr) (c1 : Nat) (a2 : Option Addr) (c2 : Nat) (w : World) (h : RList w (.slice a1 u.cells.length c1) u.cells) (h' : RList w (.slice a2 v.cells.length c2) v.cells) :
    Calls Tryz.prog 22 #[ruV u a1 c1, ruV v a2 c2] w fun en w' => en = .returned (.bool (u.rSame v)) ∧ Below w.heap.size w w' := by
  have H := Lib.hid' h
  have H' := Lib.hid' h'
  have hlen : u.cells.length ≤ 9223372036854775807 := by obtain ⟨_, _, he, h1, h2, _⟩ := h; cases he; unfold maxLen at h2; omega
  have hlen2 : v.cells.length ≤ 9223372036854775807 := by obtain ⟨_, _, he, h1, h2, _⟩ := h'; cases he; unfold maxLen at h2; omega
  clear h h'
  unfold ruV
  by_cases he : u.e = v.e
  rotate_left
  · have hf := Lib.hid' (show u.rSame v = false by simp [U.rSame, he])
    go_enter Tryz.func22, Tryz.ntmps22
    go_wp2
    refine bodyPost_ret (v := .bool false) (by simp [results, Tryz.results22, go_sem]) rfl ⟨by rw [hf.out], by go_grown⟩
  by_cases hl : u.l = v.l
  rotate_left
  · have hf := Lib.hid' (show u.rSame v = false by simp [U.rSame, hl])
    go_enter Tryz.func22, Tryz.ntmps22
    go_wp2
    refine bodyPost_ret (v := .bool false) (by simp [results, Tryz.results22, go_sem]) rfl ⟨by rw [hf.out], by go_grown⟩
  by_cases hn : u.cells.length = v.cells.length
  rotate_left
  · have hf := Lib.hid' (show u.rSame v = false by simp only [U.rSame, decide_eq_false_iff_not]; rintro ⟨-, -, h⟩; exact hn (by rw [h]))
    go_enter Tryz.func22, Tryz.ntmps22
    go_wp2
    refine bodyPost_ret (v := .bool false) (by simp [results, Tryz.results22, go_sem]) rfl ⟨by rw [hf.out], by go_grown⟩
  obtain ⟨e, l, uc⟩ := u
  obtain ⟨e', l', vc⟩ := v
  dsimp only at *
  subst he; subst hl
  have HN := Lib.hid' hn
  have hn2 : ((uc.length : Int) != vc.length) = false := by simp [hn]
  have Hf := Lib.hid' (show U.rSame ⟨e, l, uc⟩ ⟨e, l, vc⟩ = decide (uc = vc) by simp [U.rSame])
  clear hn
  go_enter Tryz.func22, Tryz.ntmps22
  go_wp2
  have HX := Lib.hid' (Box2.start w e l (.slice a1 uc.length c1) [.int .i64 e, .int .i64 l, .slice a2 vc.length c2] 54 54)
  have HB := Lib.hid' (show Below w.heap.size w ((w.alloc (.cells #[.int .i64 e, .int .i64 l, .slice a1 uc.length c1] 54)).alloc (.cells #[.int .i64 e, .int .i64 l, .slice a2 vc.length c2] 54)) by go_grown)
  have e0 : (w.alloc (.cells #[.int .i64 e, .int .i64 l, .slice a1 uc.length c1] 54)).alloc (.cells [.int .i64 e, .int .i64 l, .slice a2 vc.length c2].toArray 54) = (w.alloc (.cells #[.int .i64 e, .int .i64 l, .slice a1 uc.length c1] 54)).alloc (.cells #[.int .i64 e, .int .i64 l, .slice a2 vc.length c2] 54) := rfl
  rw [e0] at HX; clear e0
  generalize (w.alloc (.cells #[.int .i64 e, .int .i64 l, .slice a1 uc.length c1] 54)).alloc (.cells #[.int .i64 e, .int .i64 l, .slice a2 vc.length c2] 54) = w3 at *
  have HU := Lib.hid' (SlV.below H.out (Nat.le_refl _) HB.out)
  have HV := Lib.hid' (SlV.below H'.out (Nat.le_refl _) HB.out)
  go_loopw [5] (fun v5 wr => ∃ (k : Nat), v5 = .int .i64 k ∧ k ≤ uc.length ∧ uc.take k = vc.take k ∧ Below w3.heap.size w3 wr) (fun v5 _ => uc.length - (intOf v5).toNat)
  case atStart => exact ⟨0, rfl, Nat.zero_le _, by simp, Below.refl _ _⟩
  case round =>
    obtain ⟨k, rfl, hk, htk, hbr⟩ := hrel
    have HTK := Lib.hid' htk
    have HBR := Lib.hid' hbr
    have HXr := Lib.hid' (HX.out.below (Nat.le_refl _) hbr)
    obtain ⟨x0, x1, x2, y0, y1, y2, xr, xf, xs⟩ := HXr.out
    have r2 := xr 2 _ rfl
    clear xr xf htk y0 y1 y2
    by_cases hlt : k < uc.length
    · have HUr : RList wr _ _ := SlV.below HU.out (Nat.le_refl _) hbr
      have HVr : RList wr _ _ := SlV.below HV.out (Nat.le_refl _) hbr
      have hlt2 : k < vc.length := by rw [← HN.out]; exact hlt
      obtain ⟨b, off, rfl, hb, d0, d1, d2⟩ := RList.get HUr hlt
      obtain ⟨b', off', rfl, hb', e0, e1, e2⟩ := RList.get HVr hlt2
      have HQ := Lib.hid' (rent_eq uc[k] vc[k])
      by_cases hq : uc[k] = vc[k]
      · clear hbr
        go_wp2_with fail
        go_region_held3 (fun w' => w'.cell? ⟨w.heap.size, 2, none⟩ = some (.slice (some ⟨b, off, none⟩) uc.length c1) ∧ w'.cell? ⟨w.heap.size + 1, 2, none⟩ = some (.slice (some ⟨b', off', none⟩) vc.length c2) ∧ w'.cell? ⟨b, off + k * 3, none⟩ = some (.int .i64 uc[k].1) ∧ w'.cell? ⟨b, off + k * 3 + 1, none⟩ = some (.int .i64 uc[k].2.k) ∧ w'.cell? ⟨b, off + k * 3 + 2, none⟩ = some (.string (strOf uc[k].2.d)) ∧ w'.cell? ⟨b', off' + k * 3, none⟩ = some (.int .i64 vc[k].1) ∧ w'.cell? ⟨b', off' + k * 3 + 1, none⟩ = some (.int .i64 vc[k].2.k) ∧ w'.cell? ⟨b', off' + k * 3 + 2, none⟩ = some (.string (strOf vc[k].2.d))) (go_keep) (fail)
        go_wp2
        go_roundw
        case rel => exact ⟨k + 1, by go_num, by omega, by rw [take_succ uc k hlt, take_succ vc k hlt2, HTK.out, hq], HBR.out.drew⟩
        case measure => simp [intOf]; omega
      · have Hq := Lib.hid' hq
        have Hd : ¬ uc = vc := by
          intro h; subst h; exact hq rfl
        have HF := Lib.hid' (show U.rSame ⟨e, l, uc⟩ ⟨e, l, vc⟩ = false by rw [Hf.out]; simpa using Hd)
        have hcs : (¬ uc[k].1 = vc[k].1) ∨ (uc[k].1 = vc[k].1 ∧ ¬ uc[k].2.k = vc[k].2.k) ∨ (uc[k].1 = vc[k].1 ∧ uc[k].2.k = vc[k].2.k ∧ ¬ (strOf uc[k].2.d).toList = (strOf vc[k].2.d).toList) := by
          by_cases a1 : uc[k].1 = vc[k].1
          · by_cases a2 : uc[k].2.k = vc[k].2.k
            · refine Or.inr (Or.inr ⟨a1, a2, fun a3 => hq ?_⟩)
              rw [strOf_toList, strOf_toList] at a3
              exact Prod.ext a1 (by cases h1 : uc[k].2; cases h2 : vc[k].2; simp_all)
            · exact Or.inr (Or.inl ⟨a1, a2⟩)
          · exact Or.inl a1
        clear hq Hd
        have HBR2 := Lib.hid' (below_call HB.out HB.out.size hbr)
        clear hbr HQ
        rcases hcs with h1 | ⟨h1, h2⟩ | ⟨h1, h2, h3⟩
        all_goals
          go_wp2_with fail
          go_region_held3 (fun w' => w'.cell? ⟨w.heap.size, 2, none⟩ = some (.slice (some ⟨b, off, none⟩) uc.length c1) ∧ w'.cell? ⟨w.heap.size + 1, 2, none⟩ = some (.slice (some ⟨b', off', none⟩) vc.length c2) ∧ w'.cell? ⟨b, off + k * 3, none⟩ = some (.int .i64 uc[k].1) ∧ w'.cell? ⟨b, off + k * 3 + 1, none⟩ = some (.int .i64 uc[k].2.k) ∧ w'.cell? ⟨b, off + k * 3 + 2, none⟩ = some (.string (strOf uc[k].2.d)) ∧ w'.cell? ⟨b', off' + k * 3, none⟩ = some (.int .i64 vc[k].1) ∧ w'.cell? ⟨b', off' + k * 3 + 1, none⟩ = some (.int .i64 vc[k].2.k) ∧ w'.cell? ⟨b', off' + k * 3 + 2, none⟩ = some (.string (strOf vc[k].2.d))) (go_keep) (fail)
          go_wp2
          refine bodyPost_ret (v := .bool false) (by simp [results, Tryz.results22, go_sem]) rfl ⟨by rw [HF.out], ?_⟩
          exact HBR2.out.drew
    · go_wp2
      refine bodyPost_ret (v := .bool true) (by simp [results, Tryz.results22, go_sem]) rfl ⟨?_, ?_⟩
      · have e2 := HTK.out
        rw [List.take_of_length_le (by omega), List.take_of_length_le (by have := HN.out; omega)] at e2
        rw [Hf.out, e2]; simp
      · exact below_call HB.out HB.out.size hbr
end Go.Proofs.YtkljeefncopodaaGreat
