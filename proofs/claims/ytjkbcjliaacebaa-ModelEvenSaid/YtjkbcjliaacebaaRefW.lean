/- The document's unit (holdfastref08): with. -/
import Derived.Test.YtjkbcjliaacebaaRefU
import Derived.Test.YtjkbcjliaacebaaRefM
namespace Go.Proofs.Ytjkbcjliaacebaa
open Go.RowKit
set_option linter.unusedSimpArgs false
set_option linter.unusedVariables false
set_option maxRecDepth 20000

def ruV (u : U) (ad : Option Addr) (cap : Nat) : Value := .agg #[.int .i64 u.e, .int .i64 u.l, .slice ad u.cells.length cap]
/-- the document's unit is handed back -/
def RUR (u : U) (w : World) (en : Ending) (w' : World) : Prop := ∃ ad cap, en = .returned (ruV u ad cap) ∧ RList w' (.slice ad u.cells.length cap) u.cells ∧ (∀ p, ad = some p → w.heap.size ≤ p.block) ∧ Below w.heap.size w w'

/-- what 'with' has gathered behind k rounds -/
def WithAt (L : List (Int × C)) (a : Int) (c : C) (k : Nat) (put : Bool) (O : List (Int × C)) : Prop :=
  (put = false ∧ O = L.take k ∧ ∀ p ∈ L.take k, p.1 ≤ a) ∨ (put = true ∧ O = insC (L.take k) a c ∧ ∃ p ∈ L.take k, a < p.1)

theorem one3 (a k : Int) (s : ByteArray) : ∀ u ∈ [Value.int .i64 a, Value.int .i64 k, Value.string s], u.oneCell' = true := by
  intro x hx; simp at hx; rcases hx with rfl | rfl | rfl <;> rfl
theorem with_len {L : List (Int × C)} {a : Int} {c : C} {k : Nat} {put : Bool} {O : List (Int × C)} (h : WithAt L a c k put O) : O.length ≤ L.length + 1 := by
  rcases h with ⟨_, rfl, _⟩ | ⟨_, rfl, _⟩
  · rw [List.length_take]; omega
  · have : ∀ M : List (Int × C), (insC M a c).length = M.length + 1 := fun M => by
      induction M with
      | nil => rfl
      | cons p M ih => simp only [insC]; split <;> simp [ih]
    rw [this, List.length_take]; omega
theorem with_end {L : List (Int × C)} {a : Int} {c : C} {put : Bool} {O : List (Int × C)} (h : WithAt L a c L.length put O) : (put = true → O = insC L a c) ∧ (put = false → O ++ [(a, c)] = insC L a c) := by
  rw [WithAt, List.take_length] at h
  rcases h with ⟨rfl, rfl, hp⟩ | ⟨rfl, rfl, hp⟩
  · exact ⟨fun h => (by cases h), fun _ => (insC_all hp).symm⟩
  · exact ⟨fun _ => rfl, fun h => (by cases h)⟩
theorem with_cells {w3 wr : World} {N : Nat} {x0 x1 x2 : Value} (hz : w3.heap.size = N + 3) (R : w3.cell? ⟨N + 1 + 1, 0, none⟩ = some x0 ∧ w3.cell? ⟨N + 1 + 1, 1, none⟩ = some x1 ∧ w3.cell? ⟨N + 1 + 1, 2, none⟩ = some x2 ∧ w3.frozen? ⟨N, 2, none⟩ = false ∧ w3.frozen? ⟨N + 1 + 1, 0, none⟩ = false ∧ w3.frozen? ⟨N + 1 + 1, 1, none⟩ = false ∧ w3.frozen? ⟨N + 1 + 1, 2, none⟩ = false) (hb : Below w3.heap.size w3 wr) :
    wr.cell? ⟨N + 1 + 1, 0, none⟩ = some x0 ∧ wr.cell? ⟨N + 1 + 1, 1, none⟩ = some x1 ∧ wr.cell? ⟨N + 1 + 1, 2, none⟩ = some x2 ∧ wr.frozen? ⟨N, 2, none⟩ = false ∧ wr.frozen? ⟨N + 1 + 1, 0, none⟩ = false ∧ wr.frozen? ⟨N + 1 + 1, 1, none⟩ = false ∧ wr.frozen? ⟨N + 1 + 1, 2, none⟩ = false := by
  obtain ⟨hc, hf⟩ := bcell hb
  obtain ⟨a, b, c, d, e, f, g⟩ := R
  have h1 : N < w3.heap.size := by omega
  have h2 : N + 1 + 1 < w3.heap.size := by omega
  exact ⟨(hc _ _ h2).trans a, (hc _ _ h2).trans b, (hc _ _ h2).trans c, (hf _ _ h1).trans d, (hf _ _ h2).trans e, (hf _ _ h2).trans f, (hf _ _ h2).trans g⟩
theorem with_put {L : List (Int × C)} {a : Int} {c : C} {k : Nat} {x : Int × C} {O : List (Int × C)} (h : WithAt L a c k true O) (hx : L.take (k + 1) = L.take k ++ [x]) : WithAt L a c (k + 1) true (O ++ [x]) ∧ True := by
  rcases h with ⟨h, _⟩ | ⟨_, rfl, hp⟩
  · cases h
  · refine ⟨.inr ⟨rfl, ?_, ?_⟩, trivial⟩
    · rw [hx, insC_past hp]
    · rw [hx]; obtain ⟨p, hp, h⟩ := hp; exact ⟨p, List.mem_append_left _ hp, h⟩
theorem with_not {L : List (Int × C)} {a : Int} {c : C} {k : Nat} {x : Int × C} {O : List (Int × C)} (h : WithAt L a c k false O) (hx : L.take (k + 1) = L.take k ++ [x]) (hn : ¬ a < x.1) : WithAt L a c (k + 1) false (O ++ [x]) := by
  rcases h with ⟨_, rfl, hp⟩ | ⟨h, _⟩
  · refine .inl ⟨rfl, hx.symm, ?_⟩
    rw [hx]; intro p hp'
    rcases List.mem_append.1 hp' with h | h
    · exact hp p h
    · simp at h; subst h; omega
  · cases h
theorem with_here {L : List (Int × C)} {a : Int} {c : C} {k : Nat} {x : Int × C} {O : List (Int × C)} (h : WithAt L a c k false O) (hx : L.take (k + 1) = L.take k ++ [x]) (hn : a < x.1) : WithAt L a c (k + 1) true (O ++ [(a, c), x]) := by
  rcases h with ⟨_, rfl, hp⟩ | ⟨h, _⟩
  · refine .inr ⟨rfl, ?_, x, ?_, hn⟩
    · rw [hx, insC_here hp hn]
    · rw [hx]; simp
  · cases h

set_option maxHeartbeats 2000000 in
theorem with_any (u : U) (ad : Option Addr) (cap : Nat) (a : Int) (c : C) (w : World) (h : RList w (.slice ad u.cells.length cap) u.cells) (hlen : u.cells.length ≤ 4194304) :
    Calls Try.prog 121 #[ruV u ad cap, .int .i64 a, rcellV c] w (RUR { u with cells := insC u.cells a c } w) := by
  have H := Lib.hid' h
  clear h
  unfold ruV rcellV
  go_enter Try.func121, Try.ntmps121
  go_wp2_with fail
  obtain ⟨w3, hw3⟩ : ∃ w3, w3 = ((w.alloc (.cells #[.int .i64 u.e, .int .i64 u.l, .slice ad u.cells.length cap] 61)).alloc (.cells #[.int .i64 c.k, .string (strOf c.d)] 125)).alloc (.cells #[.int .i64 0, .int .i64 0, .slice none 0 0] 61) := ⟨_, rfl⟩
  have hz : w3.heap.size = w.heap.size + 3 := by rw [hw3]; simp
  have hb3 := Lib.hid' (show Below w.heap.size w w3 by rw [hw3]; go_grown)
  have k0 : w3.cell? ⟨w.heap.size, 0, none⟩ = some (.int .i64 u.e) := by rw [hw3]; simp [go_sem]
  have k1 : w3.cell? ⟨w.heap.size, 1, none⟩ = some (.int .i64 u.l) := by rw [hw3]; simp [go_sem]
  have k2 : w3.cell? ⟨w.heap.size, 2, none⟩ = some (.slice ad u.cells.length cap) := by rw [hw3]; simp [go_sem]
  have k3 : w3.cell? ⟨w.heap.size + 1, 0, none⟩ = some (.int .i64 c.k) := by rw [hw3]; simp [go_sem]
  have k4 : w3.cell? ⟨w.heap.size + 1, 1, none⟩ = some (.string (strOf c.d)) := by rw [hw3]; simp [go_sem]
  have r0 : w3.cell? ⟨w.heap.size + 1 + 1, 0, none⟩ = some (.int .i64 0) := by rw [hw3]; simp [go_sem]
  have r1 : w3.cell? ⟨w.heap.size + 1 + 1, 1, none⟩ = some (.int .i64 0) := by rw [hw3]; simp [go_sem]
  have r2 : w3.cell? ⟨w.heap.size + 1 + 1, 2, none⟩ = some (.slice none 0 0) := by rw [hw3]; simp [go_sem]
  have f2 : w3.frozen? ⟨w.heap.size, 2, none⟩ = false := by rw [hw3]; simp [go_sem]
  have g0 : w3.frozen? ⟨w.heap.size + 1 + 1, 0, none⟩ = false := by rw [hw3]; simp [go_sem]
  have g1 : w3.frozen? ⟨w.heap.size + 1 + 1, 1, none⟩ = false := by rw [hw3]; simp [go_sem]
  have g2 : w3.frozen? ⟨w.heap.size + 1 + 1, 2, none⟩ = false := by rw [hw3]; simp [go_sem]
  rw [← hw3]
  have K := Lib.hid' (And.intro k0 (And.intro k1 (And.intro k2 (And.intro k3 k4))))
  have R := Lib.hid' (And.intro r0 (And.intro r1 (And.intro r2 (And.intro f2 (And.intro g0 (And.intro g1 g2))))))
  have Hz := Lib.hid' hz
  clear k0 k1 k2 k3 k4 r0 r1 r2 f2 g0 g1 g2 hz hw3
  have e4 : w.heap.size + 1 + 1 + 1 = w3.heap.size := by rw [Hz.out]
  rw [e4]
  clear e4
  go_loopw [7, 8, 9] (fun v7 v8 v9 wr => ∃ (k : Nat) (put : Bool) (O : List (Int × C)) (a' : Option Addr) (c' : Nat), v7 = .slice a' O.length c' ∧ v8 = .bool put ∧ v9 = .int .i64 k ∧ k ≤ u.cells.length ∧ WithAt u.cells a c k put O ∧ wr.ownsRow w3.heap.size 169 3 (.slice a' O.length c') O.length (rents O) ∧ Below w3.heap.size w3 wr) (fun _ _ v9 _ => u.cells.length - (intOf v9).toNat)
  case atStart => exact ⟨0, false, [], _, _, rfl, rfl, rfl, Nat.zero_le _, .inl ⟨rfl, rfl, by simp⟩, own_empty _ _ _, by go_grown⟩
  case round =>
    obtain ⟨k, put, O, a', c', rfl, rfl, rfl, hk, hW, ho, hbr⟩ := hrel
    have HW := Lib.hid' hW
    have HO := Lib.hid' ho
    have HBR := Lib.hid' hbr
    have hlt3 : w.heap.size < w3.heap.size := by have := Hz.out; omega
    have hlt3' : w.heap.size + 1 < w3.heap.size := by have := Hz.out; omega
    have m2 : wr.cell? ⟨w.heap.size, 2, none⟩ = some (.slice ad u.cells.length cap) := ((bcell hbr).1 _ _ hlt3).trans K.out.2.2.1
    clear hW ho
    by_cases hlt : k < u.cells.length
    · obtain ⟨b, off, rfl, hb, c0, c1, c2⟩ := H.out.get hlt
      have hbw := Lib.hid' (hb3.out.trans (hbr.mono (by have := Hz.out; omega)))
      have d0 : wr.cell? ⟨b, off + k * 3, none⟩ = some (.int .i64 u.cells[k].1) := ((bcell hbw.out).1 _ _ hb).trans c0
      have d1 : wr.cell? ⟨b, off + k * 3 + 1, none⟩ = some (.int .i64 u.cells[k].2.k) := ((bcell hbw.out).1 _ _ hb).trans c1
      have d2 : wr.cell? ⟨b, off + k * 3 + 2, none⟩ = some (.string (strOf u.cells[k].2.d)) := ((bcell hbw.out).1 _ _ hb).trans c2
      have hbr0 : b < wr.heap.size := Nat.lt_of_lt_of_le hb hbw.out.size
      have Hnx := Lib.hid' (take_succ u.cells k hlt)
      clear c0 c1 c2 hbr
      have m3 : wr.cell? ⟨w.heap.size + 1, 0, none⟩ = some (.int .i64 c.k) := ((bcell HBR.out).1 _ _ hlt3').trans K.out.2.2.2.1
      have m4 : wr.cell? ⟨w.heap.size + 1, 1, none⟩ = some (.string (strOf c.d)) := ((bcell HBR.out).1 _ _ hlt3').trans K.out.2.2.2.2
      have hn0 : O.length ≤ u.cells.length + 1 := by
        have := with_len HW.out; omega
      have hws : w3.heap.size ≤ wr.heap.size := HBR.out.size
      cases put with
      | true =>
        go_wp2_with (at_builtin; refine append_one etREnt rfl (.tmp 36) (.tmp 42) rfl [.int .i64 u.cells[k].1, .int .i64 u.cells[k].2.k, .string (strOf u.cells[k].2.d)] rfl w3.heap.size O.length (rents O) _ rfl HO.out rfl (one3 _ _ _) (by omega) hws ?_)
        · intro a2 c2 w5 ho2 hf2
          have HO2 := Lib.hid' ho2
          have HB2 := Lib.hid' (hf2.row HO.out (Nat.le_refl _) hws HBR.out)
          clear ho2 hf2
          go_wp2
          go_roundw
          case rel =>
            obtain ⟨h1, h2⟩ := with_put HW.out Hnx.out
            refine ⟨k + 1, true, O ++ [u.cells[k]], a2, c2, by simp, rfl, by go_num, by omega, h1, ?_, HB2.out⟩
            rw [rents_append, List.length_append]; exact HO2.out
          case measure => simp [intOf]; omega
      | false =>
        cases hx : decide (a < u.cells[k].1) with
        | false =>
          have hx' : ¬ a < u.cells[k].1 := by simpa using hx
          clear hx
          go_wp2_with (at_builtin; refine append_one etREnt rfl (.tmp 36) (.tmp 42) rfl [.int .i64 u.cells[k].1, .int .i64 u.cells[k].2.k, .string (strOf u.cells[k].2.d)] rfl w3.heap.size O.length (rents O) _ rfl HO.out rfl (one3 _ _ _) (by omega) hws ?_)
          · intro a2 c2 w5 ho2 hf2
            have HO2 := Lib.hid' ho2
            have HB2 := Lib.hid' (hf2.row HO.out (Nat.le_refl _) hws HBR.out)
            clear ho2 hf2
            go_wp2
            go_roundw
            case rel =>
              refine ⟨k + 1, false, O ++ [u.cells[k]], a2, c2, by simp, rfl, by go_num, by omega, with_not HW.out Hnx.out (Int.not_lt.2 hx'), ?_, HB2.out⟩
              rw [rents_append, List.length_append]; exact HO2.out
            case measure => simp [intOf]; omega
        | true =>
          have hx' : a < u.cells[k].1 := by simpa using hx
          clear hx
          go_wp2_with (at_builtin; refine append_one etREnt rfl (.tmp 30) (.tmp 34) rfl [.int .i64 a, .int .i64 c.k, .string (strOf c.d)] rfl w3.heap.size O.length (rents O) _ rfl HO.out rfl (one3 _ _ _) (by omega) hws ?_)
          · intro a2 c2 w5 ho2 hf2
            have HO2 := Lib.hid' ho2
            have HB2 := Lib.hid' (hf2.row HO.out (Nat.le_refl _) hws HBR.out)
            have hw5 := hf2.size
            have n2 : w5.cell? ⟨w.heap.size, 2, none⟩ = some (.slice (some ⟨b, off, none⟩) u.cells.length cap) := ((bcell HB2.out).1 _ _ hlt3).trans K.out.2.2.1
            have hbw5 := Lib.hid' (hb3.out.trans (HB2.out.mono (by have := Hz.out; omega)))
            have e0 : w5.cell? ⟨b, off + k * 3, none⟩ = some (.int .i64 u.cells[k].1) := ((bcell hbw5.out).1 _ _ hb).trans (((bcell hbw.out).1 _ _ hb).symm.trans d0)
            have e1 : w5.cell? ⟨b, off + k * 3 + 1, none⟩ = some (.int .i64 u.cells[k].2.k) := ((bcell hbw5.out).1 _ _ hb).trans (((bcell hbw.out).1 _ _ hb).symm.trans d1)
            have e2 : w5.cell? ⟨b, off + k * 3 + 2, none⟩ = some (.string (strOf u.cells[k].2.d)) := ((bcell hbw5.out).1 _ _ hb).trans (((bcell hbw.out).1 _ _ hb).symm.trans d2)
            have hws5 : w3.heap.size ≤ w5.heap.size := by omega
            clear ho2 hf2 d0 d1 d2 m2 m3 m4
            go_wp2_with (at_builtin; refine append_one etREnt rfl (.tmp 36) (.tmp 42) rfl [.int .i64 u.cells[k].1, .int .i64 u.cells[k].2.k, .string (strOf u.cells[k].2.d)] rfl w3.heap.size _ _ _ rfl HO2.out rfl (one3 _ _ _) (by omega) hws5 ?_)
            · intro a3 c3 w6 ho3 hf3
              have HO3 := Lib.hid' ho3
              have HB3 := Lib.hid' (hf3.row HO2.out (Nat.le_refl _) hws5 HB2.out)
              clear ho3 hf3
              go_wp2
              go_roundw
              case rel =>
                refine ⟨k + 1, true, O ++ [(a, c), u.cells[k]], a3, c3, by simp, rfl, by go_num, by omega, with_here HW.out Hnx.out hx', ?_, HB3.out⟩
                rw [rents_append, List.length_append]
                have := HO3.out
                simpa [rents, rent, List.append_assoc] using this
              case measure => simp [intOf]; omega
    · have hws : w3.heap.size ≤ wr.heap.size := HBR.out.size
      have hzz := Hz.out
      have hkk : k = u.cells.length := by omega
      have Hend := Lib.hid' (with_end (hkk ▸ HW.out))
      have hn0 : O.length ≤ u.cells.length + 1 := by
        have := with_len HW.out; omega
      have fin : ∀ (wq : World) (O' : List (Int × C)) (a2 : Option Addr) (c2 : Nat), O' = insC u.cells a c → wq.ownsRow w3.heap.size 169 3 (.slice a2 O'.length c2) O'.length (rents O') → Below w3.heap.size w3 wq →
          RUR { u with cells := insC u.cells a c } w (.returned (.agg #[.int .i64 u.e, .int .i64 u.l, .slice a2 O'.length c2])) ((((wq.setCell ⟨w.heap.size, 2, none⟩ (.slice a2 O'.length c2)).setCell ⟨w.heap.size + 1 + 1, 0, none⟩ (.int .i64 u.e)).setCell ⟨w.heap.size + 1 + 1, 1, none⟩ (.int .i64 u.l)).setCell ⟨w.heap.size + 1 + 1, 2, none⟩ (.slice a2 O'.length c2)) := by
        intro wq O' a2 c2 hO' ho' hb'
        subst hO'
        refine ⟨a2, c2, rfl, SlV.of_own (ownsRow_setCell_below (ownsRow_setCell_below (ownsRow_setCell_below (ownsRow_setCell_below ho' (by simp; omega) _) (by simp; omega) _) (by simp; omega) _) (by simp; omega) _), fun p hp => by have := (own_in ho' p _ _ (by rw [hp])).1; omega, ?_⟩
        exact ((((hb3.out.trans (hb'.mono (by omega))).setCell (by simp) _).setCell (by simp; omega) _).setCell (by simp; omega) _).setCell (by simp; omega) _
      have FIN := Lib.hid' fin
      have m0 : wr.cell? ⟨w.heap.size, 0, none⟩ = some (.int .i64 u.e) := ((bcell hbr).1 _ _ hlt3).trans K.out.1
      have m1 : wr.cell? ⟨w.heap.size, 1, none⟩ = some (.int .i64 u.l) := ((bcell hbr).1 _ _ hlt3).trans K.out.2.1
      have m3 : wr.cell? ⟨w.heap.size + 1, 0, none⟩ = some (.int .i64 c.k) := ((bcell HBR.out).1 _ _ hlt3').trans K.out.2.2.2.1
      have m4 : wr.cell? ⟨w.heap.size + 1, 1, none⟩ = some (.string (strOf c.d)) := ((bcell HBR.out).1 _ _ hlt3').trans K.out.2.2.2.2
      clear fin hzz hkk hbr
      cases put with
      | true =>
        obtain ⟨q0, q1, q2, p2, p3, p4, p5⟩ := with_cells Hz.out R.out HBR.out
        go_wp2
        refine bodyPost_ret (v := .agg #[.int .i64 u.e, .int .i64 u.l, .slice a' O.length c']) (by simp [results, Try.results121, go_sem, q0, q1, q2, m0, m1, m2]) rfl ?_
        exact FIN.out _ O a' c' (Hend.out.1 (by simp)) HO.out HBR.out
      | false =>
        go_wp2_with (at_builtin; refine append_one etREnt rfl (.tmp 46) (.tmp 50) rfl [.int .i64 a, .int .i64 c.k, .string (strOf c.d)] rfl w3.heap.size _ _ _ rfl HO.out rfl (one3 _ _ _) (by omega) hws ?_)
        intro a2 c2 w5 ho2 hf2
        have HO2 := Lib.hid' ho2
        have HB2 := Lib.hid' (hf2.row HO.out (Nat.le_refl _) hws HBR.out)
        have n0 : w5.cell? ⟨w.heap.size, 0, none⟩ = some (.int .i64 u.e) := ((bcell HB2.out).1 _ _ hlt3).trans K.out.1
        have n1 : w5.cell? ⟨w.heap.size, 1, none⟩ = some (.int .i64 u.l) := ((bcell HB2.out).1 _ _ hlt3).trans K.out.2.1
        have n2 : w5.cell? ⟨w.heap.size, 2, none⟩ = some (.slice ad u.cells.length cap) := ((bcell HB2.out).1 _ _ hlt3).trans K.out.2.2.1
        obtain ⟨q0, q1, q2, p2, p3, p4, p5⟩ := with_cells Hz.out R.out HB2.out
        clear ho2 hf2 m0 m1 m2 m3 m4
        go_wp2
        refine bodyPost_ret (v := .agg #[.int .i64 u.e, .int .i64 u.l, .slice a2 (O.length + 1) c2]) (by simp [results, Try.results121, go_sem, q0, q1, q2, n0, n1, n2]) rfl ?_
        have := FIN.out w5 (O ++ [(a, c)]) a2 c2 (Hend.out.2 (by simp))
        simp only [List.length_append, List.length_singleton, rents_append] at this
        exact this HO2.out HB2.out

end Go.Proofs.Ytjkbcjliaacebaa
