/- UnitTails: the tail is behind the last cell, or the low mark, and nothing is cut from there on. -/
import Derived.Test.YthjigopnlgngdaaUPlays
namespace Go.Proofs.Ythjigopnlgngdaa
open Go.RowKit
set_option linter.unusedSimpArgs false
set_option linter.unusedVariables false
set_option maxRecDepth 20000

def uNil : U := ⟨0, 0, []⟩
theorem do_tails (x : ActX) (u : U) (bu bm : Nat) (w : World)
    (hu : UnitAt (fun k => k = bu ∨ k = bm) w bu bm u) (hd : Bytes w (.slice x.da x.d.length x.dc) x.d) (hdl : x.d.length ≤ 300) (huc : u.cells.length ≤ 1000000) :
    Calls Try.prog 46 #[.pointer (some ⟨bu, 0, none⟩), .agg #[.int .i64 0, .int .i64 0, .slice none 0 0], .agg #[.int .i64 x.k, .int .i64 x.e, .int .i64 x.a, .slice x.da x.d.length x.dc]] w
      (fun en w' => ∃ v b, en = .returned (.tuple #[v, .bool b]) ∧ UnitAt (fun k => k = bu ∨ k = bm) w' bu bm (uS (kindN x.k) u x.e x.a x.d).1 ∧ Fr (fun k => k = bu ∨ k = bm) w w') := by
  refine (do_any x.k x.e x.a x.d x.da x.dc uNil u none 0 bu bm w hu (SlV.empty _ _ _ (Nat.zero_le _) (fun _ => rfl)) hd hdl (by simp [uNil]) (by simp [uNil]) huc).mono ?_
  rintro en w' ⟨ma', mc', rfl, h1, h2, h3⟩
  exact ⟨_, _, rfl, h2, h3⟩

/-- the address behind the last one of entries that rise -/
def wantE (m : Int) (E : List Ent) : Int := match E.getLast? with | none => m | some x => x.1 + 1
theorem wantE_tail {u : U} (h : u.ok) {E : List Ent} (hE : E.map noAd = sortC u.cells) : wantE u.l E = u.tail := by
  rw [← rTail_doc h]
  unfold wantE U.rTail
  simp only
  rw [← hE, List.getLast?_map]
  cases E.getLast? <;> rfl
theorem wantE_take (m : Int) (E : List Ent) (k : Nat) (hk : k < E.length) : wantE m (E.take (k + 1)) = E[k].1 + 1 := by
  unfold wantE
  rw [List.take_succ_eq_append_getElem hk, List.getLast?_concat]

theorem cut_tail {u : U} (h : u.ok) : u.cut u.e u.tail = (0, 0, u) := by
  have h0 := tail_ge (L := u.cells) (m := u.l)
  have h1 := tail_bound h.l1 (fun p hp => (h.addr p hp).2)
  have hl0 := h.l0
  have hc : u.cur u.e = 0 := by simp [U.cur]
  have hin : inR u.tail 1048576 = true := by unfold inR; simp; exact ⟨by unfold U.tail; omega, h1⟩
  have hf : u.cells.filter (fun p => !decide (u.tail ≤ p.1)) = u.cells := by
    rw [List.filter_eq_self]
    intro p hp
    have : p.1 + 1 ≤ u.tail := by
      obtain ⟨pre, post, he⟩ := List.append_of_mem hp
      unfold U.tail
      rw [he, tail_pick]
      exact Int.le_trans (by unfold tailF; omega) tail_ge
    simp; omega
  unfold U.cut U.asks
  rw [hin]
  simp only [if_true, hc]
  rw [if_neg (by simp), if_neg (by unfold U.tail; omega), hf]
  simp
theorem tailOf_self (u : U) : u.tailOf u.e = (0, u.tail) := by
  simp [U.tailOf, U.asks, U.cur]

structure TailsAt (W : World) (bm : Nat) (k : Nat) (wr : World) : Prop where
  at' : ∃ u : U, u.cells.length ≤ k ∧ UnitAt (fun q => q = bm + 1 ∨ q = bm) wr (bm + 1) bm u
  below : Below W.heap.size W wr

theorem ents_addr {u : U} (h : u.ok) {E : List Ent} (hE : E.map noAd = sortC u.cells) {k : Nat} (hk : k < E.length) : 0 ≤ E[k].1 ∧ E[k].1 < 1048576 := by
  have hm : noAd E[k] ∈ sortC u.cells := by rw [← hE]; exact List.mem_map.2 ⟨_, List.getElem_mem hk, rfl⟩
  have h1 := h.addr _ ((sortC_mem _ h.nodup _).1 hm)
  have h2 := h.l0
  simp only [noAd] at h1
  omega

end Go.Proofs.Ythjigopnlgngdaa
