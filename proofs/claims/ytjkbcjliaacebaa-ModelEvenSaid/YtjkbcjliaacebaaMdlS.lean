/- Layer 33 (model): what an act does to a model, and to the document's; they answer alike. Plain. -/
import Derived.Test.YtjkbcjliaacebaaMdlM
namespace Go.Proofs.Ytjkbcjliaacebaa
set_option linter.unusedSimpArgs false
set_option linter.unusedVariables false

def zC : C := ⟨0, []⟩
/-- what an act does to a model: the model then, an error's number, what is answered, what is read -/
def lS (kn : Int) (m : M) (a : Int) (x : C) : M × Nat × Int × C :=
  if kn = 0 ∨ kn = 1 then ((m.app x.d).2.2, (m.app x.d).1, (m.app x.d).2.1, zC)
  else if kn = 2 then (m, (m.rd a).1, 0, (m.rd a).2)
  else if kn = 3 then ((m.fil a).2, (m.fil a).1, 0, zC)
  else if kn = 4 ∨ kn = 5 then ((m.put a x).2, (m.put a x).1, 0, zC)
  else if kn = 6 then ((m.trim a).2, (m.trim a).1, 0, zC)
  else if kn = 7 then ((m.cut a).2, (m.cut a).1, 0, zC)
  else (m, 0, 0, zC)
/-- .. and to the document's -/
def rlS (kn : Int) (m : M) (a : Int) (x : C) : M × Nat × Int × C :=
  if kn = 0 ∨ kn = 1 then ((m.rApp x.d).2.1, (m.rApp x.d).2.2, (m.rApp x.d).1, zC)
  else if kn = 2 then (m, (m.u.rRead 0 a).2, 0, (m.u.rRead 0 a).1)
  else if kn = 3 then ((m.rFil a).1, (m.rFil a).2, 0, zC)
  else if kn = 4 ∨ kn = 5 then ((m.rPut a x).1, (m.rPut a x).2, 0, zC)
  else if kn = 6 then ((m.rTrim a).1, (m.rTrim a).2, 0, zC)
  else if kn = 7 then ((m.rCut a).1, (m.rCut a).2, 0, zC)
  else (m, 0, 0, zC)
def showM (l m : M) : Bool := decide (l.t = m.t) && decide (sortC l.u.cells = m.u.cells)
def okL (M' V : M × Nat × Int × C) : Bool := decide (V.2.2.2 = M'.2.2.2) && (decide (V.2.2.1 = M'.2.2.1) && (decide (V.2.1 = M'.2.1) && showM V.1 M'.1))

theorem mplay_rd {m : M} (h : m.ok) (a : Int) : m.doc.u.rRead 0 a = ((m.rd a).2, (m.rd a).1) := by
  have h1 := play_read h.u 0 a
  show m.u.doc.rRead 0 a = _
  rw [h1]
  unfold U.read M.rd U.asks
  cases hq : inR a 1048575 with
  | false => simp
  | true => simp [cur0 h.e]
theorem lplay_all {m : M} (h : m.ok) (kn a : Int) (x : C) : rlS kn m.doc a x = ((lS kn m a x).1.doc, (lS kn m a x).2.1, (lS kn m a x).2.2.1, (lS kn m a x).2.2.2) := by
  unfold rlS lS
  split
  · rw [mplay_app h]
  split
  · rw [mplay_rd h]
  split
  · rw [mplay_fil h]
  split
  · rw [mplay_put h]
  split
  · rw [mplay_trim h]
  split
  · rw [mplay_cut h]
  · rfl
theorem lS_ok {m : M} (h : m.ok) (kn a : Int) (x : C) : (lS kn m a x).1.ok := by
  unfold lS
  split
  · exact M.ok_app h _
  split
  · exact h
  split
  · exact M.ok_fil h _
  split
  · exact M.ok_putx h _ _
  split
  · exact M.ok_trim h _
  split
  · exact M.ok_cut h _
  · exact h
theorem lS_len (m : M) (kn a : Int) (x : C) : (lS kn m a x).1.u.cells.length ≤ m.u.cells.length + 1 := by
  have hp : ∀ b c, (m.put' b c).u.cells.length ≤ m.u.cells.length + 1 := fun b c => putC_len _ _ _
  unfold lS
  split
  · unfold M.app; split; · simp
    split; · simp
    exact hp _ _
  split
  · simp
  split
  · unfold M.fil; split; · simp
    split; · simp
    split; · exact hp _ _
    exact hp _ _
  split
  · unfold M.put; split; · simp
    split; · simp
    split; · simp
    split; · simp
    split; · simp
    exact hp _ _
  split
  · unfold M.trim; split; · simp
    show (List.filter _ _).length ≤ _
    exact Nat.le_trans (List.length_filter_le _ _) (Nat.le_succ _)
  split
  · unfold M.cut; split; · simp
    split; · simp
    show (List.filter _ _).length ≤ _
    exact Nat.le_trans (List.length_filter_le _ _) (Nat.le_succ _)
  · simp
/-- a model shows its document, whatever was done -/
theorem okL_play {m : M} (h : m.ok) (kn a : Int) (x : C) : okL (rlS kn m.doc a x) (lS kn m a x) = true := by
  rw [lplay_all h]
  simp [okL, showM, M.doc, U.doc]
end Go.Proofs.Ytjkbcjliaacebaa
