/- This text proves what the reference's line does when a text is taken out, over the loaded program. -/
import Derived.Test.YtkpbjahjiajodaaDoorRLine
namespace Go.Proofs.YtkpbjahjiajodaaDoor
open Go.RowKit Go.WideShapes
set_option linter.unusedSimpArgs false

/-- The first ones of a row, where they are appended. -/
theorem RowAt.srcTake {w : World} {g o cap l : Nat} {ts : List (ByteArray × ByteArray)} (h : RowAt w 79 2 g o cap l (textCells ts)) (i : Nat) (hi : i ≤ ts.length) (c : Nat) : Src Tryd.prog 2 74 (.slice (some ⟨g, o, none⟩) i c) i (textCells (ts.take i)) w :=
  Src.ofSlice w Tryd.underlying74 _ i c _ (by rw [textCells_len, List.length_take]; omega) (fun j u hj => by
    rw [add_plain]
    refine h.cell j u ?_
    rw [textCells_take, List.getElem?_take] at hj
    split at hj
    · exact hj
    · cases hj) (textCells_one _)
/-- The last ones of a row, where they are appended. -/
theorem RowAt.srcDrop {w : World} {g o cap l : Nat} {ts : List (ByteArray × ByteArray)} (h : RowAt w 79 2 g o cap l (textCells ts)) (i : Nat) (c : Nat) : Src Tryd.prog 2 74 (.slice (some ⟨g, o + i * 2, none⟩) (ts.length - i) c) (ts.length - i) (textCells (ts.drop i)) w :=
  Src.ofSlice w Tryd.underlying74 _ _ c _ (by rw [textCells_len, List.length_drop]) (fun j u hj => by
    rw [add_plain]
    rw [textCells_drop, List.getElem?_drop] at hj
    have := h.cell (i * 2 + j) u hj
    rw [Nat.add_assoc]
    exact this) (textCells_one _)
theorem rnow_cell {w : World} {g o cap n i : Nat} {ts : List (ByteArray × ByteArray)} {t : ByteArray × ByteArray} (hr : RowAt w 79 2 g o cap n (textCells ts)) (h : ts[i]? = some t) : w.cell? ⟨g, o + i * 2, none⟩ = some (.string t.1) ∧ w.cell? ⟨g, o + i * 2 + 1, none⟩ = some (.string t.2) := by
  have hd : textCells (ts.drop i) = .string t.1 :: .string t.2 :: textCells (ts.drop (i + 1)) := by
    obtain ⟨hl, he⟩ := List.getElem?_eq_some_iff.1 h
    rw [List.drop_eq_getElem_cons hl, he]
    rfl
  rw [textCells_drop] at hd
  have h0 : (textCells ts)[i * 2]? = some (.string t.1) := by
    have := congrArg (fun l => l[0]?) hd
    simpa [List.getElem?_drop] using this
  have h1 : (textCells ts)[i * 2 + 1]? = some (.string t.2) := by
    have := congrArg (fun l => l[1]?) hd
    simpa [List.getElem?_drop] using this
  exact ⟨hr.cell _ _ h0, by have := hr.cell _ _ h1; rw [← Nat.add_assoc] at this; exact this⟩

end Go.Proofs.YtkpbjahjiajodaaDoor
