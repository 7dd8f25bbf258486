/- This text says where the api's errors lie that packets wrap, apart from each other. -/
import Derived.Test.YtpidjmgapiekaaaGreatDoorMisc
namespace Go.Proofs.YtpidjmgapiekaaaGreatDoor
open Go.RowKit Go.WideShapes

/-- The api's errors that packets speak of lie apart from each other. -/
def s_Apart (n : Nat) (w : World) (A : Nat → Addr) : Prop := (∀ j, j < n → w.cell? ⟨gl j, 0, none⟩ = some (.iface 221 (.pointer (some (A j)))) ∧ ∃ C t, w.heap[(A j).block]? = some (.cells C t (0, 0))) ∧ ∀ i j, i < n → j < n → i ≠ j → A i ≠ A j
theorem s_Apart.below {n : Nat} {w w' : World} {A : Nat → Addr} (h : s_Apart n w A) (hb : Below w.heap.size w w') : s_Apart n w' A :=
  ⟨fun j hj => by
    obtain ⟨h1, C, t, h2⟩ := h.1 j hj
    exact ⟨(hb.cell (World.block_lt_of_cell? w _ h1)).trans h1, C, t, (hb.block _ (Array.getElem?_eq_some_iff.1 h2).1).trans h2⟩, h.2⟩
theorem s_Apart.glob {n : Nat} {w : World} {A : Nat → Addr} (h : s_Apart n w A) (hn : 4 ≤ n) : s_Glob w A := fun j hj => (h.1 j (by omega)).1

end Go.Proofs.YtpidjmgapiekaaaGreatDoor
