/- This text gathers the api's first errors, which lie apart from each other because their texts are unlike. -/
import Derived.Test.YtkpbjahjiajodaaDoorLNumber
import Derived.Test.YtkpbjahjiajodaaDoorLaid
namespace Go.Proofs.YtkpbjahjiajodaaDoor

theorem apartOf {W : World} (L : List (List UInt8)) (hn : L.Nodup) (H : ∀ j t, L[j]? = some t → ErrLies W j t) : ∃ Ad, Apart L.length W Ad := by
  have H2 : ∀ j, ∃ a, j < L.length → ∃ s, W.cell? ⟨j, 0, none⟩ = some (.iface 129 (.pointer (some a))) ∧ W.cell? a = some (.string s) ∧ L[j]? = some s.data.toList ∧ ∃ c t, W.heap[a.block]? = some (.cells c t (0, 0)) := by
    intro j
    by_cases hj : j < L.length
    · obtain ⟨a, s, h1, h2, h3, h4⟩ := H j L[j] (List.getElem?_eq_getElem hj)
      exact ⟨a, fun _ => ⟨s, h1, h2, by rw [h3, List.getElem?_eq_getElem hj], h4⟩⟩
    · exact ⟨⟨0, 0, none⟩, fun h => absurd h hj⟩
  refine ⟨fun j => (H2 j).choose, fun j hj => ?_, fun i j hi hj hij e => ?_⟩
  · obtain ⟨s, h1, _, _, h4⟩ := (H2 j).choose_spec hj
    exact ⟨h1, h4⟩
  · obtain ⟨s, _, h2, h3, _⟩ := (H2 i).choose_spec hi
    obtain ⟨s', _, k2, k3, _⟩ := (H2 j).choose_spec hj
    dsimp only at e
    rw [e, k2] at h2
    cases h2
    exact hij ((List.getElem?_inj hi hn).1 (h3.trans k3.symm))

end Go.Proofs.YtkpbjahjiajodaaDoor
