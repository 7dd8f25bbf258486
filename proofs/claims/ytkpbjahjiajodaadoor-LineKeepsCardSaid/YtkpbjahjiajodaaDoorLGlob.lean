/- This text gathers the five errors that the line's laws load. -/
import Derived.Test.YtkpbjahjiajodaaDoorLine2
namespace Go.Proofs.YtkpbjahjiajodaaDoor

theorem globOfL {W : World} {a0 a1 a4 a5 a6 : Addr} (h0 : W.cell? ⟨0, 0, none⟩ = some (.iface 129 (.pointer (some a0)))) (h1 : W.cell? ⟨1, 0, none⟩ = some (.iface 129 (.pointer (some a1))))
    (h4 : W.cell? ⟨4, 0, none⟩ = some (.iface 129 (.pointer (some a4)))) (h5 : W.cell? ⟨5, 0, none⟩ = some (.iface 129 (.pointer (some a5)))) (h6 : W.cell? ⟨6, 0, none⟩ = some (.iface 129 (.pointer (some a6)))) : ∃ Ad, GlobL W Ad :=
  ⟨fun j => [a0, a1, a0, a0, a4, a5, a6].getD j a0, fun j hj => by
    rcases hj with rfl | rfl | rfl | rfl | rfl
    · exact h0
    · exact h1
    · exact h4
    · exact h5
    · exact h6⟩

end Go.Proofs.YtkpbjahjiajodaaDoor
