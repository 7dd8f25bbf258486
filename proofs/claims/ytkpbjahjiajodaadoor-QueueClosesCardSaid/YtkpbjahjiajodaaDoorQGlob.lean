/- This text gathers the five errors that the queue's laws load. -/
import Derived.Test.YtkpbjahjiajodaaDoorQAwake
namespace Go.Proofs.YtkpbjahjiajodaaDoor

theorem globOf {W : World} {a0 a1 a2 a3 a4 : Addr} (h0 : W.cell? ⟨0, 0, none⟩ = some (.iface 129 (.pointer (some a0)))) (h1 : W.cell? ⟨1, 0, none⟩ = some (.iface 129 (.pointer (some a1))))
    (h2 : W.cell? ⟨2, 0, none⟩ = some (.iface 129 (.pointer (some a2)))) (h3 : W.cell? ⟨3, 0, none⟩ = some (.iface 129 (.pointer (some a3)))) (h4 : W.cell? ⟨4, 0, none⟩ = some (.iface 129 (.pointer (some a4)))) : ∃ Ad, Glob W Ad :=
  ⟨fun j => [a0, a1, a2, a3, a4].getD j a0, fun j hj => by
    match j, hj with
    | 0, _ => exact h0
    | 1, _ => exact h1
    | 2, _ => exact h2
    | 3, _ => exact h3
    | 4, _ => exact h4⟩

end Go.Proofs.YtkpbjahjiajodaaDoor
