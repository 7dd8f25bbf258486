/- This text proves what a row's list of the api's errors gives a walk: each lies where the program lays it; and a world that meets such a list. -/
import Derived.Test.YtkpbjahjiajodaaDoorRows
import Derived.LaidLaws
import Derived.WalkKit
namespace Go.Proofs.YtkpbjahjiajodaaDoor
open Go.ChangeShapes Go.WideShapes Go.RowKit

theorem cells154 : Tryd.prog.cellsOf 154 = 1 := by kernel_rfl
theorem cells9 : Tryd.prog.cellsOf 9 = 1 := by kernel_rfl
theorem star : "*" ++ "errors.errorString" = "*errors.errorString" := by decide
theorem row129 (u : TypeId) (h : Tryd.prog.typeName? 3 u = some "*errors.errorString") : u = 129 :=
  typeName_ptr_named (nm := "errors.errorString") (by rw [star]; kernel_rfl) (by kernel_rfl) (by decide) u (by rw [star]; exact h)

/-- The datum of one of the api's errors. -/
def errD (text : List UInt8) : DataW Unit := .iface "*errors.errorString" (.ptr (.agg [.lit (.string text)]))

/-- One of the api's errors lies where it was laid. -/
def ErrLies (W : World) (g : Nat) (text : List UInt8) : Prop :=
  ∃ a s, W.cell? ⟨g, 0, none⟩ = some (.iface 129 (.pointer (some a))) ∧ W.cell? a = some (.string s) ∧ s.data.toList = text ∧ ∃ c t, W.heap[a.block]? = some (.cells c t (0, 0))

set_option maxRecDepth 100000 in
theorem errs_lie {W : World} : ∀ (L : List (String × DataW Unit)) (ps : List MemPlace), DataW.LaidVars Tryd.prog W L ps →
    (∀ b off, MemPlace.cell b off ∈ ps → (∃ c t, W.heap[b]? = some (.cells c t (0, 0))) ∧ ∀ u v, W.cell? ⟨b, off, none⟩ = some (.iface u v) → Value.okWide Tryd.prog W .any 0 u v) →
    ∀ n text g, (n, errD text) ∈ L → Tryd.prog.globalNamed n = some g → (Tryd.prog.globals[g]?).map (·.type) = some 27 → ErrLies W g text
  | [], _, _, _, _, _, _, hm, _, _ => by cases hm
  | (n0, d0) :: r, ps, h, hrows, n, text, g, hm, hg, ht => by
    obtain ⟨g0, t0, cs0, f0, p0, q0, hg0, ht0, hv0, hd0, hr, rfl⟩ := h
    rcases List.mem_cons.1 hm with e | hm'
    · cases e
      obtain rfl := Option.some.inj (hg.symm.trans hg0)
      obtain rfl := Option.some.inj (ht.symm.trans ht0)
      obtain ⟨l0⟩ := cs0
      have ok0 : ∀ u v, l0 = [.iface u v] → Value.okWide Tryd.prog W .any 0 u v := fun u v e => by
        subst e
        exact (hrows g 0 (by simp [MemPlace.row])).2 u v (by simpa using World.var?_cell hg hv0 0)
      obtain ⟨a0, s0, rfl, hc0, hs0, hz0, rfl⟩ := errorString_of_trod Tryd.underlying27 row129 Tryd.underlying129 Tryd.underlying154 rfl rfl Tryd.underlying9 cells154 cells9 hd0 ok0
      exact ⟨a0, s0, by simpa using World.var?_cell hg hv0 0, hc0, hs0, (hrows a0.block a0.off (by simp [MemPlace.row])).1⟩
    · exact errs_lie r q0 hr (fun b off hb => hrows b off (by simp [hb])) n text g hm' hg ht

theorem err_lies {W : World} {L : List (String × DataW Unit)} (h : laidMet Tryd.prog L W) (n : String) (text : List UInt8) (g : Nat) (hm : (n, errD text) ∈ L) (hg : Tryd.prog.globalNamed n = some g)
    (ht : (Tryd.prog.globals[g]?).map (·.type) = some 27) : ErrLies W g text := by
  obtain ⟨ps, hv, _, hrows⟩ := h
  exact errs_lie L ps hv hrows n text g hm hg ht

/-- How many blocks a world has ahead of what comes in. -/
noncomputable def low : Nat := (World.holding Tryd.prog default ⟨#[], #[], []⟩).heap.size

/-- A text as the bytes of an error. -/
def txt (l : List UInt8) : Obj := .cells #[.string ⟨l.toArray⟩] 154

/-- A world in which the errors numbered in L lie. -/
noncomputable def laidWorld (os : Os) (L : List (Nat × List UInt8)) : World :=
  let w0 := World.holding Tryd.prog os ⟨(L.map fun x => txt x.2).toArray, #[], []⟩
  { w0 with heap := (L.zipIdx).foldl (fun h x => h.modify x.1.1 fun
      | .cells _ t frozen => .cells #[.iface 129 (.pointer (some ⟨low + x.2, 0, none⟩))] t frozen
      | o => o) w0.heap }

end Go.Proofs.YtkpbjahjiajodaaDoor
