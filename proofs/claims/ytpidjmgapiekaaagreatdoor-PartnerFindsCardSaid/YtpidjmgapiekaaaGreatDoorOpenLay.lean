/- This text proves what a row's list of the api's errors gives a walk: each lies where the program lays it; and a world that meets such a list. -/
import Derived.Test.YtpidjmgapiekaaaGreatDoorRows
import Derived.LaidLaws
import Derived.WalkKit
import Derived.Test.YtpidjmgapiekaaaGreatDoorNum0
import Derived.OpenShut
namespace Go.Proofs.YtpidjmgapiekaaaGreatDoor
section
open Go.ChangeShapes Go.WideShapes Go.RowKit

theorem cells163 : Tryz.prog.cellsOf 245 = 1 := by kernel_rfl
theorem cells9 : Tryz.prog.cellsOf 9 = 1 := by kernel_rfl
theorem star : "*" ++ "errors.errorString" = "*errors.errorString" := by decide
theorem row139 (u : TypeId) (h : Tryz.prog.typeName? 3 u = some "*errors.errorString") : u = 221 :=
  typeName_ptr_named (nm := "errors.errorString") (by rw [star]; kernel_rfl) (by kernel_rfl) (by decide) u (by rw [star]; exact h)

/-- The datum of one of the api's errors. -/
def errD (text : List UInt8) : DataW Unit := .iface "*errors.errorString" (.ptr (.agg [.lit (.string text)]))

/-- One of the api's errors lies where it was laid. -/
def ErrLies (W : World) (g : Nat) (text : List UInt8) : Prop :=
  ∃ a s, W.cell? ⟨g, 0, none⟩ = some (.iface 221 (.pointer (some a))) ∧ W.cell? a = some (.string s) ∧ s.data.toList = text ∧ ∃ c t, W.heap[a.block]? = some (.cells c t (0, 0))

set_option maxRecDepth 100000 in
theorem errs_lie {W : World} : ∀ (L : List (String × DataW Unit)) (ps : List MemPlace), DataW.LaidVars Tryz.prog W L ps →
    (∀ b off, MemPlace.cell b off ∈ ps → (∃ c t, W.heap[b]? = some (.cells c t (0, 0))) ∧ ∀ u v, W.cell? ⟨b, off, none⟩ = some (.iface u v) → Value.okWide Tryz.prog W .any 0 u v) →
    ∀ n text g, (n, errD text) ∈ L → Tryz.prog.globalNamed n = some g → (Tryz.prog.globals[g]?).map (·.type) = some 52 → ErrLies W g text
  | [], _, _, _, _, _, _, hm, _, _ => by cases hm
  | (n0, d0) :: r, ps, h, hrows, n, text, g, hm, hg, ht => by
    obtain ⟨g0, t0, cs0, f0, p0, q0, hg0, ht0, hv0, hd0, hr, rfl⟩ := h
    rcases List.mem_cons.1 hm with e | hm'
    · cases e
      obtain rfl := Option.some.inj (hg.symm.trans hg0)
      obtain rfl := Option.some.inj (ht.symm.trans ht0)
      obtain ⟨l0⟩ := cs0
      have ok0 : ∀ u v, l0 = [.iface u v] → Value.okWide Tryz.prog W .any 0 u v := fun u v e => by
        subst e
        exact (hrows g 0 (by simp [MemPlace.row])).2 u v (by simpa using World.var?_cell hg hv0 0)
      obtain ⟨a0, s0, rfl, hc0, hs0, hz0, rfl⟩ := errorString_of_trod Tryz.underlying52 row139 Tryz.underlying221 Tryz.underlying245 rfl rfl Tryz.underlying9 cells163 cells9 hd0 ok0
      exact ⟨a0, s0, by simpa using World.var?_cell hg hv0 0, hc0, hs0, (hrows a0.block a0.off (by simp [MemPlace.row])).1⟩
    · exact errs_lie r q0 hr (fun b off hb => hrows b off (by simp [hb])) n text g hm' hg ht

theorem err_lies {W : World} {L : List (String × DataW Unit)} (h : laidMet Tryz.prog L W) (n : String) (text : List UInt8) (g : Nat) (hm : (n, errD text) ∈ L) (hg : Tryz.prog.globalNamed n = some g)
    (ht : (Tryz.prog.globals[g]?).map (·.type) = some 52) : ErrLies W g text := by
  obtain ⟨ps, hv, _, hrows⟩ := h
  exact errs_lie L ps hv hrows n text g hm hg ht

/-- How many blocks a world has ahead of what comes in. -/
noncomputable def low : Nat := (World.holding Tryz.prog default ⟨#[], #[], []⟩).heap.size

/-- A text as the bytes of an error. -/
def txt (l : List UInt8) : Obj := .cells #[.string ⟨l.toArray⟩] 245

/-- A world in which the errors numbered in L lie. -/
noncomputable def laidWorld (os : Os) (L : List (Nat × List UInt8)) : World :=
  let w0 := World.holding Tryz.prog os ⟨(L.map fun x => txt x.2).toArray, #[], []⟩
  { w0 with heap := (L.zipIdx).foldl (fun h x => h.modify x.1.1 fun
      | .cells _ t frozen => .cells #[.iface 221 (.pointer (some ⟨low + x.2, 0, none⟩))] t frozen
      | o => o) w0.heap }
end

section
open Go.RowKit Go.ChangeShapes Go.WideShapes

theorem okWide_arr {P : Program} {w : World} {r : _} {base : Nat} {t e : TypeId} {n : Nat} {v : Value} (ht : P.underlying t = some (.array n e)) (h : Value.okWide P w r base t v) : ∃ cs, v = .agg cs ∧ cs.size = P.cellsOf t := by
  simp only [Value.okWide, ht] at h
  obtain ⟨cs, h1, h2, _⟩ := h
  exact ⟨cs, h1, h2⟩

theorem open_arr6 {H : Type} {enc : TypeId × Value → H} {W : World} {v : Value} {d : DataW H} {pl : List MemPlace} (hv : ∃ cs, v = .agg cs ∧ cs.size = Tryz.prog.cellsOf 22) (h : DataW.Trod enc Tryz.prog W 0 (fun _ => true) true 22 v d pl) :
    ∃ x0 x1 x2 x3 x4 x5 : Int, v = .agg #[.int .i64 x0, .int .i64 x1, .int .i64 x2, .int .i64 x3, .int .i64 x4, .int .i64 x5] := by
  obtain ⟨cs, rfl, hs⟩ := hv
  obtain ⟨n, hn⟩ := h
  have hc : Tryz.prog.cellsOf 22 = 6 := by kernel_rfl
  have c3 : Tryz.prog.cellsOf 3 = 1 := by kernel_rfl
  obtain ⟨xs, m, -, -, -, hl, he⟩ := DataW.trod_array Tryz.underlying22 hn
  rw [hc] at hs
  rw [c3] at he
  obtain ⟨cl⟩ := cs
  match cl, hs with
  | [v0, v1, v2, v3, v4, v5], _ =>
    have get : ∀ i, i < 6 → ∃ x : Int, (([v0, v1, v2, v3, v4, v5] : List Value).drop (i * 1)).take 1 = [.int .i64 x] := fun i hi => by
      have := he i hi
      rw [List.getElem?_eq_getElem (by omega)] at this
      obtain ⟨x, hx, _⟩ := DataW.trod_int Tryz.underlying3 this
      exact ⟨x, hx⟩
    obtain ⟨x0, e0⟩ := get 0 (by decide)
    obtain ⟨x1, e1⟩ := get 1 (by decide)
    obtain ⟨x2, e2⟩ := get 2 (by decide)
    obtain ⟨x3, e3⟩ := get 3 (by decide)
    obtain ⟨x4, e4⟩ := get 4 (by decide)
    obtain ⟨x5, e5⟩ := get 5 (by decide)
    simp at e0 e1 e2 e3 e4 e5
    subst e0 e1 e2 e3 e4 e5
    exact ⟨x0, x1, x2, x3, x4, x5, rfl⟩

theorem s_apartOf {W : World} (L : List (List UInt8)) (hn : L.Nodup) (H : ∀ j t, L[j]? = some t → ErrLies W (gl j) t) : ∃ Ad, s_Apart L.length W Ad := by
  have H2 : ∀ j, ∃ a, j < L.length → ∃ s, W.cell? ⟨gl j, 0, none⟩ = some (.iface 221 (.pointer (some a))) ∧ W.cell? a = some (.string s) ∧ L[j]? = some s.data.toList ∧ ∃ c t, W.heap[a.block]? = some (.cells c t (0, 0)) := by
    intro j
    by_cases hj : j < L.length
    · obtain ⟨a, s, h1, h2, h3, h4⟩ := H j L[j] (List.getElem?_eq_getElem hj)
      exact ⟨a, fun _ => ⟨s, h1, h2, by rw [h3, List.getElem?_eq_getElem hj], h4⟩⟩
    · exact ⟨⟨0, 0, none⟩, fun h => absurd h hj⟩
  refine ⟨fun j => (H2 j).choose, fun j hj => ?_, fun i j hi hj hij e => ?_⟩
  · obtain ⟨s, h1, _, _, h4⟩ := (H2 j).choose_spec hj
    exact ⟨h1, h4⟩
  · obtain ⟨s, _, h2, h3, _⟩ := (H2 i).choose_spec hi
    obtain ⟨s', _, k2, k3, _⟩ := (H2 j).choose_spec hj
    dsimp only at e
    rw [e, k2] at h2
    cases h2
    exact hij ((List.getElem?_inj hi hn).1 (h3.trans k3.symm))
end

end Go.Proofs.YtpidjmgapiekaaaGreatDoor
