/- This text opens the items of the strand's laws, and gathers the four errors that they load. -/
import Derived.Test.YtgdbpicelnoacaaDoorOpen
import Derived.Test.YtgdbpicelnoacaaDoorItems4
namespace Go.Proofs.YtgdbpicelnoacaaDoor
open Go.RowKit Go.ChangeShapes

theorem reads_slice {H : Type} {enc : TypeId × Value → H} {P : Program} {W : World} {t e : TypeId} {cs : List Value} (ht : P.underlying t = some (.slice e)) (h : ReadsV enc P W t cs) : ∃ a l c, cs = [.slice a l c] := by
  obtain ⟨fuel, y, hf⟩ := h
  rcases Deep.open_slice ht hf with ⟨hcs, _⟩ | ⟨x, l, c, m, n, D, Pl, hcs, _⟩
  · exact ⟨_, _, _, hcs⟩
  · exact ⟨_, _, _, hcs⟩

theorem open_bools {H : Type} {enc : TypeId × Value → H} {W : World} {a : Option Addr} {len cap : Nat} (h : ReadsV enc Tryd.prog W 28 [.slice a len cap]) : ∃ l : List Bool, len = l.length ∧ l.length ≤ maxLen ∧ Cells W a (l.map Value.bool) := by
  have hc : Tryd.prog.cellsOf 4 = 1 := by kernel_rfl
  obtain ⟨h1, h2, he⟩ := open_elems Tryd.underlying28 (by rw [hc]; omega) h
  obtain ⟨l, hl, hr⟩ := list_of len (fun i (x : Bool) => ∃ b o, a = some ⟨b, o, none⟩ ∧ W.cell? ⟨b, o + i, none⟩ = some (.bool x)) (by
    intro i hi
    obtain ⟨cs, hcl, ⟨b, o, ha, hcell⟩, hrd⟩ := he i hi
    rw [hc] at hcell
    obtain ⟨x, rfl⟩ := reads_bool Tryd.underlying4 hrd
    have := hcell 0 _ rfl
    rw [Nat.mul_one] at this
    exact ⟨x, b, o, ha, this⟩)
  refine ⟨l, hl.symm, by omega, fun i v hv => ?_⟩
  rw [List.getElem?_map] at hv
  obtain ⟨x, hx, rfl⟩ := Option.map_eq_some_iff.1 hv
  exact hr i x hx

theorem in64_of {n : Int} (h : (Lit.int .i64 n).wf = true) : In64 n := by
  have g : IntKind.i64.min ≤ n ∧ n ≤ IntKind.i64.max := by simpa [Lit.wf] using h
  exact g

theorem open_items {H : Type} {enc : TypeId × Value → H} {W : World} {a : Option Addr} {len cap : Nat} (h : ReadsV enc Tryd.prog W 22 [.slice a len cap]) : ∃ l : List It, len = l.length ∧ Items W a l := by
  have hc : Tryd.prog.cellsOf 30 = 4 := by kernel_rfl
  have c3 : Tryd.prog.cellsOf 3 = 1 := by kernel_rfl
  have c9 : Tryd.prog.cellsOf 9 = 1 := by kernel_rfl
  have c28 : Tryd.prog.cellsOf 28 = 1 := by kernel_rfl
  obtain ⟨h1, h2, he⟩ := open_elems Tryd.underlying22 (by rw [hc]; omega) h
  obtain ⟨l, hl, hr⟩ := list_of len (fun j (x : It) => (∃ b o, a = some ⟨b, o, none⟩ ∧
      W.cell? ⟨b, o + j * 4, none⟩ = some (.int .i64 x.kind) ∧ W.cell? ⟨b, o + j * 4 + 1, none⟩ = some (.int .i64 x.n) ∧ W.cell? ⟨b, o + j * 4 + 2, none⟩ = some (.string x.text) ∧ W.cell? ⟨b, o + j * 4 + 3, none⟩ = some (.slice x.X x.fl.length x.c)) ∧
      In64 x.kind ∧ In64 x.n ∧ x.text.size ≤ maxLen ∧ x.fl.length ≤ maxLen ∧ Cells W x.X (x.fl.map Value.bool)) (by
    intro i hi
    obtain ⟨cs, hcl, ⟨b, o, ha, hcell⟩, hrd⟩ := he i hi
    rw [hc] at hcl hcell
    match cs, hcl with
    | [v0, v1, v2, v3], _ =>
      have r0 : ReadsV enc Tryd.prog W 3 [v0] := reads_at Tryd.underlying30 hrd 0 rfl rfl rfl c3
      have r1 : ReadsV enc Tryd.prog W 3 [v1] := reads_at Tryd.underlying30 hrd 1 rfl rfl rfl c3
      have r2 : ReadsV enc Tryd.prog W 9 [v2] := reads_at Tryd.underlying30 hrd 2 rfl rfl rfl c9
      have r3 : ReadsV enc Tryd.prog W 28 [v3] := reads_at Tryd.underlying30 hrd 3 rfl rfl rfl c28
      obtain ⟨x0, e0, g0⟩ := reads_int Tryd.underlying3 r0
      obtain ⟨x1, e1, g1⟩ := reads_int Tryd.underlying3 r1
      obtain ⟨x2, e2, g2⟩ := reads_string Tryd.underlying9 r2
      obtain ⟨X, n3, c, e3⟩ := reads_slice Tryd.underlying28 r3
      rw [e3] at r3
      obtain ⟨fl, hfl, g3, g4⟩ := open_bools r3
      simp at e0 e1 e2 e3
      subst e0 e1 e2 e3 hfl
      exact ⟨⟨x0, x1, x2, fl, X, c⟩, ⟨b, o, ha, hcell 0 _ rfl, hcell 1 _ rfl, hcell 2 _ rfl, hcell 3 _ rfl⟩, in64_of g0, in64_of g1, g2, g3, g4⟩)
  exact ⟨l, hl.symm, fun j x hx => hr j x hx⟩

theorem globOf {W : World} {a0 a1 a2 a3 : Addr} (h0 : W.cell? ⟨0, 0, none⟩ = some (.iface 139 (.pointer (some a0)))) (h1 : W.cell? ⟨1, 0, none⟩ = some (.iface 139 (.pointer (some a1))))
    (h2 : W.cell? ⟨2, 0, none⟩ = some (.iface 139 (.pointer (some a2)))) (h3 : W.cell? ⟨3, 0, none⟩ = some (.iface 139 (.pointer (some a3)))) : ∃ Ad, Glob W Ad :=
  ⟨fun j => [a0, a1, a2, a3].getD j a0, fun j hj => by
    match j, hj with
    | 0, _ => exact h0
    | 1, _ => exact h1
    | 2, _ => exact h2
    | 3, _ => exact h3⟩

end Go.Proofs.YtgdbpicelnoacaaDoor
