/- This text opens the packets of the parcel's laws. -/
import Derived.Test.YtgdbpicelnoacaaDoorOpenItems
import Derived.Test.YtgdbpicelnoacaaDoorPar
namespace Go.Proofs.YtgdbpicelnoacaaDoor
open Go.RowKit Go.ChangeShapes

theorem open_nums {H : Type} {enc : TypeId × Value → H} {W : World} {a : Option Addr} {len cap : Nat} (h : ReadsV enc Tryd.prog W 58 [.slice a len cap]) : ∃ l : List Int, len = l.length ∧ l.length ≤ maxLen ∧ (∀ x ∈ l, In64 x) ∧ Cells W a (iv l) := by
  have hc : Tryd.prog.cellsOf 3 = 1 := by kernel_rfl
  obtain ⟨h1, h2, he⟩ := open_elems Tryd.underlying58 (by rw [hc]; omega) h
  obtain ⟨l, hl, hr⟩ := list_of len (fun i (x : Int) => In64 x ∧ ∃ b o, a = some ⟨b, o, none⟩ ∧ W.cell? ⟨b, o + i, none⟩ = some (.int .i64 x)) (by
    intro i hi
    obtain ⟨cs, hcl, ⟨b, o, ha, hcell⟩, hrd⟩ := he i hi
    rw [hc] at hcell
    obtain ⟨x, rfl, g⟩ := reads_int Tryd.underlying3 hrd
    have := hcell 0 _ rfl
    rw [Nat.mul_one] at this
    exact ⟨x, in64_of g, b, o, ha, this⟩)
  refine ⟨l, hl.symm, by omega, fun x hx => ?_, fun i v hv => ?_⟩
  · obtain ⟨i, hi, rfl⟩ := List.getElem_of_mem hx
    exact (hr i _ (by simp [hi])).1
  · unfold iv at hv
    rw [List.getElem?_map] at hv
    obtain ⟨x, hx, rfl⟩ := Option.map_eq_some_iff.1 hv
    exact (hr i x hx).2

/-- A packet that came in, its inputs of whatever number. -/
def Par.came (w : World) (p : Par) : Prop := In64 p.kind ∧ In64 p.nonce ∧ In64 p.frm ∧ In64 p.base ∧ In64 p.ack ∧ (0 ≤ p.sum ∧ p.sum < 18446744073709551616) ∧ p.ins.length ≤ maxLen ∧ (∀ x ∈ p.ins, In64 x) ∧ Cells w p.X (iv p.ins)
theorem Par.came.ok {w : World} {p : Par} (h : p.came w) (hl : p.ins.length ≤ 1000000) : p.ok w := by
  obtain ⟨h1, h2, h3, h4, h5, h6, h7, h8, h9⟩ := h
  exact ⟨h1, h2, h3, h4, h5, h6, hl, h8, h9⟩
theorem reads_of_agg {H : Type} {enc : TypeId × Value → H} {P : Program} {W : World} {t : TypeId} {cs : Array Value} {d : DataW H} {p : List MemPlace} (h : DataW.Trod enc P W 0 (fun _ => true) true t (.agg cs) d p) : ReadsV enc P W t cs.toList := by
  obtain ⟨n, hn⟩ := h
  exact ⟨n, _, hn⟩
theorem u64_of {n : Int} (h : (Lit.int .u64 n).wf = true) : 0 ≤ n ∧ n < 18446744073709551616 := by
  have g : IntKind.u64.min ≤ n ∧ n ≤ IntKind.u64.max := by simpa [Lit.wf] using h
  have g1 : IntKind.u64.min = 0 := by decide
  have g2 : IntKind.u64.max = 18446744073709551615 := by decide
  rw [g1, g2] at g
  omega
theorem open_par {H : Type} {enc : TypeId × Value → H} {W : World} {v : Value} {d : DataW H} {pl : List MemPlace} (hv : ∃ cs, v = .agg cs ∧ cs.size = Tryd.prog.cellsOf 61) (h : DataW.Trod enc Tryd.prog W 0 (fun _ => true) true 61 v d pl) : ∃ p : Par, v = p.v ∧ p.came W := by
  obtain ⟨cs, rfl, hs⟩ := hv
  have hrd := reads_of_agg h
  have hc : Tryd.prog.cellsOf 61 = 7 := by kernel_rfl
  have c3 : Tryd.prog.cellsOf 3 = 1 := by kernel_rfl
  have c59 : Tryd.prog.cellsOf 59 = 1 := by kernel_rfl
  have c58 : Tryd.prog.cellsOf 58 = 1 := by kernel_rfl
  rw [hc] at hs
  obtain ⟨cl⟩ := cs
  match cl, hs with
  | [v0, v1, v2, v3, v4, v5, v6], _ =>
    have r0 : ReadsV enc Tryd.prog W 3 [v0] := reads_at Tryd.underlying61 hrd 0 rfl rfl rfl c3
    have r1 : ReadsV enc Tryd.prog W 3 [v1] := reads_at Tryd.underlying61 hrd 1 rfl rfl rfl c3
    have r2 : ReadsV enc Tryd.prog W 3 [v2] := reads_at Tryd.underlying61 hrd 2 rfl rfl rfl c3
    have r3 : ReadsV enc Tryd.prog W 3 [v3] := reads_at Tryd.underlying61 hrd 3 rfl rfl rfl c3
    have r4 : ReadsV enc Tryd.prog W 58 [v4] := reads_at Tryd.underlying61 hrd 4 rfl rfl rfl c58
    have r5 : ReadsV enc Tryd.prog W 3 [v5] := reads_at Tryd.underlying61 hrd 5 rfl rfl rfl c3
    have r6 : ReadsV enc Tryd.prog W 59 [v6] := reads_at Tryd.underlying61 hrd 6 rfl rfl rfl c59
    obtain ⟨x0, e0, g0⟩ := reads_int Tryd.underlying3 r0
    obtain ⟨x1, e1, g1⟩ := reads_int Tryd.underlying3 r1
    obtain ⟨x2, e2, g2⟩ := reads_int Tryd.underlying3 r2
    obtain ⟨x3, e3, g3⟩ := reads_int Tryd.underlying3 r3
    obtain ⟨x5, e5, g5⟩ := reads_int Tryd.underlying3 r5
    obtain ⟨x6, e6, g6⟩ := reads_int Tryd.underlying59 r6
    obtain ⟨X, n4, c, e4⟩ := reads_slice Tryd.underlying58 r4
    rw [e4] at r4
    obtain ⟨ins, hi, g4, g7, g8⟩ := open_nums r4
    simp at e0 e1 e2 e3 e4 e5 e6
    subst e0 e1 e2 e3 e4 e5 e6 hi
    exact ⟨⟨x0, x1, x2, x3, ins, x5, x6, X, c⟩, rfl, in64_of g0, in64_of g1, in64_of g2, in64_of g3, in64_of g5, u64_of g6, g4, g7, g8⟩

end Go.Proofs.YtgdbpicelnoacaaDoor
