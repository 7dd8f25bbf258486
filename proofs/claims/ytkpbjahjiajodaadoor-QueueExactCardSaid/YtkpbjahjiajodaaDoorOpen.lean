/- This text opens slices of structs that came in: element by element, each field's value with its reading; over any program. -/
import Derived.Test.YtkpbjahjiajodaaDoorBase
import Derived.Deep.Slices
import Derived.Deep.Strs
namespace Go.Proofs.YtkpbjahjiajodaaDoor
open Go.RowKit Go.ChangeShapes

theorem list_of {α : Type} (n : Nat) (R : Nat → α → Prop) (h : ∀ i, i < n → ∃ x, R i x) : ∃ l : List α, l.length = n ∧ ∀ i x, l[i]? = some x → R i x := by
  induction n with
  | zero => exact ⟨[], rfl, fun i x h => by simp at h⟩
  | succ n ih =>
    obtain ⟨l, hl, hr⟩ := ih (fun i hi => h i (by omega))
    obtain ⟨x, hx⟩ := h n (by omega)
    refine ⟨l ++ [x], by simp [hl], fun i y hy => ?_⟩
    by_cases hi : i < n
    · rw [List.getElem?_append_left (by omega)] at hy
      exact hr i y hy
    · have : i = n := by have := (List.getElem?_eq_some_iff.1 hy).1; simp at this; omega
      subst this
      rw [List.getElem?_append_right (by omega), hl] at hy
      simp at hy
      subst hy
      exact hx

section
variable {H : Type} {enc : TypeId × Value → H} {P : Program} {W : World} {t e : TypeId} {a : Option Addr} {len cap : Nat} {d : DataW H} {p : List MemPlace}

/-- The reading of one value. -/
abbrev ReadsV (enc : TypeId × Value → H) (P : Program) (W : World) (t : TypeId) (cs : List Value) : Prop := ∃ n y, DataW.trod enc P W 0 (fun _ => true) true n t cs = some y

theorem open_elems (ht : P.underlying t = some (.slice e)) (h0 : 0 < P.cellsOf e) (h : ReadsV enc P W t [.slice a len cap]) :
    len ≤ cap ∧ cap ≤ maxLen ∧ ∀ i, i < len → ∃ cs, cs.length = P.cellsOf e ∧ (∃ b o, a = some ⟨b, o, none⟩ ∧ ∀ j v, cs[j]? = some v → W.cell? ⟨b, o + i * P.cellsOf e + j, none⟩ = some v) ∧ ReadsV enc P W e cs := by
  obtain ⟨fuel, y, hf⟩ := h
  rcases Deep.open_slice ht hf with ⟨hcs, _⟩ | ⟨x, l, c, m, n, D, Pl, hcs, _, hl, hm, hmm, _, hx⟩
  · simp at hcs
    obtain ⟨rfl, rfl, rfl⟩ := hcs
    exact ⟨Nat.le_refl _, by simp [maxLen], fun i hi => by omega⟩
  · simp at hcs
    obtain ⟨rfl, rfl, rfl⟩ := hcs
    simp at hmm
    refine ⟨hl, hm, fun i hi => ?_⟩
    obtain ⟨cs', h1, h2⟩ := hx i (by omega)
    obtain ⟨_, hlen, hcell⟩ := World.cells?_some h1
    refine ⟨cs', hlen, ?_, n, _, h2⟩
    have hc0 := hcell 0 h0
    obtain ⟨v0, hv0⟩ : ∃ v, cs'[0]? = some v := ⟨cs'[0], by simp [show 0 < cs'.length by omega]⟩
    rw [hv0] at hc0
    have hz : (x.add (i * P.cellsOf e)).add 0 = x.add (i * P.cellsOf e) := by simp [Addr.add]
    rw [hz] at hc0
    -- x itself is plain
    have hx0 : x = ⟨x.block, x.off, none⟩ := by
      by_cases hi0 : i * P.cellsOf e = 0
      · rw [hi0] at hc0
        have : x.add 0 = x := by simp [Addr.add]
        rw [this] at hc0
        exact plain_of_cell hc0
      · obtain ⟨cs0, k1, _⟩ := hx 0 (by omega)
        obtain ⟨_, kl, kc⟩ := World.cells?_some k1
        have kc0 := kc 0 h0
        obtain ⟨v1, hv1⟩ : ∃ v, cs0[0]? = some v := ⟨cs0[0], by simp [show 0 < cs0.length by omega]⟩
        rw [hv1, Nat.zero_mul] at kc0
        have : (x.add 0).add 0 = x := by simp [Addr.add]
        rw [this] at kc0
        exact plain_of_cell kc0
    refine ⟨x.block, x.off, by rw [← hx0], fun j v hj => ?_⟩
    have hjl : j < P.cellsOf e := by have := (List.getElem?_eq_some_iff.1 hj).1; omega
    have := hcell j hjl
    rw [hj, hx0, add_plain, add_plain] at this
    exact this

theorem reads_of_trod {v : Value} (h : DataW.Trod enc P W 0 (fun _ => true) true t v d p) (hv : v.cells = #[v]) : ReadsV enc P W t [v] := by
  obtain ⟨n, hn⟩ := h
  rw [hv] at hn
  exact ⟨n, _, hn⟩

theorem reads_field {fs : Array Field} {cs : List Value} (ht : P.underlying t = some (.struct fs)) (h : ReadsV enc P W t cs) (i : Nat) (f : Field) (hf : fs[i]? = some f) : ReadsV enc P W f.type ((cs.drop f.offset).take (P.cellsOf f.type)) := by
  obtain ⟨n, y, hy⟩ := h
  obtain ⟨xs, m, _, _, _, hlen, hfs⟩ := DataW.trod_struct ht hy
  have hi : i < xs.length := by rw [hlen]; exact (Array.getElem?_eq_some_iff.1 hf).1
  exact ⟨m, xs[i], by rw [hfs i f hf]; simp [hi]⟩

theorem reads_at {fs : Array Field} {cs : List Value} (ht : P.underlying t = some (.struct fs)) (h : ReadsV enc P W t cs) (i : Nat) {f : Field} (hf : fs[i]? = some f) {T O S : Nat} (hT : f.type = T) (hO : f.offset = O) (hS : P.cellsOf T = S) : ReadsV enc P W T ((cs.drop O).take S) := by
  have r := reads_field ht h i f hf
  rw [hT, hO, hS] at r
  exact r

theorem reads_int {k : IntKind} {cs : List Value} (ht : P.underlying t = some (.int k)) (h : ReadsV enc P W t cs) : ∃ n, cs = [.int k n] ∧ (Lit.int k n).wf = true := by
  obtain ⟨n, y, hy⟩ := h
  obtain ⟨m, h1, _, h2⟩ := DataW.trod_int ht hy
  exact ⟨m, h1, h2⟩
theorem reads_bool {cs : List Value} (ht : P.underlying t = some .bool) (h : ReadsV enc P W t cs) : ∃ b, cs = [.bool b] := by
  obtain ⟨n, y, hy⟩ := h
  obtain ⟨m, h1, _⟩ := DataW.trod_bool ht hy
  exact ⟨m, h1⟩
theorem reads_string {cs : List Value} (ht : P.underlying t = some .string) (h : ReadsV enc P W t cs) : ∃ s : ByteArray, cs = [.string s] ∧ s.size ≤ maxLen := by
  obtain ⟨n, y, hy⟩ := h
  obtain ⟨m, h1, _, h2⟩ := DataW.trod_string ht hy
  exact ⟨m, h1, h2⟩
end

end Go.Proofs.YtkpbjahjiajodaaDoor
