/- This text holds small laws on worlds, over any program: what a slice's cells read as, and what stays where one block is written. -/
import Derived.WalkKit
import Derived.SliceStrings
import Derived.Carry
namespace Go.Proofs.YtpidjmgapiekaaaGreatDoor
open Go.RowKit Go.ChangeShapes

theorem grown_set (w : World) (g o : Nat) (v : Value) : w.grownBy (w.setCell ⟨g, o, none⟩ v) (some g) :=
  ⟨rfl, rfl, rfl, by simp [World.setCell], fun k _ hk => Below.heap_setCell _ _ _ _ (fun e => hk (by rw [e]))⟩
theorem grown_refl (w : World) (r : Option Nat) : w.grownBy w r := ⟨rfl, rfl, rfl, Nat.le_refl _, fun _ _ _ => rfl⟩
theorem grown_trans {a b c : World} {r : Option Nat} (h : a.grownBy b r) (k : b.grownBy c r) : a.grownBy c r :=
  ⟨k.os.trans h.os, k.tape.trans h.tape, k.output.trans h.output, Nat.le_trans h.size k.size, fun i hi hr => (k.block i (Nat.lt_of_lt_of_le hi h.size) hr).trans (h.block i hi hr)⟩
theorem grown_drew {a b : World} {r : Option Nat} (h : a.grownBy b r) : a.grownBy b.drew r := ⟨h.os, h.tape, h.output, h.size, h.block⟩
theorem below_grown {w w0 w' : World} {g : Nat} (hw : Below w0.heap.size w0 w) (h : w.grownBy w' (some g)) (hg : w0.heap.size ≤ g) : Below w0.heap.size w0 w' :=
  hw.grown h hw.size (fun k hk => by cases hk; exact hg)

/-- A slice's cells, as they are read. -/
def Cells (w : World) (A : Option Addr) (cs : List Value) : Prop := ∀ i v, cs[i]? = some v → ∃ b o, A = some ⟨b, o, none⟩ ∧ w.cell? ⟨b, o + i, none⟩ = some v

theorem Cells.below {w w' : World} {A : Option Addr} {cs : List Value} (h : Cells w A cs) (hb : Below w.heap.size w w') : Cells w' A cs := fun i v hi => by
  obtain ⟨b, o, e, hc⟩ := h i v hi
  exact ⟨b, o, e, (hb.cell (World.block_lt_of_cell? w _ hc)).trans hc⟩

theorem Cells.grown {w w' : World} {A : Option Addr} {cs : List Value} {g : Nat} (h : Cells w A cs) (hb : w.grownBy w' (some g)) (hA : ∀ b o, A = some ⟨b, o, none⟩ → b ≠ g) : Cells w' A cs := fun i v hi => by
  obtain ⟨b, o, e, hc⟩ := h i v hi
  exact ⟨b, o, e, hb.cell hc (by simpa using hA b o e)⟩

theorem Cells.nil (w : World) (A : Option Addr) : Cells w A [] := fun i v h => by simp at h

theorem cells_one (w : World) (v : Value) (T : TypeId) : Cells (w.alloc (.cells #[v] T)) (some ⟨w.heap.size, 0, none⟩) [v] := fun i u hi => by
  match i, hi with
  | 0, hi =>
    simp at hi
    subst hi
    exact ⟨_, _, rfl, by simp [World.cell?_alloc_new]⟩

theorem cells_block {w : World} {g : Nat} {cs : Array Value} {T : TypeId} {fr : Nat × Nat} (h : w.heap[g]? = some (.cells cs T fr)) : Cells w (some ⟨g, 0, none⟩) cs.toList := fun i u hi => by
  refine ⟨_, _, rfl, ?_⟩
  simp only [World.cell?, h]
  simpa using hi

theorem take_snoc (s : ByteArray) (k : Nat) (h : k < s.size) : s.data.toList.take (k + 1) = s.data.toList.take k ++ [s[k]] := by
  rw [List.take_succ_eq_append_getElem (by simpa using h)]; rfl

section
variable {H : Type} {enc : TypeId × Value → H} {P : Program} {W : World} {t e : TypeId} {a : Option Addr} {len cap : Nat} {d : DataW H} {p : List MemPlace}

theorem plain_of_cell {x : Addr} {v : Value} (h : W.cell? x = some v) : x = ⟨x.block, x.off, none⟩ := by
  obtain ⟨b, o, s⟩ := x
  cases s with
  | none => rfl
  | some n =>
    exfalso
    simp only [World.cell?] at h
    split at h <;> simp at h

theorem add_plain (b o i : Nat) : (⟨b, o, none⟩ : Addr).add i = ⟨b, o + i, none⟩ := by unfold Addr.add; split <;> simp_all

theorem cells_of_add {x : Addr} {cs : List Value} (h : ∀ i v, cs[i]? = some v → W.cell? (x.add i) = some v) : Cells W (some x) cs := by
  intro i v hi
  have h0 : 0 < cs.length := by have := (List.getElem?_eq_some_iff.1 hi).1; omega
  have hx := plain_of_cell (x := x) (v := cs[0]) (by have := h 0 cs[0] (by simp [h0]); simpa [Addr.add] using this)
  refine ⟨x.block, x.off, by rw [← hx], ?_⟩
  have := h i v hi
  rw [hx, add_plain] at this
  exact this

/-- A slice of strings that came in. -/
theorem open_cells_strs (ht : P.underlying t = some (.slice e)) (he : P.underlying e = some .string) (hc : P.cellsOf e = 1)
    (h : DataW.Trod enc P W 0 (fun _ => true) true t (.slice a len cap) d p) :
    ∃ l : List ByteArray, len = l.length ∧ (l.length ≤ cap ∧ cap ≤ maxLen ∧ Cells W a (l.map Value.string) ∧ ∀ s ∈ l, s.size ≤ maxLen) := by
  obtain ⟨fuel, hf⟩ := h
  rcases open_strings ht he hc hf with ⟨hcs, _⟩ | ⟨x, l, c, ss, hcs, _, hl, hm, hz, _, hcell, hs⟩
  · simp [Value.cells] at hcs
    obtain ⟨rfl, rfl, rfl⟩ := hcs
    exact ⟨[], rfl, by simp, by simp [maxLen], Cells.nil _ _, by simp⟩
  · simp [Value.cells] at hcs
    obtain ⟨rfl, rfl, rfl⟩ := hcs
    simp at hz
    refine ⟨ss.take len, by simp; omega, by simp; omega, hm, cells_of_add (fun i v hi => ?_), fun s hs' => hs s (List.mem_of_mem_take hs')⟩
    have hil : i < len ∧ i < ss.length := by have := (List.getElem?_eq_some_iff.1 hi).1; simp at this; omega
    have e2 : ((ss.take len).map Value.string)[i]? = some (.string (ss.getD i ByteArray.empty)) := by simp [List.getD, hil.1, hil.2]
    rw [e2] at hi
    rw [hcell i hil.2]
    exact hi

/-- A slice of whole numbers that came in. -/
theorem open_cells_ints {k : IntKind} (ht : P.underlying t = some (.slice e)) (he : P.underlying e = some (.int k)) (hc : P.cellsOf e = 1)
    (h : DataW.Trod enc P W 0 (fun _ => true) true t (.slice a len cap) d p) :
    ∃ l : List Int, len = l.length ∧ (l.length ≤ cap ∧ cap ≤ maxLen ∧ Cells W a (l.map (Value.int k)) ∧ ∀ n ∈ l, (Lit.int k n).wf = true) := by
  obtain ⟨fuel, hf⟩ := h
  rcases open_ints ht he hc hf with ⟨hcs, _⟩ | ⟨x, l, c, ss, hcs, _, hl, hm, hz, _, hcell, hs⟩
  · simp [Value.cells] at hcs
    obtain ⟨rfl, rfl, rfl⟩ := hcs
    exact ⟨[], rfl, by simp, by simp [maxLen], Cells.nil _ _, by simp⟩
  · simp [Value.cells] at hcs
    obtain ⟨rfl, rfl, rfl⟩ := hcs
    simp at hz
    refine ⟨ss.take len, by simp; omega, by simp; omega, hm, cells_of_add (fun i v hi => ?_), fun s hs' => hs s (List.mem_of_mem_take hs')⟩
    have hil : i < len ∧ i < ss.length := by have := (List.getElem?_eq_some_iff.1 hi).1; simp at this; omega
    have e2 : ((ss.take len).map (Value.int k))[i]? = some (.int k (ss.getD i 0)) := by simp [List.getD, hil.1, hil.2]
    rw [e2] at hi
    rw [hcell i hil.2]
    exact hi
end

end Go.Proofs.YtpidjmgapiekaaaGreatDoor
