/- This text proves, over the loaded program, that the law QueueTells returns true for every input. -/
import Derived.Test.YtkpbjahjiajodaaDoorQGets
import Derived.Test.YtkpbjahjiajodaaDoorQueue3
import Derived.Deep.WholeRow
namespace Go.Proofs.YtkpbjahjiajodaaDoor
open Go.RowKit Go.WideShapes

/-- Which guesses an array of 200 holds. -/
def usedL (g : Int → Option Int) : List Value := (List.range 200).map fun (f : Nat) => Value.int .i64 ((g f).getD 0)
def hasL (g : Int → Option Int) : List Value := (List.range 200).map fun (f : Nat) => Value.bool (g f).isSome

/-- A block of cells of a type. -/
def RowT (T : TypeId) (w : World) (b : Nat) (l : List Value) : Prop := w.heap[b]? = some (.cells l.toArray T (0, 0))

theorem RowT.cell {T : TypeId} {w : World} {b : Nat} {l : List Value} (h : RowT T w b l) (i : Nat) (v : Value) (hi : l[i]? = some v) : w.cell? ⟨b, i, none⟩ = some v := by
  simp [World.cell?, show w.heap[b]? = _ from h, hi]
theorem RowT.frozen {T : TypeId} {w : World} {b : Nat} {l : List Value} (h : RowT T w b l) (i : Nat) : w.frozen? ⟨b, i, none⟩ = false := by
  simp [World.frozen?, show w.heap[b]? = _ from h]
theorem RowT.set {T : TypeId} {w : World} {b : Nat} {l : List Value} (h : RowT T w b l) (i : Nat) (v : Value) : RowT T (w.setCell ⟨b, i, none⟩ v) b (l.set i v) := by
  unfold RowT
  rw [heap_setCell_at h]
  simp
theorem RowT.lt {T : TypeId} {w : World} {b : Nat} {l : List Value} (h : RowT T w b l) : b < w.heap.size := (Array.getElem?_eq_some_iff.1 (show w.heap[b]? = _ from h)).1
theorem RowT.kept {T : TypeId} {w w' : World} {b : Nat} {l : List Value} {fp : List Nat} (h : RowT T w b l) (hk : Kept fp w w') (hb : b ∉ fp) : RowT T w' b l := (hk.block b h.lt hb).trans h

theorem usedL_at (g : Int → Option Int) (f : Nat) (h : f < 200) : (usedL g)[f]? = some (.int .i64 ((g f).getD 0)) := by simp [usedL, h]
theorem hasL_at (g : Int → Option Int) (f : Nat) (h : f < 200) : (hasL g)[f]? = some (.bool (g f).isSome) := by simp [hasL, h]

theorem usedL_set (g : Int → Option Int) (f : Nat) (x : Int) (h : f < 200) : (usedL g).set f (.int .i64 x) = usedL (fun j => if j = (f : Int) then some x else g j) := by
  apply List.ext_getElem?
  intro i
  rw [List.getElem?_set]
  by_cases hi : i < 200
  · rw [usedL_at _ _ hi, usedL_at _ _ hi]
    by_cases e : f = i
    · subst e; simp [usedL, h]
    · rw [if_neg e, if_neg (by omega)]
  · have e1 : ∀ g, (usedL g)[i]? = none := by intro g; simp [usedL]; omega
    rw [e1, e1, if_neg (by omega)]

theorem hasL_set (g : Int → Option Int) (f : Nat) (x : Int) (h : f < 200) : (hasL g).set f (.bool true) = hasL (fun j => if j = (f : Int) then some x else g j) := by
  apply List.ext_getElem?
  intro i
  rw [List.getElem?_set]
  by_cases hi : i < 200
  · rw [hasL_at _ _ hi, hasL_at _ _ hi]
    by_cases e : f = i
    · subst e; simp [hasL, h]
    · rw [if_neg e, if_neg (by omega)]
  · have e1 : ∀ g, (hasL g)[i]? = none := by intro g; simp [hasL]; omega
    rw [e1, e1, if_neg (by omega)]

def Z35 : Array Value := (usedL (fun _ => none)).toArray
def Z36 : Array Value := (hasL (fun _ => none)).toArray
theorem zero35 (w : World) : (zeroValue 35).run Tryd.prog w = .ok (.agg Z35) w := by kernel_rfl
theorem zero36 (w : World) : (zeroValue 36).run Tryd.prog w = .ok (.agg Z36) w := by kernel_rfl
theorem info35 : (Tryd.prog.info? 35).map (·.size) = some Z35.size := by kernel_rfl
theorem info36 : (Tryd.prog.info? 36).map (·.size) = some Z36.size := by kernel_rfl

/-- Both arrays, made. -/
theorem store35 (w : World) : ∃ W', (storeCells ⟨w.heap.size, 0, none⟩ Z35.toList).run Tryd.prog (w.alloc (.cells Z35 35)) = .ok () W' ∧ RowT 35 W' w.heap.size (usedL fun _ => none) ∧ Below w.heap.size w W' ∧ W'.heap.size = w.heap.size + 1 :=
  ⟨_, run_storeCells_new w 35 Z35 Z35 info35 rfl (by decide +kernel), heap_alloc_new w _, (Below.refl _ _).alloc (Nat.le_refl _) _, Array.size_push ..⟩
theorem store36 (w : World) : ∃ W', (storeCells ⟨w.heap.size, 0, none⟩ Z36.toList).run Tryd.prog (w.alloc (.cells Z36 36)) = .ok () W' ∧ RowT 36 W' w.heap.size (hasL fun _ => none) ∧ Below w.heap.size w W' ∧ W'.heap.size = w.heap.size + 1 :=
  ⟨_, run_storeCells_new w 36 Z36 Z36 info36 rfl (by decide +kernel), heap_alloc_new w _, (Below.refl _ _).alloc (Nat.le_refl _) _, Array.size_push ..⟩

/-- The queue behind k puts, with guesses and a wrong frame. -/
def tq (l : List Int) (k : Nat) (g : Int → Option Int) (f : Int) : Que := { first := 1, xs := (l.take k).map qin, g := g, wrong := f, closed := false, fin := 0 }

theorem tq_len (l : List Int) (k : Nat) (g : Int → Option Int) (f : Int) (h : k ≤ l.length) : (tq l k g f).xs.length = k := by simp [tq]; omega
theorem tq_last (l : List Int) (k : Nat) (g : Int → Option Int) (f : Int) (h : k ≤ l.length) : (tq l k g f).last = k := by
  unfold Que.last
  rw [tq_len _ _ _ _ h]
  simp [tq]; omega
theorem tq_ok (l : List Int) (k : Nat) (g : Int → Option Int) (f : Int) (h : k ≤ l.length) (hl : l.length ≤ 60) : (tq l k g f).ok := by
  unfold Que.ok
  rw [tq_len _ _ _ _ h]
  simp [tq]; omega
theorem tq_get (l : List Int) (k : Nat) (g : Int → Option Int) (f i : Int) (h : k ≤ l.length) (hi : (k : Int) < i) : (tq l k g f).get i = (lastv l k, false) := by
  unfold Que.get
  rw [tq_last _ _ _ _ h, if_neg (by simp [tq]; omega), if_neg (by omega), if_neg (by simp [tq])]
  congr 1
  unfold Que.guess lastv
  rw [tq_len _ _ _ _ h]
  by_cases h0 : k = 0
  · subst h0; rw [if_pos rfl]; simp [tq]
  · rw [if_neg h0]
    have h3 : k - 1 < l.length := by omega
    simp only [tq, List.getD, List.getElem?_map, List.getElem?_take]
    rw [if_pos (by omega)]
    simp [h3]
theorem tq_use (l : List Int) (k : Nat) (g : Int → Option Int) (f i : Int) (h : k ≤ l.length) (hi : (k : Int) < i) (hi2 : i ≤ 1073741824) :
    (tq l k g f).use i = tq l k (fun j => if j = i then some (lastv l k) else g j) f := by
  have e := tq_get l k g f i h hi
  rw [use_hit (by rw [e]) (by simp [tq]; omega) hi2, e]
  rfl
theorem tq_err (l : List Int) (k : Nat) (g : Int → Option Int) (f x : Int) (h : k ≤ l.length) (hl : l.length ≤ 60) (hx : 0 ≤ x ∧ x < 256) : (tq l k g f).err ((k : Int) + 1) x = none := by
  unfold Que.err
  rw [tq_last _ _ _ _ h, tq_len _ _ _ _ h, if_neg (by omega), if_neg (by simp [tq]), if_neg (by omega), if_neg (by omega), if_neg (by omega)]
theorem tq_put (l : List Int) (k : Nat) (g : Int → Option Int) (f x i : Int) (h : l[k]? = some x) :
    (tq l k g f).put i (qin x) = tq l (k + 1) g (if (g i).isSome ∧ (g i).getD 0 ≠ qin x ∧ f = 0 then i else f) := by
  obtain ⟨hk, rfl⟩ := List.getElem?_eq_some_iff.1 h
  unfold Que.put tq
  rw [List.take_succ_eq_append_getElem hk, List.map_append]
  rfl
theorem tq_zero (l : List Int) : tq l 0 (fun _ => none) 0 = Que.new 0 := by simp [tq, Que.new]

/-- What holds in the law's loops. -/
def TInv (w0 : World) (l : List Int) (qb m a1 a2 k n : Nat) (g : Int → Option Int) (f : Int) (w : World) : Prop :=
  (∃ gb o cap, QAt w qb m gb o cap n (tq l k g f) ∧ w0.heap.size ≤ gb) ∧ RowT 35 w a1 (usedL g) ∧ RowT 36 w a2 (hasL g) ∧ Below w0.heap.size w0 w

section
variable {w w' : World} {T : TypeId} {b qb m gb o cap n : Nat} {ls : List Value} {q : Que}
theorem RowT.ne_q (h : RowT T w b ls) (hQ : QAt w qb m gb o cap n q) (h93 : T ≠ 93) : b ≠ qb := by
  rintro rfl
  have := (show w.heap[b]? = _ from h).symm.trans hQ.cell
  simp at this
  exact h93 this.2
theorem RowT.ne_m (h : RowT T w b ls) (hQ : QAt w qb m gb o cap n q) : b ≠ m := by
  rintro rfl
  obtain ⟨D, ⟨es, clock, hb, _⟩, _⟩ := hQ.map
  have := (show w.heap[b]? = _ from h).symm.trans hb
  simp at this
theorem RowT.ne_g (h : RowT T w b ls) (hQ : QAt w qb m gb o cap n q) (h3 : T ≠ 3) : b ≠ gb := by
  rintro rfl
  obtain ⟨_, _, _, cur, hb, _⟩ := hQ.row
  have := (show w.heap[b]? = _ from h).symm.trans hb
  simp at this
  exact h3 this.2
theorem RowT.ne_row {T' : TypeId} {b' : Nat} {ls' : List Value} (h : RowT T w b ls) (h' : RowT T' w b' ls') (hT : T ≠ T') : b ≠ b' := by
  rintro rfl
  have := (show w.heap[b]? = _ from h).symm.trans (show w.heap[b]? = _ from h')
  simp at this
  exact hT this.2
end

end Go.Proofs.YtkpbjahjiajodaaDoor
