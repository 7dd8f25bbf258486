/- This text holds small laws on worlds, over any program: worlds alike but for some blocks; rows of a call's own, from whatever place on, and what append leaves of them. -/
import Derived.Test.YtpidjmgapiekaaaGreatDoorBase
import Derived.Deep.AppendSrc
import Derived.Laws.AppendOwn
import Derived.Tactics
import Derived.Deep.Draws
namespace Go.Proofs.YtpidjmgapiekaaaGreatDoor
open Go.RowKit

/-- Two worlds alike but for some blocks, and new ones. -/
structure Kept (fp : List Nat) (w w' : World) : Prop where
  os : w'.os = w.os
  tape : w'.tape = w.tape
  output : w'.output = w.output
  size : w.heap.size ≤ w'.heap.size
  block : ∀ k, k < w.heap.size → k ∉ fp → w'.heap[k]? = w.heap[k]?

theorem Kept.refl (fp : List Nat) (w : World) : Kept fp w w := ⟨rfl, rfl, rfl, Nat.le_refl _, fun _ _ _ => rfl⟩
theorem Kept.drewN (fp : List Nat) (w : World) (n : Nat) : Kept fp w (w.drewN n) := ⟨rfl, rfl, rfl, Nat.le_refl _, fun _ _ _ => rfl⟩
theorem Kept.drew {fp : List Nat} {a b : World} (h : Kept fp a b) : Kept fp a b.drew := ⟨h.os, h.tape, h.output, h.size, h.block⟩
theorem Kept.drewN' {fp : List Nat} {a b : World} (h : Kept fp a b) (n : Nat) : Kept fp a (b.drewN n) := ⟨h.os, h.tape, h.output, h.size, h.block⟩
theorem Kept.trans {fp fp' : List Nat} {a b c : World} (h : Kept fp a b) (k : Kept fp' b c) (hs : ∀ x ∈ fp', x ∈ fp ∨ a.heap.size ≤ x) : Kept fp a c :=
  ⟨k.os.trans h.os, k.tape.trans h.tape, k.output.trans h.output, Nat.le_trans h.size k.size, fun i hi hn =>
    (k.block i (Nat.lt_of_lt_of_le hi h.size) (fun hm => (hs i hm).elim hn (fun hle => absurd hi (by omega)))).trans (h.block i hi hn)⟩
theorem Kept.mono {fp fp' : List Nat} {a b : World} (h : Kept fp a b) (hs : ∀ x ∈ fp, x ∈ fp' ∨ a.heap.size ≤ x) : Kept fp' a b :=
  ⟨h.os, h.tape, h.output, h.size, fun i hi hn => h.block i hi (fun hm => (hs i hm).elim hn (fun hle => absurd hi (by omega)))⟩
theorem Kept.of_below {fp : List Nat} {a b : World} (h : Below a.heap.size a b) : Kept fp a b := ⟨h.os, h.tape, h.output, h.size, fun k hk _ => h.block k hk⟩
theorem Kept.of_grown {g : Nat} {a b : World} (h : a.grownBy b (some g)) : Kept [g] a b := ⟨h.os, h.tape, h.output, h.size, fun k hk hn => h.block k hk (by simpa using hn)⟩
theorem Kept.of_grown_none {a b : World} (h : a.grownBy b none) : Kept [] a b := ⟨h.os, h.tape, h.output, h.size, fun k hk hn => h.block k hk (by simp)⟩
theorem Kept.setCell (w : World) (g o : Nat) (v : Value) : Kept [g] w (w.setCell ⟨g, o, none⟩ v) := Kept.of_grown (grown_set w g o v)
theorem Kept.alloc (w : World) (o : Obj) : Kept [] w (w.alloc o) := Kept.of_grown_none (World.grownBy_alloc w o none)
theorem Kept.below {fp : List Nat} {a b : World} {B : Nat} (h : Kept fp a b) (hB : B ≤ a.heap.size) (hf : ∀ x ∈ fp, B ≤ x) : Below B a b :=
  ⟨h.os, h.tape, h.output, h.size, fun k hk => h.block k (by omega) (fun hm => by have := hf k hm; omega)⟩
/-- A call that touches an object of the call's own leaves what came in. -/
theorem below_kept {fp : List Nat} {w0 a b : World} {B : Nat} (hw : Below B w0 a) (h : Kept fp a b) (hf : ∀ x ∈ fp, B ≤ x) (hB : B ≤ w0.heap.size) : Below B w0 b :=
  hw.trans (h.below (Nat.le_trans hB hw.size) hf)
theorem Kept.cell {fp : List Nat} {a b : World} (h : Kept fp a b) {x : Addr} {v : Value} (hc : a.cell? x = some v) (hx : x.block ∉ fp) : b.cell? x = some v :=
  (World.cell?_of_block (h.block x.block (World.block_lt_of_cell? a _ hc) hx)).trans hc

/-- A row of n elements in block g from place o on, with room for cap. -/
def RowAt (w : World) (e : TypeId) (size g o cap n : Nat) (xs : List Value) : Prop :=
  xs.length = n * size ∧ n ≤ cap ∧ cap ≤ maxLen ∧ ∃ cur : Array Value, w.heap[g]? = some (.cells cur e (0, 0)) ∧ o + cap * size ≤ cur.size ∧ ∀ i v, xs[i]? = some v → cur[o + i]? = some v

theorem RowAt.lt {w : World} {e : TypeId} {size g o cap n : Nat} {xs : List Value} (h : RowAt w e size g o cap n xs) : g < w.heap.size := by
  obtain ⟨_, _, _, cur, hb, _⟩ := h
  exact (Array.getElem?_eq_some_iff.1 hb).1
theorem RowAt.of_block {w w' : World} {e : TypeId} {size g o cap n : Nat} {xs : List Value} (h : RowAt w e size g o cap n xs) (hb : w'.heap[g]? = w.heap[g]?) : RowAt w' e size g o cap n xs := by
  obtain ⟨h1, h2, h3, cur, hc, h4⟩ := h
  exact ⟨h1, h2, h3, cur, hb.trans hc, h4⟩
theorem RowAt.kept {w w' : World} {fp : List Nat} {e : TypeId} {size g o cap n : Nat} {xs : List Value} (h : RowAt w e size g o cap n xs) (hk : Kept fp w w') (hn : g ∉ fp) : RowAt w' e size g o cap n xs :=
  h.of_block (hk.block g h.lt hn)
theorem RowAt.cell {w : World} {e : TypeId} {size g o cap n : Nat} {xs : List Value} (h : RowAt w e size g o cap n xs) (i : Nat) (v : Value) (hi : xs[i]? = some v) : w.cell? ⟨g, o + i, none⟩ = some v := by
  obtain ⟨_, _, _, cur, hc, _, h4⟩ := h
  simp only [World.cell?, hc]
  exact h4 i v hi
theorem RowAt.cells {w : World} {e : TypeId} {size g o cap n : Nat} {xs : List Value} (h : RowAt w e size g o cap n xs) : Cells w (some ⟨g, o, none⟩) xs :=
  fun i v hi => ⟨g, o, rfl, h.cell i v hi⟩
theorem RowAt.frozen {w : World} {e : TypeId} {size g o cap n : Nat} {xs : List Value} (h : RowAt w e size g o cap n xs) (i : Nat) : w.frozen? ⟨g, i, none⟩ = false := by
  obtain ⟨_, _, _, cur, hc, _⟩ := h
  simp [World.frozen?, hc]

theorem heap_setCells (g : Nat) : ∀ (vs : List Value) (o : Nat) (w : World) (cur : Array Value) (e : TypeId), w.heap[g]? = some (.cells cur e (0, 0)) → o + vs.length ≤ cur.size →
    ∃ cur' : Array Value, (w.setCells g o vs).heap[g]? = some (.cells cur' e (0, 0)) ∧ cur'.size = cur.size ∧ (∀ i v, vs[i]? = some v → cur'[o + i]? = some v) ∧ (∀ i, i < o → cur'[i]? = cur[i]?)
  | [], o, w, cur, e, hb, _ => ⟨cur, hb, rfl, fun i v h => by simp at h, fun _ _ => rfl⟩
  | v :: r, o, w, cur, e, hb, hl => by
    simp only [List.length_cons] at hl
    have hb1 : (w.setCell ⟨g, o, none⟩ v).heap[g]? = some (.cells (cur.setIfInBounds o v) e (0, 0)) := by
      unfold World.setCell
      simp [Array.getElem?_modify, hb]
    obtain ⟨cur', h1, h2, h3, h4⟩ := heap_setCells g r (o + 1) _ _ e hb1 (by simp; omega)
    refine ⟨cur', h1, by simpa using h2, fun i u hi => ?_, fun i hi => ?_⟩
    · match i, hi with
      | 0, hi =>
        simp at hi
        subst hi
        rw [Nat.add_zero, h4 o (by omega), Array.getElem?_setIfInBounds, if_pos rfl, if_pos (by omega)]
      | i + 1, hi =>
        simp at hi
        have := h3 i u hi
        rw [show o + (i + 1) = o + 1 + i by omega]
        exact this
    · rw [h4 i (by omega)]
      rw [Array.getElem?_setIfInBounds]
      rw [if_neg (by omega)]

theorem grown_setCells (g : Nat) : ∀ (vs : List Value) (o : Nat) (w : World), w.grownBy (w.setCells g o vs) (some g)
  | [], _, w => grown_refl w _
  | v :: r, o, w => grown_trans (grown_set w g o v) (grown_setCells g r (o + 1) _)

/-- append onto a row of the call's own. -/
theorem run_append_at {P : Program} (w : World) (t tx ty e : TypeId) (i : TypeInfo) (z : Value) (size bytes : Nat) (ht : P.underlying t = some (.slice e)) (hi : P.info? e = some i) (hz : i.zero = some z)
    (hsize : i.size = size) (hby : i.bytes = bytes) (hzs : z.cells.size = size)
    (g o cap n : Nat) (xs : List Value) (hrow : RowAt w e size g o cap n xs) (x : Value) (m : Nat) (news : List Value) (hs : Src P size tx x m news w)
    (h63 : n + m ≤ maxLen) (hbytes : (n + m) * bytes ≤ 140737488355328) :
    ∃ g' o' cap' w', (Builtin.append_ #[t, tx] ty #[.slice (some ⟨g, o, none⟩) n cap, x]).run P w = .ok (.slice (some ⟨g', o', none⟩) (n + m) cap') w' ∧ RowAt w' e size g' o' cap' (n + m) (xs ++ news) ∧
      w.grownBy w' (some g) ∧ (g' = g ∨ g' = w.heap.size) := by
  subst hsize
  subst hby
  obtain ⟨hl, hnc, hcm, cur, hb, hcs, hx⟩ := hrow
  have hnl := hs.newsLen
  have hlen : (xs ++ news).length = (n + m) * i.size := by rw [List.length_append, hl, hnl, Nat.add_mul]
  by_cases hroom : n + m ≤ cap
  · have hfit : n * i.size + news.length ≤ cap * i.size := by rw [hnl, ← Nat.add_mul]; exact Nat.mul_le_mul_right _ hroom
    have hr := run_append_room_src (P := P) w t tx ty e i ht hi g o n cap x m news hs hroom
      (fun j hj => by simp only [World.cell?, hb]; rw [Array.getElem?_eq_getElem (by omega)]; rfl) (fun j hj => by simp [World.frozen?, hb])
    obtain ⟨cur', c1, c2, c3, c4⟩ := heap_setCells g news (o + n * i.size) w cur e hb (by omega)
    refine ⟨g, o, cap, _, hr, ⟨hlen, hroom, hcm, cur', c1, by omega, fun j v hj => ?_⟩, grown_setCells g news _ w, .inl rfl⟩
    by_cases hjn : j < xs.length
    · rw [List.getElem?_append_left hjn] at hj
      rw [c4 _ (by omega)]
      exact hx j v hj
    · rw [List.getElem?_append_right (by omega)] at hj
      have := c3 _ v hj
      rw [show o + n * i.size + (j - xs.length) = o + j by omega] at this
      exact this
  · have hold : (Builtin.firstCells i.size n (.slice (some ⟨g, o, none⟩) n cap)).run P w.drew = .ok xs.toArray w.drew :=
      run_firstCells_some w.drew i.size n ⟨g, o, none⟩ n cap xs hl (fun j u hj => by
        rw [add_plain]
        show w.cell? _ = _
        simp only [World.cell?, hb]
        exact hx j u hj)
    have hr := run_append_grow_src (P := P) w t tx ty e i z ht hi hz (some ⟨g, o, none⟩) n cap xs hold x m news hs (by omega) (by simp only [maxLen] at h63; omega) (growslice_fits (by omega) hbytes)
    have hge := grownCap_ge w (n + m) cap e
    have hcm' : grownCap w (n + m) cap e ≤ maxLen := grownCap_le_maxLen w (n + m) cap e h63
    refine ⟨w.heap.size, 0, _, _, hr, ⟨hlen, hge, hcm', _, heap_alloc_new w.drew _, ?_, fun j v hj => ?_⟩, ⟨rfl, rfl, rfl, by simp, fun k hk _ => heap_alloc_old w.drew _ hk⟩, .inr rfl⟩
    · simp only [Array.size_append, List.size_toArray, size_zeroCells, hzs, hlen, ← Nat.add_mul]
      rw [Nat.zero_add]
      exact Nat.mul_le_mul_right _ (by omega)
    · rw [Nat.zero_add, Array.getElem?_append_left (by rw [List.size_toArray]; exact (List.getElem?_eq_some_iff.1 hj).1)]
      simpa using hj

theorem wpList_append_at {P : Program} {w : World} {ops : Array Oper} {rest : List Oper} {op : Oper} {a : Act} {Q : Exit → Act → World → Prop} (hgd : op.guard = none) (s x : Operand) (t tx : TypeId)
    (ho : op.op = .call { callee := .builtin .append, args := #[s, x], argTypes := #[t, tx] })
    (e : TypeId) (z : Value) (size bytes : Nat) (ht : P.underlying t = some (.slice e)) (hi : (P.info? e).map (fun i => (i.zero, i.size, i.bytes)) = some (some z, size, bytes)) (hzs : z.cells.size = size)
    (g o cap n : Nat) (xs : List Value) (hsv : a.eval s = .slice (some ⟨g, o, none⟩) n cap) (hrow : RowAt w e size g o cap n xs) (xv : Value) (hxv : a.eval x = xv) (m : Nat) (news : List Value) (hs : Src P size tx xv m news w)
    (h63 : n + m ≤ maxLen) (hbytes : (n + m) * bytes ≤ 140737488355328)
    (h : ∀ g' o' cap' w', RowAt w' e size g' o' cap' (n + m) (xs ++ news) → w.grownBy w' (some g) → (g' = g ∨ g' = w.heap.size) → wpList P ops Q rest (a.put op.dst (.slice (some ⟨g', o', none⟩) (n + m) cap')) w') :
    wpList P ops Q (op :: rest) a w := by
  obtain ⟨i0, hi0, hz0, hz1, hz2⟩ := info_parts hi
  refine wpList_plain hgd fun K hK => ?_
  obtain ⟨g', o', cap', w', hr, h2, h3, h4⟩ := run_append_at (P := P) w t tx op.type e i0 z size bytes ht hi0 hz0 hz1 hz2 hzs g o cap n xs hrow xv m news hs h63 hbytes
  unfold Oper.wp execOp
  simp only [ho, resolve, invoke, builtin, Sem.run_bind, Sem.run_pure, Result.andThen_ok, List.map_toArray, List.map_cons, List.map_nil, hsv, hxv, hr]
  exact hK _ _ (h g' o' cap' w' h2 h3 h4)

end Go.Proofs.YtpidjmgapiekaaaGreatDoor
