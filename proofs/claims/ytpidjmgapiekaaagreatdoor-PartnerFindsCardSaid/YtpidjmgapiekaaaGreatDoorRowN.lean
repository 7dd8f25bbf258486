/- This text holds laws, over any program, on slices that the call owns, nil ones too: append onto them in a walk and in a drawn region. -/
import Derived.Test.YtpidjmgapiekaaaGreatDoorOwn
import Derived.Deep.AppendLies
namespace Go.Proofs.YtpidjmgapiekaaaGreatDoor
open Go.RowKit

/-- A slice of n elements: nil, or a row in one of the blocks fp. -/
def RowN (w : World) (e : TypeId) (size : Nat) (fp : List Nat) (sv : Value) (n : Nat) (xs : List Value) : Prop :=
  (sv = .slice none 0 0 ∧ n = 0 ∧ xs = []) ∨ ∃ g o cap, sv = .slice (some ⟨g, o, none⟩) n cap ∧ g ∈ fp ∧ RowAt w e size g o cap n xs

theorem RowN.kept {w w' : World} {fp fk : List Nat} {e : TypeId} {size n : Nat} {sv : Value} {xs : List Value} (h : RowN w e size fp sv n xs) (hk : Kept fk w w') (hn : ∀ x ∈ fp, x ∉ fk) : RowN w' e size fp sv n xs := by
  rcases h with h | ⟨g, o, cap, h1, h2, h3⟩
  · exact .inl h
  · exact .inr ⟨g, o, cap, h1, h2, h3.kept hk (hn g h2)⟩
theorem RowN.fpMono {w : World} {fp fp' : List Nat} {e : TypeId} {size n : Nat} {sv : Value} {xs : List Value} (h : RowN w e size fp sv n xs) (hs : ∀ x ∈ fp, x ∈ fp') : RowN w e size fp' sv n xs := by
  rcases h with h | ⟨g, o, cap, h1, h2, h3⟩
  · exact .inl h
  · exact .inr ⟨g, o, cap, h1, hs g h2, h3⟩
theorem RowN.slice {w : World} {fp : List Nat} {e : TypeId} {size n : Nat} {sv : Value} {xs : List Value} (h : RowN w e size fp sv n xs) : ∃ A cap, sv = .slice A n cap ∧ n ≤ cap ∧ cap ≤ maxLen ∧ Cells w A xs := by
  rcases h with ⟨rfl, rfl, rfl⟩ | ⟨g, o, cap, rfl, h2, h3⟩
  · exact ⟨none, 0, rfl, Nat.le_refl _, by simp [maxLen], Cells.nil _ _⟩
  · exact ⟨_, cap, rfl, h3.2.1, h3.2.2.1, h3.cells⟩

theorem run_append_rown {P : Program} (w : World) (t tx ty e : TypeId) (i : TypeInfo) (z : Value) (size bytes : Nat) (ht : P.underlying t = some (.slice e)) (hi : P.info? e = some i) (hz : i.zero = some z)
    (hsize : i.size = size) (hby : i.bytes = bytes) (hzs : z.cells.size = size) {fp : List Nat} {sv : Value}
    (n : Nat) (xs : List Value) (hrow : RowN w e size fp sv n xs) (x : Value) (m : Nat) (news : List Value) (hs : Src P size tx x m news w) (hm : 0 < m)
    (h63 : n + m ≤ maxLen) (hbytes : (n + m) * bytes ≤ 140737488355328) :
    ∃ g' o' cap' w', (Builtin.append_ #[t, tx] ty #[sv, x]).run P w = .ok (.slice (some ⟨g', o', none⟩) (n + m) cap') w' ∧ RowAt w' e size g' o' cap' (n + m) (xs ++ news) ∧
      Kept fp w w' ∧ (g' ∈ fp ∨ g' = w.heap.size) := by
  rcases hrow with ⟨rfl, rfl, rfl⟩ | ⟨g, o, cap, rfl, hg, hrow⟩
  · subst hsize
    subst hby
    have hold : (Builtin.firstCells i.size 0 (.slice none 0 0)).run P w.drew = .ok ([] : List Value).toArray w.drew := run_firstCells_none w.drew i.size 0 0 0
    have hr := run_append_grow_src (P := P) w t tx ty e i z ht hi hz none 0 0 [] hold x m news hs (by omega) (by simp only [maxLen] at h63; omega) (growslice_fits (by omega) hbytes)
    have hge := grownCap_ge w (0 + m) 0 e
    have hcm' : grownCap w (0 + m) 0 e ≤ maxLen := grownCap_le_maxLen w (0 + m) 0 e h63
    have hnl := hs.newsLen
    have hlen : ([] ++ news).length = (0 + m) * i.size := by simpa using hnl
    refine ⟨w.heap.size, 0, _, _, hr, ⟨hlen, hge, hcm', _, heap_alloc_new w.drew _, ?_, fun j v hj => ?_⟩, ((Kept.refl fp w).drew).trans (Kept.alloc _ _) (fun y hy => by cases hy), .inr rfl⟩
    · simp only [Array.size_append, List.size_toArray, size_zeroCells, hzs, hlen, ← Nat.add_mul]
      rw [Nat.zero_add]
      exact Nat.mul_le_mul_right _ (by omega)
    · have hl0 := (List.getElem?_eq_some_iff.1 hj).1
      rw [Array.getElem?_append_left (by rw [List.size_toArray]; omega)]
      simpa using hj
  · obtain ⟨g', o', cap', w', h1, h2, h3, h4⟩ := run_append_at (P := P) w t tx ty e i z size bytes ht hi hz hsize hby hzs g o cap n xs hrow x m news hs h63 hbytes
    exact ⟨g', o', cap', w', h1, h2, (Kept.of_grown h3).mono (fun y hy => .inl (by simp at hy; rw [hy]; exact hg)), h4.imp (fun e => by rw [e]; exact hg) id⟩

theorem wpList_append_rown {P : Program} {w : World} {ops : Array Oper} {rest : List Oper} {op : Oper} {a : Act} {Q : Exit → Act → World → Prop} (hgd : op.guard = none) (s x : Operand) (t tx : TypeId)
    (ho : op.op = .call { callee := .builtin .append, args := #[s, x], argTypes := #[t, tx] })
    (e : TypeId) (z : Value) (size bytes : Nat) (ht : P.underlying t = some (.slice e)) (hi : (P.info? e).map (fun i => (i.zero, i.size, i.bytes)) = some (some z, size, bytes)) (hzs : z.cells.size = size)
    {fp : List Nat} {sv : Value} (n : Nat) (xs : List Value) (hsv : a.eval s = sv) (hrow : RowN w e size fp sv n xs) (xv : Value) (hxv : a.eval x = xv) (m : Nat) (news : List Value) (hs : Src P size tx xv m news w) (hm : 0 < m)
    (h63 : n + m ≤ maxLen) (hbytes : (n + m) * bytes ≤ 140737488355328)
    (h : ∀ g' o' cap' w', RowAt w' e size g' o' cap' (n + m) (xs ++ news) → Kept fp w w' → (g' ∈ fp ∨ g' = w.heap.size) → wpList P ops Q rest (a.put op.dst (.slice (some ⟨g', o', none⟩) (n + m) cap')) w') :
    wpList P ops Q (op :: rest) a w := by
  obtain ⟨i0, hi0, hz0, hz1, hz2⟩ := info_parts hi
  refine wpList_plain hgd fun K hK => ?_
  obtain ⟨g', o', cap', w', hr, h2, h3, h4⟩ := run_append_rown (P := P) w t tx op.type e i0 z size bytes ht hi0 hz0 hz1 hz2 hzs n xs hrow xv m news hs hm h63 hbytes
  unfold Oper.wp execOp
  simp only [ho, resolve, invoke, builtin, Sem.run_bind, Sem.run_pure, Result.andThen_ok, List.map_toArray, List.map_cons, List.map_nil, hsv, hxv, hr]
  exact hK _ _ (h g' o' cap' w' h2 h3 h4)

theorem step_append_rown {P : Program} {w : World} {ops : Array Oper} {o : Oper} {a : Act} {K : Act → World → Prop} {Q : Exit → Act → World → Prop} {E : Prop} (hgd : o.guard = none) (s x : Operand) (t tx : TypeId)
    (ho : o.op = .call { callee := .builtin .append, args := #[s, x], argTypes := #[t, tx] })
    (e : TypeId) (z : Value) (size bytes : Nat) (ht : P.underlying t = some (.slice e)) (hi : (P.info? e).map (fun i => (i.zero, i.size, i.bytes)) = some (some z, size, bytes)) (hzs : z.cells.size = size)
    {fp : List Nat} {sv : Value} (n : Nat) (xs : List Value) (hsv : a.eval s = sv) (hrow : RowN w e size fp sv n xs) (xv : Value) (hxv : a.eval x = xv) (m : Nat) (news : List Value) (hs : Src P size tx xv m news w) (hm : 0 < m)
    (h63 : n + m ≤ maxLen) (hbytes : (n + m) * bytes ≤ 140737488355328)
    (h : ∀ g' o' cap' w', RowAt w' e size g' o' cap' (n + m) (xs ++ news) → Kept fp w w' → (g' ∈ fp ∨ g' = w.heap.size) → K (a.put o.dst (.slice (some ⟨g', o', none⟩) (n + m) cap')) w') :
    if Region.wanted o (yielded ops a.tmps) = true then Oper.wp P o a w K Q else E := by
  have hw : Region.wanted o (yielded ops a.tmps) = true := by simp [Region.wanted, hgd]
  rw [if_pos hw]
  obtain ⟨i0, hi0, hz0, hz1, hz2⟩ := info_parts hi
  obtain ⟨g', o', cap', w', hr, h2, h3, h4⟩ := run_append_rown (P := P) w t tx o.type e i0 z size bytes ht hi0 hz0 hz1 hz2 hzs n xs hrow xv m news hs hm h63 hbytes
  unfold Oper.wp execOp
  simp only [ho, resolve, invoke, builtin, Sem.run_bind, Sem.run_pure, Result.andThen_ok, List.map_toArray, List.map_cons, List.map_nil, hsv, hxv, hr]
  exact h g' o' cap' w' h2 h3 h4

end Go.Proofs.YtpidjmgapiekaaaGreatDoor
