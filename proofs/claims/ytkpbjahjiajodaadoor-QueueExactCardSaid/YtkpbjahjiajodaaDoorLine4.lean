/- This text proves what the line's methods compute, over the loaded program: a text is cut out of the row; taking and dropping. -/
import Derived.Test.YtkpbjahjiajodaaDoorLine3
namespace Go.Proofs.YtkpbjahjiajodaaDoor
open Go.RowKit Go.WideShapes

/-- append(s[:i], s[i+1:]...), as a step of a region that draws. -/
theorem step_append_cut {P : Program} {w : World} {ops : Array Oper} {o : Oper} {a : Act} {K : Act → World → Prop} {Q : Exit → Act → World → Prop} {E : Prop} (hgd : o.guard = none) (s x : Operand) (t : TypeId)
    (ho : o.op = .call { callee := .builtin .append, args := #[s, x], argTypes := #[t, t] })
    (e : TypeId) (z : Value) (size bytes : Nat) (ht : P.underlying t = some (.slice e)) (hi : (P.info? e).map (fun i => (i.zero, i.size, i.bytes)) = some (some z, size, bytes))
    (g off cap n k i : Nat) (hnk : n = k + 1) (xs : List Value) (hrow : RowAt w e size g off cap n xs) (h1 : ∀ u ∈ xs, u.oneCell' = true) (hin : i < n) (hs : a.eval s = .slice (some ⟨g, off, none⟩) i cap)
    (c' o' m : Nat) (hx : a.eval x = .slice (some ⟨g, o', none⟩) m c') (hm : m = n - (i + 1)) (ho' : n = i + 1 ∨ o' = off + (i + 1) * size)
    (h : ∀ w', RowAt w' e size g off cap k (xs.take (i * size) ++ xs.drop ((i + 1) * size)) → w.grownBy w' (some g) → K (a.put o.dst (.slice (some ⟨g, off, none⟩) k cap)) w') :
    if Region.wanted o (yielded ops a.tmps) = true then Oper.wp P o a w K Q else E := by
  have hw : Region.wanted o (yielded ops a.tmps) = true := by simp [Region.wanted, hgd]
  rw [if_pos hw]
  subst hm
  obtain ⟨i0, hi0, hz0, hz1, hz2⟩ := info_parts hi
  subst hz1
  obtain ⟨hl, hnc, hcm, cur, hb, hcs, hxs⟩ := id hrow
  have hnl : (xs.drop ((i + 1) * i0.size)).length = (n - (i + 1)) * i0.size := by rw [List.length_drop, hl, Nat.sub_mul]
  have hcap : n * i0.size ≤ cap * i0.size := Nat.mul_le_mul_right _ hnc
  have hin1 : (i + 1) * i0.size ≤ n * i0.size := Nat.mul_le_mul_right _ (by omega)
  have e1 : (n - (i + 1)) * i0.size = n * i0.size - (i + 1) * i0.size := Nat.sub_mul _ _ _
  have e2 : (i + 1) * i0.size = i * i0.size + i0.size := Nat.succ_mul _ _
  have e3 : n * i0.size = k * i0.size + i0.size := by rw [hnk, Nat.succ_mul]
  have hr := run_append_room_src (P := P) w t t o.type e i0 ht hi0 g off i cap (.slice (some ⟨g, o', none⟩) (n - (i + 1)) c') (n - (i + 1)) (xs.drop ((i + 1) * i0.size))
    (Src.ofSlice w ht ⟨g, o', none⟩ _ c' _ hnl (fun j u hj => by
      rcases ho' with hn | rfl
      · rw [hn] at hnl; simp at hnl
        have := (List.getElem?_eq_some_iff.1 hj).1
        simp at this; omega
      · rw [add_plain]
        rw [List.getElem?_drop] at hj
        have := hrow.cell _ u hj
        rw [show off + (i + 1) * i0.size + j = off + ((i + 1) * i0.size + j) by omega]
        exact this) (fun u hu => h1 u (List.mem_of_mem_drop hu))) (by omega)
    (fun j hj => by rw [hnl] at hj; simp only [World.cell?, hb]; rw [Array.getElem?_eq_getElem (by omega)]; rfl) (fun j hj => by simp [World.frozen?, hb])
  obtain ⟨cur', c1, c2, c3, c4⟩ := heap_setCells g (xs.drop ((i + 1) * i0.size)) (off + i * i0.size) w cur e hb (by omega)
  have hlt : (xs.take (i * i0.size)).length = i * i0.size := by rw [List.length_take]; omega
  have hK := h _ ⟨by rw [List.length_append, hlt, hnl]; omega, by omega, hcm, cur', c1, by omega, fun j v hj => by
      by_cases hjn : j < i * i0.size
      · rw [List.getElem?_append_left (by omega), List.getElem?_take, if_pos hjn] at hj
        rw [c4 _ (by omega)]
        exact hxs j v hj
      · rw [List.getElem?_append_right (by omega), hlt] at hj
        have := c3 _ v hj
        rw [show off + i * i0.size + (j - i * i0.size) = off + j by omega] at this
        exact this⟩ (grown_setCells g _ _ w)
  rw [show k = i + (n - (i + 1)) by omega] at hK
  unfold Oper.wp execOp
  simp only [ho, resolve, invoke, builtin, Sem.run_bind, Sem.run_pure, Result.andThen_ok, List.map_toArray, List.map_cons, List.map_nil, hs, hx, hr]
  exact hK

/-- clear of what is behind a row's elements. -/
theorem run_clear_tail {P : Program} (w : World) (t ty e : TypeId) (i : TypeInfo) (z : Value) (ht : P.underlying t = some (.slice e)) (hi : P.info? e = some i) (hz : i.zero = some z) (size : Nat) (hzs : z.cells.size = size) (hz1 : ∀ u ∈ z.cells.toList, u.oneCell' = true)
    (g off cap n c : Nat) (xs : List Value) (hrow : RowAt w e size g off cap n xs) (hn : n < cap) :
    ∃ w', (Builtin.clear_ #[t] ty #[.slice (some ⟨g, off + n * size, none⟩) 1 c]).run P w = .ok (.tuple #[]) w' ∧ RowAt w' e size g off cap n xs ∧ w.grownBy w' (some g) := by
  obtain ⟨hl, hnc, hcm, cur, hb, hcs, hxs⟩ := hrow
  have hc1 : (n + 1) * size ≤ cap * size := Nat.mul_le_mul_right _ (by omega)
  rw [Nat.succ_mul] at hc1
  have hzz : (Builtin.zeroCells z.cells 1).toList = z.cells.toList := by
    apply List.ext_getElem (by simp [Builtin.zeroCells])
    intro j h1 h2
    have hj : j < z.cells.size := by simpa using h2
    simp [Builtin.zeroCells, Nat.mod_eq_of_lt hj, hj]
  have hst := run_storeCells_cells (P := P) g (off + n * size) z.cells.toList 0 w (fun j hj => by
    simp only [World.cell?, hb]
    rw [Array.getElem?_eq_getElem (by rw [Array.length_toList, hzs] at hj; omega)]; rfl) (fun j hj => by simp [World.frozen?, hb]) hz1
  simp only [Nat.add_zero] at hst
  obtain ⟨cur', c1, c2, c3, c4⟩ := heap_setCells g z.cells.toList (off + n * size) w cur e hb (by rw [Array.length_toList, hzs]; omega)
  refine ⟨_, by simp [Builtin.clear_, run_underlying ht, zeroValue, typeInfo, hi, hz, hzz, hst], ⟨hl, by omega, hcm, cur', c1, by omega, fun j v hj => ?_⟩, grown_setCells g _ _ w⟩
  have hjl := (List.getElem?_eq_some_iff.1 hj).1
  rw [c4 _ (by omega)]
  exact hxs j v hj

section
variable {w : World} {lb : Nat} {gp : List Nat} {sv : Value} {L : Lin} {A : Nat → Addr}

theorem cells_erase (ts : List (ByteArray × ByteArray)) (i : Nat) : (textCells ts).take (i * 2) ++ (textCells ts).drop ((i + 1) * 2) = textCells (ts.eraseIdx i) := by
  rw [List.eraseIdx_eq_take_drop_succ, textCells_append, textCells_take, textCells_drop]

set_option maxRecDepth 100000 in
set_option maxHeartbeats 1600000 in
theorem delete_any {g o cap : Nat} {ts : List (ByteArray × ByteArray)} (k i : Nat) (hr : RowAt w 100 2 g o cap (k + 1) (textCells ts)) (hi : i ≤ k) (hn64 : k < 64) :
    Calls Tryd.prog 70 #[.slice (some ⟨g, o, none⟩) (k + 1) cap, .int .i64 i, .int .i64 ((i : Int) + 1)] w
      fun e w' => e = .returned (.slice (some ⟨g, o, none⟩) k cap) ∧ RowAt w' 100 2 g o cap k (textCells (ts.eraseIdx i)) ∧ Kept [g] w w' := by
  have hcap : k + 1 ≤ cap := hr.2.1
  have hcm : cap ≤ 9223372036854775807 := hr.2.2.1
  have R := Lib.hid hr
  clear hr
  have b1 : (0 : Int) ≤ (i : Int) := by omega
  have b2 : (i : Int) + 1 ≤ (k : Int) + 1 := by omega
  have b3 : (k : Int) + 1 ≤ (cap : Int) := by omega
  have t1 : ((i : Int) == (i : Int) + 1) = false := by simp; omega
  go_enter Tryd.func70, Tryd.ntmps70
  go_wp2_with fail
  have RW : Hid (RowAt w.drew 100 2 g o cap (k + 1) (textCells ts)) := Lib.hid (R.out.kept ((Kept.refl [] w).drew) (by simp))
  have c0 : (0 : Int) ≤ (i : Int) + 1 := by omega
  have c1 : i ≤ cap := by omega
  have c2 : i + 1 ≤ k + 1 := by omega
  have c4 : k < cap := by omega
  have c5 : k ≤ k + 1 := by omega
  have c6 : ¬ cap = k := by omega
  have fin : ∀ w1, RowAt w1 100 2 g o cap k ((textCells ts).take (i * 2) ++ (textCells ts).drop ((i + 1) * 2)) → w.drew.grownBy w1 (some g) →
      ∃ w2, (Builtin.clear_ #[95] 0 #[.slice (some ⟨g, o + k * 2, none⟩) 1 (cap - k)]).run Tryd.prog w1 = .ok (.tuple #[]) w2 ∧ Hid (RowAt w2 100 2 g o cap k (textCells (ts.eraseIdx i)) ∧ Kept [g] w w2) := fun w1 hr1 hg1 => by
    obtain ⟨i0, hi0, hz0, hz1, hz2⟩ := info_parts info100
    rw [cells_erase] at hr1
    obtain ⟨w2, h1, h2, h3⟩ := run_clear_tail (P := Tryd.prog) w1 95 0 100 i0 _ Tryd.underlying95 hi0 hz0 2 rfl (by decide) g o cap k (cap - k) _ hr1 (by omega)
    exact ⟨w2, h1, Lib.hid ⟨h2, ((Kept.refl [g] w).drew.trans (Kept.of_grown hg1) (fun y hy => .inl hy)).trans (Kept.of_grown h3) (fun y hy => .inl hy)⟩⟩
  have FIN := Lib.hid fin
  clear fin
  have hic : i + 1 = cap ∨ ¬ cap = i + 1 := by omega
  rcases hic with hic | hic
  · obtain rfl : i = k := by omega
    subst hic
    have c7 : (i : Int) ≤ (i : Int) + 1 := by omega
    go_region_law ((refine step_append_cut rfl _ _ 95 rfl 100 _ 2 32 Tryd.underlying95 info100 g o (i + 1) (i + 1) i i rfl _ RW.out (textCells_one _) (by omega) (by rfl) _ _ _ (by rfl) (by omega) (.inl rfl) ?_; intro w1 hr1 hg1))
    obtain ⟨w2, hcl, HF⟩ := FIN.out w1 hr1 hg1
    rw [Nat.add_sub_cancel_left] at hcl
    clear hr1 hg1
    go_wp2
    go_ret
    exact ⟨rfl, HF.out⟩
  · go_region_law ((refine step_append_cut rfl _ _ 95 rfl 100 _ 2 32 Tryd.underlying95 info100 g o cap (k + 1) k i rfl _ RW.out (textCells_one _) (by omega) (by rfl) _ _ _ (by rfl) (by omega) (.inr rfl) ?_; intro w1 hr1 hg1))
    obtain ⟨w2, hcl, HF⟩ := FIN.out w1 hr1 hg1
    clear hr1 hg1
    go_wp2
    go_ret
    exact ⟨rfl, HF.out⟩
end

end Go.Proofs.YtkpbjahjiajodaaDoor
