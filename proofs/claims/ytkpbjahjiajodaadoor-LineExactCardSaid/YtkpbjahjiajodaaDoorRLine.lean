/- This text proves what the reference's line computes, over the loaded program: the same as the line, in blocks of its own types. -/
import Derived.Test.YtkpbjahjiajodaaDoorLCounts
namespace Go.Proofs.YtkpbjahjiajodaaDoor
open Go.RowKit Go.WideShapes

theorem info79 : (Tryd.prog.info? 79).map (fun i => (i.zero, i.size, i.bytes)) = some (some (.agg #[.string ByteArray.empty, .string ByteArray.empty]), 2, 32) := by kernel_rfl

/-- A slice that owns a row of a type, or nil. -/
def RowO (w : World) (e : TypeId) (size : Nat) (sv : Value) (n : Nat) (xs : List Value) : Prop :=
  (sv = .slice none 0 0 ∧ n = 0 ∧ xs = []) ∨ ∃ g o cap, sv = .slice (some ⟨g, o, none⟩) n cap ∧ RowAt w e size g o cap n xs

/-- Block rb is the reference's line. -/
structure RAt (w : World) (rb : Nat) (sv : Value) (L : Lin) : Prop where
  cell : w.heap[rb]? = some (.cells (L.cells sv) 77 (0, 0))
  row : RowO w 79 2 sv L.ts.length (textCells L.ts)

section
variable {w : World} {rb : Nat} {sv : Value} {L : Lin}
theorem RAt.lt (h : RAt w rb sv L) : rb < w.heap.size := (Array.getElem?_eq_some_iff.1 h.cell).1
theorem RAt.at0 (h : RAt w rb sv L) : w.cell? ⟨rb, 0, none⟩ = some (.int .i64 L.most) := by simp [World.cell?, h.cell, Lin.cells]
theorem RAt.at1 (h : RAt w rb sv L) : w.cell? ⟨rb, 1, none⟩ = some sv := by simp [World.cell?, h.cell, Lin.cells]
theorem RAt.at2 (h : RAt w rb sv L) : w.cell? ⟨rb, 2, none⟩ = some (.int .i64 L.c0) := by simp [World.cell?, h.cell, Lin.cells]
theorem RAt.at3 (h : RAt w rb sv L) : w.cell? ⟨rb, 3, none⟩ = some (.int .i64 L.c1) := by simp [World.cell?, h.cell, Lin.cells]
theorem RAt.at4 (h : RAt w rb sv L) : w.cell? ⟨rb, 4, none⟩ = some (.int .i64 L.c2) := by simp [World.cell?, h.cell, Lin.cells]
theorem RAt.at5 (h : RAt w rb sv L) : w.cell? ⟨rb, 5, none⟩ = some (.int .i64 L.c3) := by simp [World.cell?, h.cell, Lin.cells]
theorem RAt.at6 (h : RAt w rb sv L) : w.cell? ⟨rb, 6, none⟩ = some (.int .i64 L.c4) := by simp [World.cell?, h.cell, Lin.cells]
theorem RAt.at7 (h : RAt w rb sv L) : w.cell? ⟨rb, 7, none⟩ = some (.int .i64 L.c5) := by simp [World.cell?, h.cell, Lin.cells]
theorem RAt.f (h : RAt w rb sv L) (i : Nat) : w.frozen? ⟨rb, i, none⟩ = false := by simp [World.frozen?, h.cell]
theorem RowO.same {w' : World} {e : TypeId} {size n : Nat} {xs : List Value} (h : RowO w e size sv n xs) (hs : ∀ (g : Nat) (cur : Array Value), w.heap[g]? = some (Obj.cells cur e (0, 0)) → w'.heap[g]? = w.heap[g]?) : RowO w' e size sv n xs := by
  rcases h with h | ⟨g, o, cap, h1, h2⟩
  · exact .inl h
  · obtain ⟨_, _, _, cur, hb, _⟩ := id h2
    exact .inr ⟨g, o, cap, h1, h2.of_block (hs g cur hb)⟩
theorem RowO.slice {e : TypeId} {size n : Nat} {xs : List Value} (h : RowO w e size sv n xs) : ∃ A cap, sv = .slice A n cap ∧ n ≤ cap ∧ cap ≤ maxLen ∧ Cells w A xs := by
  rcases h with ⟨rfl, rfl, rfl⟩ | ⟨g, o, cap, rfl, h3⟩
  · exact ⟨none, 0, rfl, Nat.le_refl _, by simp [maxLen], Cells.nil _ _⟩
  · exact ⟨_, cap, rfl, h3.2.1, h3.2.2.1, h3.cells⟩
theorem RAt.same {w' : World} (h : RAt w rb sv L) (hs : ∀ (g : Nat) (cur : Array Value) (T : TypeId), (T = 77 ∨ T = 79) → w.heap[g]? = some (Obj.cells cur T (0, 0)) → w'.heap[g]? = w.heap[g]?) : RAt w' rb sv L :=
  ⟨(hs rb _ 77 (.inl rfl) h.cell).trans h.cell, h.row.same (fun g cur hb => hs g cur 79 (.inr rfl) hb)⟩
theorem RAt.below {w' : World} (h : RAt w rb sv L) (hb : Below w.heap.size w w') : RAt w' rb sv L := h.same fun _ _ _ _ hc => hb.block _ (Array.getElem?_eq_some_iff.1 hc).1
theorem RAt.frame {w' : World} (h : RAt w rb sv L) (hf : FrameT w w') : RAt w' rb sv L := h.same fun g cur T hT hc => hf g (Array.getElem?_eq_some_iff.1 hc).1 (fun C hC => by have := hc.symm.trans hC; rcases hT with rfl | rfl <;> simp at this) (fun C hC => by have := hc.symm.trans hC; rcases hT with rfl | rfl <;> simp at this)
/-- One of its cells is turned. -/
theorem RAt.setCell (h : RAt w rb sv L) (i : Nat) (v : Value) {L' : Lin} {sv' : Value} (hc : (L.cells sv).setIfInBounds i v = L'.cells sv') (hr : RowO w 79 2 sv' L'.ts.length (textCells L'.ts)) : RAt (w.setCell ⟨rb, i, none⟩ v) rb sv' L' :=
  ⟨by rw [heap_setCell_of h.cell, hc], hr.same fun g cur hb => (Kept.setCell w rb i v).block g (Array.getElem?_eq_some_iff.1 hb).1 (by simp; rintro rfl; have := hb.symm.trans h.cell; simp at this)⟩
end

/-- What a call of the reference's line leaves. -/
def RDone (w : World) (rb : Nat) (L' : Lin) (v : Value) (e : Ending) (w' : World) : Prop := e = .returned v ∧ ∃ sv', RAt w' rb sv' L' ∧ Kept [rb] w w'

theorem rnew_any (m : Int) (w : World) (h1 : 1 ≤ m) (h2 : m ≤ 64) :
    Calls Tryd.prog 38 #[.int .i64 m] w fun e w' => e = .returned (.pointer (some ⟨w.heap.size, 0, none⟩)) ∧ RAt w' w.heap.size (.slice none 0 0) (Lin.new m) ∧ Below w.heap.size w w' := by
  have t1 : decide (m < 1) = false := by simp; omega
  have t2 : decide (64 < m) = false := by simp; omega
  go_enter Tryd.func38, Tryd.ntmps38
  go_wp2_with fail
  go_ret
  refine ⟨rfl, ⟨?_, .inl ⟨rfl, rfl, rfl⟩⟩, (Below.refl _ _).alloc (Nat.le_refl _) _⟩
  rw [heap_alloc_new]
  rfl
theorem rnew_none (m : Int) (w : World) (h : m < 1 ∨ 64 < m) : Calls Tryd.prog 38 #[.int .i64 m] w fun e w' => e = .returned (.pointer none) ∧ w = w' := by
  go_enter Tryd.func38, Tryd.ntmps38
  go_wp2_with fail
  all_goals go_ret
  all_goals exact ⟨rfl, rfl⟩

section
variable {w : World} {rb : Nat} {sv : Value} {L : Lin}

theorem rhas_yes (h : RAt w rb sv L) (i : Int) (hi : L.has i) : Calls Tryd.prog 66 #[.pointer (some ⟨rb, 0, none⟩), .int .i64 i] w fun e w' => e = .returned (.bool true) ∧ w = w' := by
  obtain ⟨A, cap, rfl, hl1, hl2, _⟩ := h.row.slice
  have c1 := h.at1
  obtain ⟨h1, h2⟩ := hi
  obtain ⟨l, hl⟩ : ∃ l, L.ts.length = l := ⟨_, rfl⟩
  rw [hl] at c1 h2
  have q2 : decide (i < (l : Int)) = true := by simpa using h2
  clear h hl hl1 hl2
  go_enter Tryd.func66, Tryd.ntmps66
  go_wp2
  go_ret
  exact ⟨rfl, rfl⟩
theorem rhas_no (h : RAt w rb sv L) (i : Int) (hi : ¬ L.has i) : Calls Tryd.prog 66 #[.pointer (some ⟨rb, 0, none⟩), .int .i64 i] w fun e w' => e = .returned (.bool false) ∧ w = w' := by
  obtain ⟨A, cap, rfl, hl1, hl2, _⟩ := h.row.slice
  have c1 := h.at1
  have hn := not_has hi
  obtain ⟨l, hl⟩ : ∃ l, L.ts.length = l := ⟨_, rfl⟩
  rw [hl] at c1 hn
  clear h hl hi hl1 hl2
  by_cases h0 : i < 0
  · have q : decide (0 ≤ i) = false := by simp; omega
    clear h0 hn
    go_enter Tryd.func66, Tryd.ntmps66
    go_wp2
    go_ret
    exact ⟨rfl, rfl⟩
  · have q : (0 : Int) ≤ i := by omega
    have q2 : decide (i < (l : Int)) = false := by simp; omega
    clear h0 hn
    go_enter Tryd.func66, Tryd.ntmps66
    go_wp2
    go_ret
    exact ⟨rfl, rfl⟩

set_option maxRecDepth 100000 in
set_option maxHeartbeats 1600000 in
theorem radd_full (h : RAt w rb sv L) (hok : L.ok) (s t : ByteArray) (n : Int) (hf : L.most ≤ L.ts.length) :
    Calls Tryd.prog 65 #[.pointer (some ⟨rb, 0, none⟩), .agg #[.string s, .string t], .int .i64 n] w (RDone w rb L.full (.int .i64 6)) := by
  obtain ⟨A, cap, hsv, hl1, hl2, _⟩ := h.row.slice
  obtain ⟨W, hW⟩ : ∃ W, W = w.alloc (.cells #[.string s, .string t] 79) := ⟨_, rfl⟩
  have hA : RAt W rb sv L := by rw [hW]; exact h.below ((Below.refl _ _).alloc (Nat.le_refl _) _)
  subst hsv
  obtain ⟨l, hl⟩ : ∃ l, L.ts.length = l := ⟨_, rfl⟩
  rw [hl] at hA hf
  have c0 := hA.at0
  have c1 := hA.at1
  obtain ⟨_, _, hk1, hk2, _, _, _, _, _, _, _, _, hk3, _⟩ := hok
  rw [hl] at hk3
  obtain ⟨m, hm⟩ : ∃ m, L.most = m := ⟨_, rfl⟩
  obtain ⟨cc, hcc⟩ : ∃ m, L.c1 = m := ⟨_, rfl⟩
  rw [hm] at c0 hf
  rw [hcc] at hk1 hk2
  have CC := Lib.hid hcc
  have H := Lib.hid hA
  have HW := Lib.hid hW
  have hB : Below w.heap.size w W := by rw [hW]; exact (Below.refl _ _).alloc (Nat.le_refl _) _
  have BW := Lib.hid hB
  clear h hA hl hm hcc hW hB
  go_enter Tryd.func65, Tryd.ntmps65
  go_wp2_with fail
  rw [← HW.out]
  go_quiet (fail)
  go_wp2_with fail
  obtain ⟨V, hV⟩ : ∃ V, V = W.drewN nq := ⟨_, rfl⟩
  rw [← hV]
  have HV : RAt V rb (.slice A l cap) L := by rw [hV]; exact H.out.below ⟨rfl, rfl, rfl, Nat.le_refl _, fun _ _ => rfl⟩
  have KV : Hid (Kept [rb] w V) := Lib.hid (by rw [hV]; exact (Kept.of_below BW.out).trans (Kept.drewN [] W nq) (by simp))
  have c3 := HV.at3
  have f3 := HV.f 3
  rw [CC.out] at c3
  have e1 : IntKind.i64.wrap (cc + 1) = cc + 1 := IntWalk.i64_in _ (by omega)
  clear hV c0 c1
  go_still_tail 9, (by kernel_rfl)
  have F : Hid (RDone w rb L.full (.int .i64 6) (.returned (.int .i64 6)) ((V.setCell ⟨rb, 3, none⟩ (.int .i64 (cc + 1))).drew)) := Lib.hid
    ⟨rfl, .slice A l cap, (HV.setCell 3 (.int .i64 (cc + 1)) (L' := L.full) (by rw [← CC.out]; rfl) HV.row).below ⟨rfl, rfl, rfl, Nat.le_refl _, fun _ _ => rfl⟩, (KV.out.trans (Kept.setCell V rb 3 _) (by simp)).drew⟩
  go_wp2
  go_ret
  exact F.out

/-- A slice that is a row's, or nil: what it yields where it is appended. -/
theorem RowO.src {T t : TypeId} {n : Nat} {xs : List Value} (h : RowO w T 2 sv n xs) (h1 : ∀ u ∈ xs, u.oneCell' = true) (ht : Tryd.prog.underlying t = some (.slice T)) : Src Tryd.prog 2 t sv n xs w := by
  rcases h with ⟨rfl, rfl, rfl⟩ | ⟨g, o, cap, rfl, hr⟩
  · exact Src.ofNil w ht 0
  · exact Src.ofSlice w ht _ n cap xs hr.1 (fun j u hj => by rw [add_plain]; exact hr.cell j u hj) h1
theorem RowAt.empty (w : World) (T : TypeId) (size : Nat) : RowAt (w.alloc (.cells #[] T)) T size w.heap.size 0 0 0 [] :=
  ⟨by simp, Nat.le_refl _, by simp [maxLen], #[], heap_alloc_new w _, by simp, fun i v h => by simp at h⟩

/-- append onto a row, as a step of a region that draws. -/
theorem step_append_at {P : Program} {w : World} {ops : Array Oper} {o : Oper} {a : Act} {K : Act → World → Prop} {Q : Exit → Act → World → Prop} {E : Prop} (hgd : o.guard = none) (s x : Operand) (t tx : TypeId)
    (ho : o.op = .call { callee := .builtin .append, args := #[s, x], argTypes := #[t, tx] })
    (e : TypeId) (z : Value) (size bytes : Nat) (ht : P.underlying t = some (.slice e)) (hi : (P.info? e).map (fun i => (i.zero, i.size, i.bytes)) = some (some z, size, bytes)) (hzs : z.cells.size = size)
    (g off cap n : Nat) (xs : List Value) (hsv : a.eval s = .slice (some ⟨g, off, none⟩) n cap) (hrow : RowAt w e size g off cap n xs) (xv : Value) (hxv : a.eval x = xv) (m : Nat) (news : List Value) (hs : Src P size tx xv m news w)
    (h63 : n + m ≤ maxLen) (hbytes : (n + m) * bytes ≤ 140737488355328)
    (h : ∀ g' o' cap' w', RowAt w' e size g' o' cap' (n + m) (xs ++ news) → w.grownBy w' (some g) → (g' = g ∨ g' = w.heap.size) → K (a.put o.dst (.slice (some ⟨g', o', none⟩) (n + m) cap')) w') :
    if Region.wanted o (yielded ops a.tmps) = true then Oper.wp P o a w K Q else E := by
  have hw : Region.wanted o (yielded ops a.tmps) = true := by simp [Region.wanted, hgd]
  rw [if_pos hw]
  obtain ⟨i0, hi0, hz0, hz1, hz2⟩ := info_parts hi
  obtain ⟨g', o', cap', w', hr, h2, h3, h4⟩ := run_append_at (P := P) w t tx o.type e i0 z size bytes ht hi0 hz0 hz1 hz2 hzs g off cap n xs hrow xv m news hs h63 hbytes
  unfold Oper.wp execOp
  simp only [ho, resolve, invoke, builtin, Sem.run_bind, Sem.run_pure, Result.andThen_ok, List.map_toArray, List.map_cons, List.map_nil, hsv, hxv, hr]
  exact h g' o' cap' w' h2 h3 h4
end

end Go.Proofs.YtkpbjahjiajodaaDoor
