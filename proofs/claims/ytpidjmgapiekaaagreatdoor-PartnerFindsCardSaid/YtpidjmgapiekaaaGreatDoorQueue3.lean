/- This text proves what the queue's methods compute that forget, list, close and put right, over the loaded program. -/
import Derived.Test.YtpidjmgapiekaaaGreatDoorQueue2
import Derived.Deep.RegionHeld3
import Derived.Deep.QuietTactic
import Derived.Deep.LoopGhost
namespace Go.Proofs.YtpidjmgapiekaaaGreatDoor
open Go.RowKit Go.WideShapes

theorem max2_int (k k' : IntKind) (x y : Int) : Builtin.max2 (.int k x) (.int k' y) = pure (.int k (if x < y then y else x)) := by simp only [Builtin.max2, gt_iff_lt]
theorem min2_int (k k' : IntKind) (x y : Int) : Builtin.min2 (.int k x) (.int k' y) = pure (.int k (if y < x then y else x)) := by simp only [Builtin.min2]
theorem max_two (ats : Array TypeId) (ty : TypeId) (a b : Value) : Builtin.max_ ats ty #[a, b] = (Builtin.max2 a b >>= fun s => pure s) := by simp only [Builtin.max_, List.foldlM_cons, List.foldlM_nil]
theorem min_two (ats : Array TypeId) (ty : TypeId) (a b : Value) : Builtin.min_ ats ty #[a, b] = (Builtin.min2 a b >>= fun s => pure s) := by simp only [Builtin.min_, List.foldlM_cons, List.foldlM_nil]
attribute [local go_sem] max2_int min2_int max_two min_two

section
variable {w : World} {qb m g o cap n : Nat} {q : Que}

/-- Forget. -/
def Que.forget (q : Que) (k : Nat) : Que := { q with first := q.first + k, xs := q.xs.drop k }

theorem RowAt.drop {w : World} {e : TypeId} {g o cap n k : Nat} {xs : List Value} (h : RowAt w e 1 g o cap n xs) (hk : k ≤ n) : RowAt w e 1 g (o + k) (cap - k) (n - k) (xs.drop k) := by
  obtain ⟨h1, h2, h3, cur, hb, hs, hx⟩ := h
  refine ⟨by rw [List.length_drop, h1]; omega, by omega, by omega, cur, hb, by omega, fun i v hi => ?_⟩
  rw [List.getElem?_drop] at hi
  have := hx (k + i) v hi
  rw [show o + k + i = o + (k + i) by omega]
  exact this

theorem RowAt.take {w : World} {e : TypeId} {g o cap n k : Nat} {xs : List Value} (h : RowAt w e 1 g o cap n xs) (hk : k ≤ n) : RowAt w e 1 g o cap k (xs.take k) := by
  obtain ⟨h1, h2, h3, cur, hb, hs, hx⟩ := h
  refine ⟨by rw [List.length_take, h1]; omega, by omega, by omega, cur, hb, by omega, fun i v hi => ?_⟩
  rw [List.getElem?_take] at hi
  split at hi
  · exact hx i v hi
  · cases hi

theorem QAt.cut (H : QAt w qb m g o cap n q) {o' cap' l : Nat} {xs' : List Int} (hl : xs'.length = l) (hrow : RowAt w 3 1 g o' cap' l (xs'.map (Value.int .i64))) :
    QAt (w.setCell ⟨qb, 1, none⟩ (.slice (some ⟨g, o', none⟩) l cap')) qb m g o' cap' n { q with xs := xs' } := by
  subst hl
  exact ⟨by rw [heap_setCell_at H.cell]; rfl, hrow.kept (Kept.setCell w qb 1 _) (by simpa using H.ne_row.symm), H.map.kept (Kept.setCell w qb 1 _) (by simpa using H.ne_map.symm)⟩
theorem QAt.setFirst (H : QAt w qb m g o cap n q) (v : Int) : QAt (w.setCell ⟨qb, 0, none⟩ (.int .i64 v)) qb m g o cap n { q with first := v } :=
  ⟨by rw [heap_setCell_at H.cell]; rfl, H.row.kept (Kept.setCell w qb 0 _) (by simpa using H.ne_row.symm), H.map.kept (Kept.setCell w qb 0 _) (by simpa using H.ne_map.symm)⟩
theorem QAt.setClosed (H : QAt w qb m g o cap n q) (v : Bool) : QAt (w.setCell ⟨qb, 4, none⟩ (.bool v)) qb m g o cap n { q with closed := v } :=
  ⟨by rw [heap_setCell_at H.cell]; rfl, H.row.kept (Kept.setCell w qb 4 _) (by simpa using H.ne_row.symm), H.map.kept (Kept.setCell w qb 4 _) (by simpa using H.ne_map.symm)⟩
theorem QAt.setFin (H : QAt w qb m g o cap n q) (v : Int) : QAt (w.setCell ⟨qb, 5, none⟩ (.int .i64 v)) qb m g o cap n { q with fin := v } :=
  ⟨by rw [heap_setCell_at H.cell]; rfl, H.row.kept (Kept.setCell w qb 5 _) (by simpa using H.ne_row.symm), H.map.kept (Kept.setCell w qb 5 _) (by simpa using H.ne_map.symm)⟩

def DoneF (w : World) (qb m g n : Nat) (q : Que) (e : Ending) (w' : World) : Prop :=
  e = .returned (.tuple #[]) ∧ ∃ o' cap', QAt w' qb m g o' cap' n q ∧ Kept [qb] w w'

set_option maxRecDepth 100000 in
set_option maxHeartbeats 1600000 in
theorem forget_none (h : QAt w qb m g o cap n q) (f : Int) (hf : f ≤ q.first ∨ q.xs.length = 0) :
    Calls Tryz.prog 132 #[.pointer (some ⟨qb, 0, none⟩), .int .i64 f] w (DoneF w qb m g n q) := by
  have c0 := h.c0
  have c1 := h.c1
  have H := Lib.hid h
  obtain ⟨fst, hfst⟩ : ∃ x, q.first = x := ⟨_, rfl⟩
  obtain ⟨l, hl⟩ : ∃ x, q.xs.length = x := ⟨_, rfl⟩
  rw [hfst] at c0 hf
  rw [hl] at c1 hf
  clear h hfst hl
  by_cases h1 : f ≤ fst
  · clear hf
    go_enter Tryz.func132, Tryz.ntmps132
    go_wp2
    refine bodyPost_ret (results_none rfl _ _ _) rfl ?_
    exact ⟨rfl, o, cap, H.out, Kept.refl _ _⟩
  · obtain rfl : l = 0 := by omega
    have t1 : decide (f ≤ fst) = false := by simp; omega
    clear hf
    go_enter Tryz.func132, Tryz.ntmps132
    go_wp2
    refine bodyPost_ret (results_none rfl _ _ _) rfl ?_
    exact ⟨rfl, o, cap, H.out, Kept.refl _ _⟩

set_option maxRecDepth 100000 in
set_option maxHeartbeats 1600000 in
theorem forget_some (h : QAt w qb m g o cap n q) (hok : q.ok) (f : Int) (hf : q.first < f) (hf2 : f ≤ 9223372036854775807) (hl : 0 < q.xs.length) (k : Nat) (hk : (k : Int) = if (q.xs.length : Int) - 1 < f - q.first then (q.xs.length : Int) - 1 else f - q.first) :
    Calls Tryz.prog 132 #[.pointer (some ⟨qb, 0, none⟩), .int .i64 f] w (DoneF w qb m g n (q.forget k)) := by
  obtain ⟨h1, h2, h3⟩ := hok
  have c0 := h.c0
  have c1 := h.c1
  have f0 := h.f 0
  have f1 := h.f 1
  have H := Lib.hid h
  have hcap : q.xs.length ≤ cap := h.row.2.1
  obtain ⟨fst, hfst⟩ : ∃ x, q.first = x := ⟨_, rfl⟩
  obtain ⟨l, hl'⟩ : ∃ x, q.xs.length = x := ⟨_, rfl⟩
  rw [hfst] at c0 hf hk h1 h2
  rw [hl'] at c1 hl hk h2 h3 hcap
  have FST := Lib.hid hfst
  have LEN := Lib.hid hl'
  have t1 : decide (f ≤ fst) = false := by simp; omega
  have t2 : ((l : Int) == 0) = false := by simp; omega
  have hkl : k < l := by split at hk <;> omega
  have hki : (k : Int) ≤ (l : Int) := by omega
  have hki2 : (0 : Int) ≤ (k : Int) := by omega
  have K := hk.symm
  clear h hfst hl' hk
  go_enter Tryz.func132, Tryz.ntmps132
  go_wp2_with fail
  go_quiet (fail)
  go_wp2
  go_end0
  have hq := H.out.kept (Kept.drewN [] w nq) (by simp) (by simp) (by simp)
  have hr := hq.row.drop (k := k) (by rw [LEN.out]; omega)
  rw [LEN.out, ← List.map_drop] at hr
  refine ⟨rfl, o + k, cap - k, ?_, ?_⟩
  · have := (hq.cut (l := l - k) (by rw [List.length_drop, LEN.out]) hr).setFirst (fst + k)
    rw [← FST.out] at this ⊢
    exact this
  · exact ((Kept.drewN [qb] w nq).trans (Kept.setCell _ qb 1 _) (fun y hy => .inl hy)).trans (Kept.setCell _ qb 0 _) (fun y hy => .inl hy)

theorem not_nil (a : Addr) (l c : Nat) (w : World) : (binOp .eql 49 (.slice (some a) l c) (.slice none 0 0)).run Tryz.prog w = .ok (.bool false) w := by kernel_rfl

theorem src_cells {P : Program} {w : World} {a : Addr} {xs : List Value} (h : Cells w (some a) xs) (h1 : ∀ u ∈ xs, u.oneCell' = true) {t e : TypeId} (hk : P.underlying t = some (.slice e)) (l c : Nat) (hl : xs.length = l) : Src P 1 t (.slice (some a) l c) l xs w :=
  Src.ofSlice w hk a l c xs (by rw [hl, Nat.mul_one]) (fun j u hj => by
    obtain ⟨b, o, e, hc⟩ := h j u hj
    cases e
    rw [add_plain]
    exact hc) h1

theorem int_one (k : IntKind) (l : List Int) : ∀ u ∈ l.map (Value.int k), u.oneCell' = true := by
  intro u hu
  obtain ⟨x, _, rfl⟩ := List.mem_map.1 hu
  rfl

/-- What a call hands back that clones. -/
def Cloned (w : World) (xs : List Value) (e : Ending) (w' : World) : Prop := ∃ A c, e = .returned (.slice A xs.length c) ∧ Cells w' A xs ∧ Below w.heap.size w w' ∧ xs.length ≤ c ∧ c ≤ maxLen

set_option maxRecDepth 100000 in
set_option maxHeartbeats 1600000 in
theorem clone_any (a : Addr) (c l : Nat) (xs : List Int) (w : World) (hl' : xs.length = l) (hl : l ≤ 1000000) (hA : Cells w (some a) (xs.map (Value.int .i64))) :
    Calls Tryz.prog 154 #[.slice (some a) l c] w (Cloned w (xs.map (Value.int .i64))) := by
  have LEN := Lib.hid hl'
  clear hl'
  have hnn := not_nil a l c
  have hA' : Cells (w.alloc (.cells #[] 3)) (some a) (xs.map (Value.int .i64)) := hA.below ((Below.refl _ _).alloc (Nat.le_refl _) _)
  have hrow : RowAt (w.alloc (.cells #[] 3)) 3 1 w.heap.size 0 0 0 [] := ⟨rfl, Nat.le_refl _, by simp [maxLen], #[], heap_alloc_new w _, by simp, fun i v h => by simp at h⟩
  have SRC : Hid (Src Tryz.prog 1 49 (.slice (some a) l c) l (xs.map (Value.int .i64)) (w.alloc (.cells #[] 3))) := Lib.hid (src_cells hA' (int_one _ _) Tryz.underlying49 l c (by rw [List.length_map]; exact LEN.out))
  have ROW := Lib.hid hrow
  clear hA hA' hrow
  go_enter Tryz.func154, Tryz.ntmps154
  go_wp2_with (first
    | (at_builtin; refine wpList_append_at rfl _ _ 49 49 rfl 3 (.int .i64 0) 1 8 Tryz.underlying49 info3 rfl w.heap.size 0 0 0 [] rfl ROW.out _ rfl l _ SRC.out (by simp [maxLen]; omega) (by omega) ?_; intro g' o' cap' w' hrow' hgr hgg)
    | fail)
  go_ret
  try rw [Nat.zero_add] at hrow'
  refine ⟨some ⟨g', o', none⟩, cap', by rw [List.length_map, LEN.out]; rfl, by simpa using hrow'.cells, ?_, by rw [List.length_map, LEN.out]; exact hrow'.2.1, hrow'.2.2.1⟩
  exact ((Below.refl w.heap.size w).alloc (Nat.le_refl _) (.cells #[] 3)).grown hgr ((Kept.alloc w (.cells #[] 3)).size) (fun k hk => by cases hk; exact Nat.le_refl _)

/-- List. -/
theorem list_any (h : QAt w qb m g o cap n q) (hok : q.ok) (f : Int) (hf2 : f ≤ 9223372036854775807) (k : Nat)
    (hk : (k : Int) = if (q.xs.length : Int) < (if f < q.first then q.first else f) - q.first then (q.xs.length : Int) else (if f < q.first then q.first else f) - q.first) :
    Calls Tryz.prog 128 #[.pointer (some ⟨qb, 0, none⟩), .int .i64 f] w (Cloned w ((q.xs.map (Value.int .i64)).drop k)) := by
  obtain ⟨h1, h2, h3⟩ := hok
  have c0 := h.c0
  have c1 := h.c1
  have H := Lib.hid h
  have hcap : q.xs.length ≤ cap := h.row.2.1
  obtain ⟨fst, hfst⟩ : ∃ x, q.first = x := ⟨_, rfl⟩
  obtain ⟨l, hl'⟩ : ∃ x, q.xs.length = x := ⟨_, rfl⟩
  rw [hfst] at c0 hk h1 h2
  rw [hl'] at c1 hk h2 h3 hcap
  have LEN := Lib.hid hl'
  obtain ⟨e, he⟩ : ∃ e, (if f < fst then fst else f) = e := ⟨_, rfl⟩
  rw [he] at hk
  have he2 : fst ≤ e ∧ e ≤ 9223372036854775807 := by split at he <;> omega
  obtain ⟨he3, he4⟩ := he2
  have hkl : k ≤ l := by split at hk <;> omega
  have hki : (k : Int) ≤ (l : Int) := by omega
  have hki2 : (0 : Int) ≤ (k : Int) := by omega
  have K := hk.symm
  clear h hfst hl' hk
  go_enter Tryz.func128, Tryz.ntmps128
  go_wp2_with fail
  go_quiet (fail)
  go_wp2_with fail
  · have hc : cap = k := by assumption
    have hlk : l = k := by omega
    have e0 : q.xs.drop k = [] := List.drop_eq_nil_of_le (by rw [LEN.out]; omega)
    refine (clone_any _ _ _ (q.xs.drop k) _ (by rw [List.length_drop, LEN.out]) (by omega) (by rw [e0]; exact Cells.nil _ _)).mono ?_
    rintro e w1 ⟨A, c', rfl, hC, hB, hc1, hc2⟩
    go_wp2
    go_ret
    rw [← List.map_drop]
    exact ⟨A, c', by rw [e0]; rfl, hC, ⟨hB.os, hB.tape, hB.output, hB.size, hB.block⟩, hc1, hc2⟩
  · have hr := (H.out.row.drop (k := k) (by rw [LEN.out]; omega)).cells
    rw [← List.map_drop] at hr
    refine (clone_any _ _ _ (q.xs.drop k) (w.drewN nq) (by rw [List.length_drop, LEN.out]) (by omega) hr).mono ?_
    rintro e w1 ⟨A, c', rfl, hC, hB, hc1, hc2⟩
    go_wp2
    go_ret
    rw [← List.map_drop]
    exact ⟨A, c', by rw [List.length_map, List.length_drop]; rfl, hC, ⟨hB.os, hB.tape, hB.output, hB.size, hB.block⟩, hc1, hc2⟩

/-- Right. -/
def Que.right (q : Que) : Que := { q with wrong := 0, g := fun _ => none }

theorem clear_map {w : World} {m n : Nat} {G : Int → Option Int} (h : MapIs w m n G) (ty : TypeId) :
    ∃ w', (Builtin.clear_ #[156] ty #[.map (some m)]).run Tryz.prog w = .ok (.tuple #[]) w' ∧ MapIs w' m 0 (fun _ => none) ∧ Kept [m] w w' := by
  obtain ⟨D, ⟨es, clock, hb, F, hs, hD⟩, hG⟩ := h
  refine ⟨_, by simp [Builtin.clear_, run_underlying Tryz.underlying156, MapKept.run_getObj_map hb, MapKept.run_setObj_map _ hb, Result.andThen]; rfl, ⟨.map [], ⟨#[], _, (MapKept.heap_set hb).1, ⟨by simp, MapKept.stamped_empty _, by simp⟩, Nat.le_refl _, rfl⟩, fun _ _ => ⟨rfl, rfl⟩⟩, ?_⟩
  exact ⟨rfl, rfl, rfl, by simp, fun k _ hk => (MapKept.heap_set hb).2 k (by simpa using hk) ⟩

set_option maxRecDepth 100000 in
theorem right_any (h : QAt w qb m g o cap n q) : Calls Tryz.prog 131 #[.pointer (some ⟨qb, 0, none⟩)] w (fun e w' => e = .returned (.tuple #[]) ∧ QAt w' qb m g o cap 0 q.right ∧ Kept [qb, m] w w') := by
  have c2 := h.c2
  have c3 := h.c3
  have f3 := h.f 3
  have h1 := h.setWrong 0
  obtain ⟨w', hrun, hm, hk⟩ := clear_map h1.map 0
  have hk1 := Kept.setCell w qb 3 (.int .i64 0)
  have HQ : Hid (QAt w' qb m g o cap 0 q.right ∧ Kept [qb, m] w w') := Lib.hid ⟨⟨(hk.block qb h1.lt (by simpa using h1.ne_map)).trans h1.cell, h1.row.kept hk (by simpa using h1.row_ne_map), hm⟩,
    (hk1.mono (fun y hy => .inl (by simp at hy; simp [hy]))).trans hk (fun y hy => .inl (by simp at hy; simp [hy]))⟩
  clear h h1 hm hk hk1
  go_enter Tryz.func131, Tryz.ntmps131
  go_wp2
  go_end0
  exact ⟨rfl, HQ.out.1, HQ.out.2⟩

end

end Go.Proofs.YtpidjmgapiekaaaGreatDoor
