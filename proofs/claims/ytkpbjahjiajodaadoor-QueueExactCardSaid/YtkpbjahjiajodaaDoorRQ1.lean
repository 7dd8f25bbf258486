/- This text proves what the reference's queue computes, over the loaded program: its small methods. -/
import Derived.Test.YtkpbjahjiajodaaDoorQueue4
import Derived.Test.YtkpbjahjiajodaaDoorQAwake
import Derived.Test.YtkpbjahjiajodaaDoorRowN
namespace Go.Proofs.YtkpbjahjiajodaaDoor
open Go.RowKit Go.WideShapes

theorem info112 : (Tryd.prog.info? 112).map (fun i => (i.zero, i.size, i.bytes)) = some (some (.agg #[.int .i64 0, .int .i64 0]), 2, 16) := by kernel_rfl

/-- The guesses, laid out. -/
def gCells : List (Int × Int) → List Value
  | [] => []
  | p :: r => .int .i64 p.1 :: .int .i64 p.2 :: gCells r
theorem gCells_len (l : List (Int × Int)) : (gCells l).length = l.length * 2 := by
  induction l with
  | nil => rfl
  | cons t r ih => simp [gCells, ih]; omega
theorem gCells_append (a b : List (Int × Int)) : gCells (a ++ b) = gCells a ++ gCells b := by
  induction a with
  | nil => rfl
  | cons x a ih => simp [gCells, ih]
theorem gCells_at (l : List (Int × Int)) (i : Nat) (p : Int × Int) (h : l[i]? = some p) : (gCells l)[i * 2]? = some (.int .i64 p.1) ∧ (gCells l)[i * 2 + 1]? = some (.int .i64 p.2) := by
  induction l generalizing i with
  | nil => simp at h
  | cons t r ih =>
    match i, h with
    | 0, h => simp at h; subst h; exact ⟨rfl, rfl⟩
    | i + 1, h =>
      have := ih i (by simpa using h)
      rw [show (i + 1) * 2 = i * 2 + 1 + 1 by omega]
      simpa [gCells] using this
theorem gCells_one (l : List (Int × Int)) : ∀ u ∈ gCells l, u.oneCell' = true := by
  induction l with
  | nil => intro u hu; cases hu
  | cons t r ih =>
    intro u hu
    simp [gCells] at hu
    rcases hu with rfl | rfl | hu
    · rfl
    · rfl
    · exact ih u hu

/-- What the guesses say of a frame. -/
def look (G : List (Int × Int)) (f : Int) : Option Int := (G.find? (fun p => p.1 == f)).map (·.2)

/-- Block rb is the reference's queue; its rows lie in the blocks fp. -/
structure RqAt (w : World) (rb : Nat) (fp : List Nat) (sv gv : Value) (q : Que) (G : List (Int × Int)) : Prop where
  cell : w.heap[rb]? = some (.cells #[.int .i64 q.first, sv, gv, .int .i64 q.wrong, .int .i64 q.fin, .bool q.closed] 88 (0, 0))
  row : RowN w 3 1 fp sv q.xs.length (q.xs.map (Value.int .i64))
  gs : RowN w 112 2 fp gv G.length (gCells G)
  ne : rb ∉ fp
  small : ∀ x ∈ fp, x < w.heap.size

section
variable {w : World} {rb : Nat} {fp : List Nat} {sv gv : Value} {q : Que} {G : List (Int × Int)}
theorem RqAt.lt (h : RqAt w rb fp sv gv q G) : rb < w.heap.size := (Array.getElem?_eq_some_iff.1 h.cell).1
theorem RqAt.c0 (h : RqAt w rb fp sv gv q G) : w.cell? ⟨rb, 0, none⟩ = some (.int .i64 q.first) := by simp [World.cell?, h.cell]
theorem RqAt.c1 (h : RqAt w rb fp sv gv q G) : w.cell? ⟨rb, 1, none⟩ = some sv := by simp [World.cell?, h.cell]
theorem RqAt.c2 (h : RqAt w rb fp sv gv q G) : w.cell? ⟨rb, 2, none⟩ = some gv := by simp [World.cell?, h.cell]
theorem RqAt.c3 (h : RqAt w rb fp sv gv q G) : w.cell? ⟨rb, 3, none⟩ = some (.int .i64 q.wrong) := by simp [World.cell?, h.cell]
theorem RqAt.c4 (h : RqAt w rb fp sv gv q G) : w.cell? ⟨rb, 4, none⟩ = some (.int .i64 q.fin) := by simp [World.cell?, h.cell]
theorem RqAt.c5 (h : RqAt w rb fp sv gv q G) : w.cell? ⟨rb, 5, none⟩ = some (.bool q.closed) := by simp [World.cell?, h.cell]
theorem RqAt.f (h : RqAt w rb fp sv gv q G) (i : Nat) : w.frozen? ⟨rb, i, none⟩ = false := by simp [World.frozen?, h.cell]
theorem RqAt.kept {w' : World} {fk : List Nat} (h : RqAt w rb fp sv gv q G) (hk : Kept fk w w') (h1 : rb ∉ fk) (h2 : ∀ x ∈ fp, x ∉ fk) : RqAt w' rb fp sv gv q G :=
  ⟨(hk.block rb h.lt h1).trans h.cell, h.row.kept hk h2, h.gs.kept hk h2, h.ne, fun x hx => by have := h.small x hx; have := hk.size; omega⟩
theorem RqAt.below {w' : World} (h : RqAt w rb fp sv gv q G) (hb : Below w.heap.size w w') : RqAt w' rb fp sv gv q G :=
  h.kept (fk := []) (Kept.of_below hb) (by simp) (by simp)
theorem RqAt.drewN (h : RqAt w rb fp sv gv q G) (k : Nat) : RqAt (w.drewN k) rb fp sv gv q G := h.kept (Kept.drewN [] w k) (by simp) (by simp)
/-- One of its cells is turned; its rows are in the blocks fp'. -/
theorem RqAt.set (h : RqAt w rb fp sv gv q G) (i : Nat) (v : Value) {fp' : List Nat} {sv' gv' : Value} {q' : Que} {G' : List (Int × Int)}
    (hc : (#[.int .i64 q.first, sv, gv, .int .i64 q.wrong, .int .i64 q.fin, .bool q.closed] : Array Value).setIfInBounds i v = #[.int .i64 q'.first, sv', gv', .int .i64 q'.wrong, .int .i64 q'.fin, .bool q'.closed])
    (hr : RowN w 3 1 fp' sv' q'.xs.length (q'.xs.map (Value.int .i64))) (hg : RowN w 112 2 fp' gv' G'.length (gCells G')) (hn : rb ∉ fp') (hs : ∀ x ∈ fp', x < w.heap.size) : RqAt (w.setCell ⟨rb, i, none⟩ v) rb fp' sv' gv' q' G' :=
  ⟨by rw [heap_setCell_at h.cell, hc], hr.kept (Kept.setCell w rb i v) (fun x hx => by simp; rintro rfl; exact hn hx), hg.kept (Kept.setCell w rb i v) (fun x hx => by simp; rintro rfl; exact hn hx), hn, fun x hx => by have := (Kept.setCell w rb i v).size; have := hs x hx; omega⟩
theorem RowN.at {e : TypeId} {size n : Nat} {xs : List Value} (h : RowN w e size fp sv n xs) (i : Nat) (v : Value) (hv : xs[i]? = some v) : ∃ g o cap, sv = .slice (some ⟨g, o, none⟩) n cap ∧ g ∈ fp ∧ w.cell? ⟨g, o + i, none⟩ = some v := by
  rcases h with ⟨_, _, rfl⟩ | ⟨g, o, cap, h1, h2, h3⟩
  · simp at hv
  · exact ⟨g, o, cap, h1, h2, h3.cell i v hv⟩
theorem RowN.lens {e : TypeId} {size n : Nat} {xs : List Value} (h : RowN w e size fp sv n xs) : ∃ A cap, sv = .slice A n cap := by
  obtain ⟨A, cap, h, _⟩ := h.slice
  exact ⟨A, cap, h⟩

/-- What a method that only reads leaves. -/
theorem rqlast_any (h : RqAt w rb fp sv gv q G) (hok : q.ok) : Calls Tryd.prog 46 #[.pointer (some ⟨rb, 0, none⟩)] w (Reads w (.int .i64 q.last)) := by
  obtain ⟨h1, h2, h3⟩ := hok
  obtain ⟨A, cap, rfl⟩ := h.row.lens
  have c0 := h.c0
  have c1 := h.c1
  clear h
  obtain ⟨fst, xs, gs, wr, cl, fin⟩ := q
  simp only at h1 h2 h3 c0 c1
  obtain ⟨l, hl⟩ : ∃ l, xs.length = l := ⟨_, rfl⟩
  show Calls _ _ _ _ (Reads w (.int .i64 (fst + xs.length - 1)))
  rw [hl] at h2 h3 c1
  rw [hl]
  clear hl
  go_enter Tryd.func46, Tryd.ntmps46
  go_wp2_with fail
  go_quiet (fail)
  go_wp2
  go_ret
  exact ⟨rfl, nq, rfl⟩

theorem rqguess_any (h : RqAt w rb fp sv gv q G) (hok : q.ok) : Calls Tryd.prog 68 #[.pointer (some ⟨rb, 0, none⟩)] w (Reads w (.int .i64 q.guess)) := by
  obtain ⟨h1, h2, h3⟩ := hok
  have c1 := h.c1
  have hrow := h.row
  clear h
  obtain ⟨fst, xs, gs, wr, cl, fin⟩ := q
  simp only at h1 h2 h3 c1 hrow
  show Calls _ _ _ _ (Reads w (.int .i64 (xs.getD (xs.length - 1) 0)))
  by_cases h0 : xs = []
  · subst h0
    obtain ⟨A, cap, rfl⟩ := hrow.lens
    clear hrow
    simp only [List.length_nil] at c1
    go_enter Tryd.func68, Tryd.ntmps68
    go_wp2
    go_ret
    exact ⟨rfl, 0, rfl⟩
  · have hl : 0 < xs.length := List.length_pos_iff.2 h0
    obtain ⟨g, o, cap, rfl, -, hat⟩ := hrow.at (xs.length - 1) (.int .i64 (xs.getD (xs.length - 1) 0)) (by rw [List.getElem?_map, List.getD, List.getElem?_eq_getElem (by omega)]; rfl)
    obtain ⟨l, hll⟩ : ∃ l, xs.length = l + 1 := ⟨xs.length - 1, by omega⟩
    obtain ⟨x, hx⟩ : ∃ x, xs.getD (xs.length - 1) 0 = x := ⟨_, rfl⟩
    rw [hx] at hat ⊢
    rw [hll] at h2 h3 c1 hat
    rw [show l + 1 - 1 = l from rfl] at hat
    have hi1 : (0 : Int) ≤ (l : Int) := by omega
    clear hl hll hx hrow h0
    go_enter Tryd.func68, Tryd.ntmps68
    go_wp2_with fail
    go_quiet (fail)
    go_wp2
    go_ret
    exact ⟨rfl, nq, rfl⟩

theorem rqget_any (h : RqAt w rb fp sv gv q G) (hok : q.ok) (f : Int) :
    Calls Tryd.prog 52 #[.pointer (some ⟨rb, 0, none⟩), .int .i64 f] w (Reads w (.tuple #[.int .i64 (q.get f).1, .bool (q.get f).2])) := by
  unfold Que.get
  have c0 := h.c0
  obtain ⟨fst, hfst⟩ : ∃ x, q.first = x := ⟨_, rfl⟩
  by_cases h1 : f < q.first
  · rw [if_pos h1]
    rw [hfst] at c0 h1
    have t1 : decide (f < fst) = true := by simpa using h1
    clear h hfst
    go_enter Tryd.func52, Tryd.ntmps52
    go_wp2
    go_ret2
    exact ⟨rfl, 0, rfl⟩
  · rw [if_neg h1]
    have LA := Lib.hid (rqlast_any h hok)
    obtain ⟨L, hL⟩ : ∃ x, q.last = x := ⟨_, rfl⟩
    rw [hL] at LA ⊢
    have t1 : decide (f < fst) = false := by simp; omega
    by_cases h2 : f ≤ L
    · rw [if_pos h2]
      have hL' := hL
      unfold Que.last at hL'
      obtain ⟨k1, k2, k3⟩ := hok
      obtain ⟨j, hj⟩ : ∃ j : Nat, f = q.first + j := ⟨(f - q.first).toNat, by omega⟩
      have hjl : j < q.xs.length := by omega
      have c1 := h.c1
      rw [show (f - q.first).toNat = j by omega]
      obtain ⟨g, o, cap, rfl, -, hat⟩ := h.row.at j (.int .i64 (q.xs.getD j 0)) (by rw [List.getElem?_map, List.getD, List.getElem?_eq_getElem hjl]; rfl)
      obtain ⟨x, hx⟩ : ∃ x, q.xs.getD j 0 = x := ⟨_, rfl⟩
      obtain ⟨l, hlen⟩ : ∃ x, q.xs.length = x := ⟨_, rfl⟩
      rw [hx] at hat ⊢
      rw [hfst] at c0 hj h1 k1 k2 hL'
      rw [hlen] at c1 k2 k3 hjl hL'
      have hi2 : (j : Int) < (l : Int) := by omega
      have hi1 : (0 : Int) ≤ (j : Int) := by omega
      have hsub : f - fst = (j : Int) := by omega
      have t2 : decide (f ≤ L) = true := by simpa using h2
      clear h hL hx hfst hlen hL' hjl hj h1 h2
      go_enter Tryd.func52, Tryd.ntmps52
      go_wp2_with fail
      refine LA.out.mono ?_
      rintro e w1 ⟨rfl, k, rfl⟩
      go_wp2_with fail
      go_quiet (fail)
      go_wp2
      go_ret2
      exact ⟨rfl, k + nq, by rw [World.drewN_drewN]⟩
    · rw [if_neg h2]
      have t2 : decide (f ≤ L) = false := by simpa using h2
      have c5 := h.c5
      have H := Lib.hid h
      have OK := Lib.hid hok
      rw [hfst] at c0
      cases hc : q.closed
      · rw [hc] at c5
        rw [if_neg (by simp)]
        clear h hok hL hfst h1 h2 hc
        go_enter Tryd.func52, Tryd.ntmps52
        go_wp2_with fail
        refine LA.out.mono ?_
        rintro e w1 ⟨rfl, k, rfl⟩
        go_wp2_with fail
        refine (rqguess_any (H.out.drewN k) OK.out).mono ?_
        rintro e w1 ⟨rfl, k2, rfl⟩
        go_wp2
        go_ret2
        exact ⟨rfl, k + k2, rfl⟩
      · rw [hc] at c5
        rw [if_pos rfl]
        clear h hok hL hfst h1 h2 hc
        go_enter Tryd.func52, Tryd.ntmps52
        go_wp2_with fail
        refine LA.out.mono ?_
        rintro e w1 ⟨rfl, k, rfl⟩
        go_wp2
        go_ret2
        exact ⟨rfl, k, rfl⟩

/-- What a method leaves that changes the queue. -/
def RqDone (w : World) (rb : Nat) (fp : List Nat) (q' : Que) (G' : List (Int × Int)) (v : Value) (e : Ending) (w' : World) : Prop :=
  e = .returned v ∧ ∃ fp' sv' gv', RqAt w' rb fp' sv' gv' q' G' ∧ Kept [rb] w w' ∧ ∀ x ∈ fp', x ∈ fp ∨ w.heap.size ≤ x

/-- Right. -/
theorem rqright_any (h : RqAt w rb fp sv gv q G) : Calls Tryd.prog 49 #[.pointer (some ⟨rb, 0, none⟩)] w (RqDone w rb fp q.right [] (.tuple #[])) := by
  have c3 := h.c3
  have f3 := h.f 3
  have h1 : RqAt (w.setCell ⟨rb, 3, none⟩ (.int .i64 0)) rb fp sv gv { q with wrong := 0 } G := h.set 3 _ rfl h.row h.gs h.ne h.small
  have c2 := h1.c2
  have f2 := h1.f 2
  have h2 : RqAt ((w.setCell ⟨rb, 3, none⟩ (.int .i64 0)).setCell ⟨rb, 2, none⟩ (.slice none 0 0)) rb fp sv (.slice none 0 0) q.right [] := h1.set 2 _ rfl h1.row (.inl ⟨rfl, rfl, rfl⟩) h1.ne h1.small
  have F := Lib.hid (And.intro h2 ((Kept.setCell w rb 3 (.int .i64 0)).trans (Kept.setCell _ rb 2 (.slice none 0 0)) (by simp)))
  clear h h1 h2
  go_enter Tryd.func49, Tryd.ntmps49
  go_wp2
  go_end0
  exact ⟨rfl, fp, sv, _, F.out.1, F.out.2, fun x hx => .inl hx⟩

/-- New. -/
theorem rqnew_any (d : Nat) (w : World) (hd : d ≤ 6) : Calls Tryd.prog 45 #[.int .i64 d] w fun e w' => ∃ rb sv, e = .returned (.pointer (some ⟨rb, 0, none⟩)) ∧ RqAt w' rb [w.heap.size] sv (.slice none 0 0) (Que.new d) [] ∧ Below w.heap.size w w' ∧ w.heap.size ≤ rb := by
  have hmk := make_ints w d (by omega)
  have t1 : decide ((d : Int) < 0) = false := by simp
  have t2 : decide (6 < (d : Int)) = false := by simp; omega
  go_enter Tryd.func45, Tryd.ntmps45
  go_wp2_with fail
  go_ret
  obtain ⟨A, hA⟩ : ∃ A : Array Value, A = Array.replicate d (.int .i64 0) := ⟨_, rfl⟩
  try rw [← hA]
  have s1 : (w.alloc (.cells A 3)).heap.size = w.heap.size + 1 := Array.size_push ..
  have hr : RowAt (w.alloc (.cells A 3)) 3 1 w.heap.size 0 d d ((List.replicate d (0 : Int)).map (Value.int .i64)) :=
    ⟨by simp, Nat.le_refl _, by simp [maxLen]; omega, A, heap_alloc_new w _, by rw [hA]; simp, fun i v h => by rw [hA, Nat.zero_add, ← Array.getElem?_toList, Array.toList_replicate, ← List.map_replicate]; exact h⟩
  have hq := heap_alloc_new (w.alloc (.cells A 3)) (.cells #[.int .i64 1, .slice (some ⟨w.heap.size, 0, none⟩) d d, .slice none 0 0, .int .i64 0, .int .i64 0, .bool false] 88)
  rw [s1] at hq
  refine ⟨w.heap.size + 1, .slice (some ⟨w.heap.size, 0, none⟩) d d, rfl, ⟨hq, .inr ⟨w.heap.size, 0, d, by simp [Que.new], by simp, ?_⟩, .inl ⟨rfl, rfl, rfl⟩, by simp, ?_⟩, ?_, by omega⟩
  · have := hr.kept (Kept.alloc _ (.cells #[.int .i64 1, .slice (some ⟨w.heap.size, 0, none⟩) d d, .slice none 0 0, .int .i64 0, .int .i64 0, .bool false] 88)) (by simp)
    simpa [Que.new] using this
  · intro x hx
    simp at hx
    subst hx
    first | (simp; done) | (simp; omega)
  · exact ((Below.refl _ _).alloc (Nat.le_refl _) _).alloc (by simp) _
theorem rqnew_none (d : Int) (w : World) (h : d < 0 ∨ 6 < d) : Calls Tryd.prog 45 #[.int .i64 d] w fun e w' => e = .returned (.pointer none) ∧ w = w' := by
  go_enter Tryd.func45, Tryd.ntmps45
  go_wp2_with fail
  all_goals go_ret
  all_goals exact ⟨rfl, rfl⟩
end

end Go.Proofs.YtkpbjahjiajodaaDoor
