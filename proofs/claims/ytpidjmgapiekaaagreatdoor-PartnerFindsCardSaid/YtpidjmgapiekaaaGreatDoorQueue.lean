/- This text proves what the queue's small methods compute, over the loaded program: a queue as a list of inputs, a function of guesses, and numbers. -/
import Derived.Test.YtpidjmgapiekaaaGreatDoorIs
import Derived.Maps.OwnSet
import Derived.WalkLawsBesides
import Derived.WalkSpells
import Derived.IntWalk
import Derived.KernelRfl
import Derived.Lib.Hide
import Derived.BigQuiet
import Derived.StillTailTactics
namespace Go.Proofs.YtpidjmgapiekaaaGreatDoor
open Go.RowKit Go.WideShapes

theorem law3 : Maps.Keyed Tryz.prog 3 := Maps.int_keyed Tryz.underlying3
theorem zero3 (w : World) : (zeroValue 3).run Tryz.prog w = .ok (.int .i64 0) w := by kernel_rfl
theorem info3 : (Tryz.prog.info? 3).map (fun i => (i.zero, i.size, i.bytes)) = some (some (.int .i64 0), 1, 8) := by kernel_rfl

/-- Block m is a map that holds just what G says. -/
def MapIs (w : World) (m n : Nat) (G : Int → Option Int) : Prop :=
  ∃ D : DataW Unit, w.ownsMap Tryz.prog 3 (plainElem Tryz.prog 3) m n D ∧ ∀ k, (Lit.int .i64 k).wf = true → Maps.has D (.int .i64 k) = (G k).isSome ∧ D.atKey (.int .i64 k) (.lit (.int .i64 0)) = .lit (.int .i64 ((G k).getD 0))

theorem MapIs.lt {w : World} {m n : Nat} {G : Int → Option Int} (h : MapIs w m n G) : m < w.heap.size := by
  obtain ⟨D, h, _⟩ := h
  exact h.lt
theorem MapIs.made (w : World) : MapIs (w.alloc (.map #[] 0)) w.heap.size 0 (fun _ => none) :=
  ⟨.map [], World.ownsMap_made _ _ _ _, fun _ _ => ⟨rfl, rfl⟩⟩
theorem MapIs.of_block {w w' : World} {m n : Nat} {G : Int → Option Int} (h : MapIs w m n G) (hb : w'.heap[m]? = w.heap[m]?) : MapIs w' m n G := by
  obtain ⟨D, ⟨es, clock, hb0, F, hs, hD⟩, h2⟩ := h
  exact ⟨D, ⟨es, clock, hb.trans hb0, F, hs, hD⟩, h2⟩
theorem MapIs.kept {w w' : World} {m n : Nat} {G : Int → Option Int} {fp : List Nat} (h : MapIs w m n G) (hk : Kept fp w w') (hn : m ∉ fp) : MapIs w' m n G :=
  h.of_block (hk.block m h.lt hn)

/-- A look-up with ok. -/
theorem wpList_look {w : World} {ops : Array Oper} {rest : List Oper} {o : Oper} {a : Act} {Q : Exit → Act → World → Prop}
    (hg : o.guard = none) (m x : Operand) (hop : o.op = Op.lookup 156 m x true) (b n : Nat) (G : Int → Option Int) (k : Int)
    (hm : a.eval m = .map (some b)) (hown : MapIs w b n G) (hx : a.eval x = .int .i64 k) (hk : (Lit.int .i64 k).wf = true) (c : Int) (bb : Bool) (hc : (G k).getD 0 = c) (hb : (G k).isSome = bb)
    (hK : wpList Tryz.prog ops Q rest (a.put o.dst (.tuple #[.int .i64 c, .bool bb])) w) :
    wpList Tryz.prog ops Q (o :: rest) a w := by
  subst hc
  subst hb
  obtain ⟨D, hD, hG⟩ := hown
  refine wpList_lookup_own_ok_int w hg m x 156 hop 3 3 .i64 law3 Tryz.underlying156 Tryz.underlying3 (zero3 _) b n D hm hD _ _ hx (Maps.keyOf_int_mk Tryz.underlying3 hk) ?_
  intro c hat _
  obtain ⟨h1, h2⟩ := hG k hk
  rw [h2] at hat
  rw [h1]
  simp only [DataW.lit.injEq, Lit.int.injEq, true_and] at hat
  rw [← hat]
  exact hK

/-- A store. -/
theorem wpList_put {w : World} {ops : Array Oper} {rest : List Oper} {o : Oper} {a : Act} {Q : Exit → Act → World → Prop}
    (hg : o.guard = none) (m x v : Operand) (hop : o.op = Op.mapUpdate 156 m x v) (b n : Nat) (G : Int → Option Int) (k c : Int)
    (hm : a.eval m = .map (some b)) (hown : MapIs w b n G) (hn : n < maxLen) (hx : a.eval x = .int .i64 k) (hk : (Lit.int .i64 k).wf = true) (hv : a.eval v = .int .i64 c) (hc : (Lit.int .i64 c).wf = true)
    (hK : ∀ w', MapIs w' b (n + 1) (fun j => if j = k then some c else G j) → w.grownBy w' (some b) → wpList Tryz.prog ops Q rest (a.put o.dst undef) w') :
    wpList Tryz.prog ops Q (o :: rest) a w := by
  obtain ⟨D, hD, hG⟩ := hown
  refine wpList_mapUpdate_own w hg m x v 156 hop 3 3 law3 Tryz.underlying156 _ b n D hm hD hn _ _ _ hx hv (Maps.keyOf_int_mk Tryz.underlying3 hk) (.lit (.int .i64 c)) [] (plainElem_int Tryz.underlying3 hc) ?_
  intro w' h1 h2
  refine hK w' ⟨_, h1, fun j hj => ?_⟩ h2
  have hkey : WideAt.IsKeyLit (.int .i64 k) := law3.key (Maps.keyOf_int_mk Tryz.underlying3 hk)
  by_cases e : j = k
  · subst e
    refine ⟨(Maps.has_put_same hD.isMap hkey _).trans ?_, (Maps.atKey_put_same hD.isMap hkey _ _).trans ?_⟩ <;> simp
  · have hne : (Lit.int .i64 j) ≠ Lit.int .i64 k := fun h => e (by simpa using h)
    simp only [if_neg e]
    rw [Maps.has_put_other hne, Maps.atKey_put_other hne]
    exact hG j hj

theorem src_one {P : Program} (w : World) (v : Value) (T t e : TypeId) (hk : P.underlying t = some (.slice e)) (hv : v.oneCell' = true) : Src P 1 t (.slice (some ⟨w.heap.size, 0, none⟩) 1 1) 1 [v] (w.alloc (.cells #[v] T)) :=
  Src.ofSlice _ hk _ 1 1 [v] rfl (fun j u hj => by
    rw [add_plain]
    match j, hj with
    | 0, hj =>
      simp at hj
      subst hj
      rw [World.cell?_alloc_new]; rfl) (fun u hu => by simp at hu; subst hu; exact hv)

/-- What a queue holds. -/
structure Que where
  first : Int
  xs : List Int
  g : Int → Option Int
  wrong : Int
  closed : Bool
  fin : Int

def Que.last (q : Que) : Int := q.first + q.xs.length - 1
def Que.guess (q : Que) : Int := q.xs.getD (q.xs.length - 1) 0
def Que.get (q : Que) (f : Int) : Int × Bool :=
  if f < q.first then (0, false) else if f ≤ q.last then (q.xs.getD (f - q.first).toNat 0, true) else if q.closed then (0, true) else (q.guess, false)

/-- Its numbers are small. -/
def Que.ok (q : Que) : Prop := 1 ≤ q.first ∧ q.first + q.xs.length ≤ 1073741826 ∧ q.xs.length ≤ 256

structure QAt (w : World) (qb m g o cap n : Nat) (q : Que) : Prop where
  cell : w.heap[qb]? = some (.cells #[.int .i64 q.first, .slice (some ⟨g, o, none⟩) q.xs.length cap, .map (some m), .int .i64 q.wrong, .bool q.closed, .int .i64 q.fin] 158 (0, 0))
  row : RowAt w 3 1 g o cap q.xs.length (q.xs.map (Value.int .i64))
  map : MapIs w m n q.g

section
variable {w : World} {qb m g o cap n : Nat} {q : Que}
theorem QAt.lt (h : QAt w qb m g o cap n q) : qb < w.heap.size := (Array.getElem?_eq_some_iff.1 h.cell).1
theorem QAt.c0 (h : QAt w qb m g o cap n q) : w.cell? ⟨qb, 0, none⟩ = some (.int .i64 q.first) := by simp [World.cell?, h.cell]
theorem QAt.c1 (h : QAt w qb m g o cap n q) : w.cell? ⟨qb, 1, none⟩ = some (.slice (some ⟨g, o, none⟩) q.xs.length cap) := by simp [World.cell?, h.cell]
theorem QAt.c2 (h : QAt w qb m g o cap n q) : w.cell? ⟨qb, 2, none⟩ = some (.map (some m)) := by simp [World.cell?, h.cell]
theorem QAt.c3 (h : QAt w qb m g o cap n q) : w.cell? ⟨qb, 3, none⟩ = some (.int .i64 q.wrong) := by simp [World.cell?, h.cell]
theorem QAt.c4 (h : QAt w qb m g o cap n q) : w.cell? ⟨qb, 4, none⟩ = some (.bool q.closed) := by simp [World.cell?, h.cell]
theorem QAt.c5 (h : QAt w qb m g o cap n q) : w.cell? ⟨qb, 5, none⟩ = some (.int .i64 q.fin) := by simp [World.cell?, h.cell]
theorem QAt.f (h : QAt w qb m g o cap n q) (i : Nat) : w.frozen? ⟨qb, i, none⟩ = false := by simp [World.frozen?, h.cell]
theorem QAt.at (h : QAt w qb m g o cap n q) (i : Nat) (hi : i < q.xs.length) : w.cell? ⟨g, o + i, none⟩ = some (.int .i64 (q.xs.getD i 0)) :=
  h.row.cell i _ (by simp [hi])
theorem QAt.kept {w' : World} {fp : List Nat} (h : QAt w qb m g o cap n q) (hk : Kept fp w w') (h1 : qb ∉ fp) (h2 : m ∉ fp) (h3 : g ∉ fp) : QAt w' qb m g o cap n q :=
  ⟨(hk.block qb h.lt h1).trans h.cell, h.row.kept hk h3, h.map.kept hk h2⟩
theorem QAt.ne_row (h : QAt w qb m g o cap n q) : qb ≠ g := by
  rintro rfl
  obtain ⟨_, _, _, cur, hb, _⟩ := h.row
  have := h.cell.symm.trans hb
  simp at this
theorem QAt.ne_map (h : QAt w qb m g o cap n q) : qb ≠ m := by
  rintro rfl
  obtain ⟨D, ⟨es, clock, hb, _⟩, _⟩ := h.map
  have := h.cell.symm.trans hb
  simp at this
theorem QAt.row_ne_map (h : QAt w qb m g o cap n q) : g ≠ m := by
  rintro rfl
  obtain ⟨D, ⟨es, clock, hb, _⟩, _⟩ := h.map
  obtain ⟨_, _, _, cur, hb', _⟩ := h.row
  have := hb'.symm.trans hb
  simp at this
end

def Reads (w : World) (v : Value) (e : Ending) (w' : World) : Prop := e = .returned v ∧ ∃ k, w' = w.drewN k

section
variable {w : World} {qb m g o cap n : Nat} {q : Que}

theorem last_any (h : QAt w qb m g o cap n q) (hok : q.ok) : Calls Tryz.prog 51 #[.pointer (some ⟨qb, 0, none⟩)] w (Reads w (.int .i64 q.last)) := by
  obtain ⟨h1, h2, h3⟩ := hok
  have c0 := h.c0
  have c1 := h.c1
  clear h
  obtain ⟨fst, xs, gs, wr, cl, fin⟩ := q
  simp only at h1 h2 h3 c0 c1
  obtain ⟨l, hl⟩ : ∃ l, xs.length = l := ⟨_, rfl⟩
  show Calls _ _ _ _ (Reads w (.int .i64 (fst + xs.length - 1)))
  rw [hl] at h2 h3 c1
  rw [hl]
  clear hl
  go_enter Tryz.func51, Tryz.ntmps51
  go_wp2_with fail
  go_quiet (fail)
  go_wp2
  go_ret
  exact ⟨rfl, nq, rfl⟩

theorem wrong_any (h : QAt w qb m g o cap n q) : Calls Tryz.prog 69 #[.pointer (some ⟨qb, 0, none⟩)] w (fun e w' => e = .returned (.int .i64 q.wrong) ∧ w = w') := by
  have c3 := h.c3
  clear h
  go_enter Tryz.func69, Tryz.ntmps69
  go_wp2
  go_ret
  exact ⟨rfl, rfl⟩

theorem guess_any (h : QAt w qb m g o cap n q) (hok : q.ok) : Calls Tryz.prog 133 #[.pointer (some ⟨qb, 0, none⟩)] w (Reads w (.int .i64 q.guess)) := by
  obtain ⟨h1, h2, h3⟩ := hok
  have c1 := h.c1
  have hat := h.at (q.xs.length - 1)
  clear h
  obtain ⟨fst, xs, gs, wr, cl, fin⟩ := q
  simp only at h1 h2 h3 c1 hat
  show Calls _ _ _ _ (Reads w (.int .i64 (xs.getD (xs.length - 1) 0)))
  obtain ⟨l, hl⟩ : ∃ l, xs.length = l := ⟨_, rfl⟩
  obtain ⟨x, hx⟩ : ∃ x, xs.getD (xs.length - 1) 0 = x := ⟨_, rfl⟩
  rw [hx] at hat ⊢
  rw [hl] at h2 h3 c1 hat
  rcases l with _ | l
  · have : xs = [] := List.eq_nil_of_length_eq_zero hl
    subst this
    obtain rfl : x = 0 := by simpa using hx.symm
    clear hl hx hat
    go_enter Tryz.func133, Tryz.ntmps133
    go_wp2
    go_ret
    exact ⟨rfl, 0, rfl⟩
  · have hat := hat (by omega)
    rw [show l + 1 - 1 = l from rfl] at hat
    have hi1 : (0 : Int) ≤ (l : Int) := by omega
    clear hl hx
    go_enter Tryz.func133, Tryz.ntmps133
    go_wp2_with fail
    go_quiet (fail)
    go_wp2
    go_ret
    exact ⟨rfl, nq, rfl⟩

/-- Get: ahead of the first. -/
theorem get_gone (h : QAt w qb m g o cap n q) (f : Int) (hf : f < q.first) : Calls Tryz.prog 82 #[.pointer (some ⟨qb, 0, none⟩), .int .i64 f] w (Reads w (.tuple #[.int .i64 0, .bool false])) := by
  have c0 := h.c0
  clear h
  obtain ⟨fst, hfst⟩ : ∃ x, q.first = x := ⟨_, rfl⟩
  rw [hfst] at c0 hf
  clear hfst
  have t1 : decide (f < fst) = true := by simpa using hf
  go_enter Tryz.func82, Tryz.ntmps82
  go_wp2
  go_ret2
  exact ⟨rfl, 0, rfl⟩

/-- Get: an input that is known. -/
theorem get_known (h : QAt w qb m g o cap n q) (hok : q.ok) (f : Int) (hf : ¬ f < q.first) (hl : f ≤ q.last) :
    Calls Tryz.prog 82 #[.pointer (some ⟨qb, 0, none⟩), .int .i64 f] w (Reads w (.tuple #[.int .i64 (q.xs.getD (f - q.first).toNat 0), .bool true])) := by
  have hlast := last_any h hok
  obtain ⟨L, hL⟩ : ∃ x, q.last = x := ⟨_, rfl⟩
  rw [hL] at hl hlast
  have hL' := hL
  unfold Que.last at hL'
  obtain ⟨h1, h2, h3⟩ := hok
  obtain ⟨j, hj⟩ : ∃ j : Nat, f = q.first + j := ⟨(f - q.first).toNat, by omega⟩
  have hjl : j < q.xs.length := by omega
  have c0 := h.c0
  have c1 := h.c1
  have hat := h.at j hjl
  rw [show (f - q.first).toNat = j by omega]
  obtain ⟨x, hx⟩ : ∃ x, q.xs.getD j 0 = x := ⟨_, rfl⟩
  obtain ⟨fst, hfst⟩ : ∃ x, q.first = x := ⟨_, rfl⟩
  obtain ⟨l, hlen⟩ : ∃ x, q.xs.length = x := ⟨_, rfl⟩
  rw [hx] at hat ⊢
  rw [hfst] at c0 hj hf h1 h2 hL'
  rw [hlen] at c1 h2 h3 hjl hL'
  have hi2 : (j : Int) < (l : Int) := by omega
  have hi1 : (0 : Int) ≤ (j : Int) := by omega
  have hsub : f - fst = (j : Int) := by omega
  have t1 : decide (f < fst) = false := by simp; omega
  have t2 : decide (f ≤ L) = true := by simpa using hl
  clear h hL hx hfst hlen hL' hjl hj hf hl
  go_enter Tryz.func82, Tryz.ntmps82
  go_wp2_with fail
  refine hlast.mono ?_
  rintro e w1 ⟨rfl, k, rfl⟩
  go_wp2_with fail
  go_quiet (fail)
  go_wp2
  go_ret2
  exact ⟨rfl, k + nq, by rw [World.drewN_drewN]⟩

/-- Get: behind the end. -/
theorem get_closed (h : QAt w qb m g o cap n q) (hok : q.ok) (f : Int) (hf : ¬ f < q.first) (hl : ¬ f ≤ q.last) (hc : q.closed = true) :
    Calls Tryz.prog 82 #[.pointer (some ⟨qb, 0, none⟩), .int .i64 f] w (Reads w (.tuple #[.int .i64 0, .bool true])) := by
  have hlast := last_any h hok
  have c0 := h.c0
  have c4 := h.c4
  rw [hc] at c4
  obtain ⟨L, hL⟩ : ∃ x, q.last = x := ⟨_, rfl⟩
  rw [hL] at hl hlast
  obtain ⟨fst, hfst⟩ : ∃ x, q.first = x := ⟨_, rfl⟩
  rw [hfst] at c0 hf
  have t1 : decide (f < fst) = false := by simp; omega
  have t2 : decide (f ≤ L) = false := by simp; omega
  clear h hok hL hfst hc
  go_enter Tryz.func82, Tryz.ntmps82
  go_wp2_with fail
  refine hlast.mono ?_
  rintro e w1 ⟨rfl, k, rfl⟩
  go_wp2
  go_ret2
  exact ⟨rfl, k, rfl⟩

/-- Get: a guess. -/
theorem get_guess (h : QAt w qb m g o cap n q) (hok : q.ok) (f : Int) (hf : ¬ f < q.first) (hl : ¬ f ≤ q.last) (hc : q.closed = false) :
    Calls Tryz.prog 82 #[.pointer (some ⟨qb, 0, none⟩), .int .i64 f] w (Reads w (.tuple #[.int .i64 q.guess, .bool false])) := by
  have hlast := last_any h hok
  have H := Lib.hid h
  have OK := Lib.hid hok
  have c0 := h.c0
  have c4 := h.c4
  rw [hc] at c4
  obtain ⟨L, hL⟩ : ∃ x, q.last = x := ⟨_, rfl⟩
  rw [hL] at hl hlast
  obtain ⟨fst, hfst⟩ : ∃ x, q.first = x := ⟨_, rfl⟩
  rw [hfst] at c0 hf
  have t1 : decide (f < fst) = false := by simp; omega
  have t2 : decide (f ≤ L) = false := by simp; omega
  clear h hok hL hfst hc
  go_enter Tryz.func82, Tryz.ntmps82
  go_wp2_with fail
  refine hlast.mono ?_
  rintro e w1 ⟨rfl, k, rfl⟩
  go_wp2_with fail
  refine (guess_any (H.out.kept (Kept.drewN [] w k) (by simp) (by simp) (by simp)) OK.out).mono ?_
  rintro e w1 ⟨rfl, k2, rfl⟩
  go_wp2
  go_ret2
  exact ⟨rfl, k + k2, rfl⟩

theorem get_any (h : QAt w qb m g o cap n q) (hok : q.ok) (f : Int) :
    Calls Tryz.prog 82 #[.pointer (some ⟨qb, 0, none⟩), .int .i64 f] w (Reads w (.tuple #[.int .i64 (q.get f).1, .bool (q.get f).2])) := by
  unfold Que.get
  by_cases h1 : f < q.first
  · rw [if_pos h1]; exact get_gone h f h1
  · rw [if_neg h1]
    by_cases h2 : f ≤ q.last
    · rw [if_pos h2]; exact get_known h hok f h1 h2
    · rw [if_neg h2]
      cases hc : q.closed
      · exact get_guess h hok f h1 h2 hc
      · exact get_closed h hok f h1 h2 hc

/-- Put. -/
def Que.put (q : Que) (f x : Int) : Que := { q with xs := q.xs ++ [x], wrong := if (q.g f).isSome ∧ (q.g f).getD 0 ≠ x ∧ q.wrong = 0 then f else q.wrong }
def Que.err (q : Que) (f x : Int) : Option Nat :=
  if x < 0 ∨ 255 < x then some 1 else if q.closed then some 2 else if f ≤ q.last then some 7 else if q.last + 1 < f then some 1 else if 1073741824 < f ∨ 256 ≤ q.xs.length then some 6 else none

theorem put_hit {B : Bool} {G wr f x : Int} (hB : (q.g f).isSome = B) (hG : (q.g f).getD 0 = G) (hw : q.wrong = wr) (h : B = true ∧ G ≠ x ∧ wr = 0) : q.put f x = { q with xs := q.xs ++ [x], wrong := f } := by
  unfold Que.put
  rw [if_pos ⟨hB.trans h.1, by rw [hG]; exact h.2.1, hw.trans h.2.2⟩]
theorem put_miss {B : Bool} {G wr f x : Int} (hB : (q.g f).isSome = B) (hG : (q.g f).getD 0 = G) (hw : q.wrong = wr) (h : ¬ (B = true ∧ G ≠ x ∧ wr = 0)) : q.put f x = { q with xs := q.xs ++ [x] } := by
  unfold Que.put
  rw [if_neg (by rw [hB, hG, hw]; exact h)]

theorem heap_setCell_at {w : World} {b : Nat} {cs : Array Value} {T : TypeId} (h : w.heap[b]? = some (.cells cs T (0, 0))) (i : Nat) (v : Value) : (w.setCell ⟨b, i, none⟩ v).heap[b]? = some (.cells (cs.setIfInBounds i v) T (0, 0)) := by
  unfold World.setCell
  simp [Array.getElem?_modify, h]

theorem QAt.setWrong (h : QAt w qb m g o cap n q) (v : Int) : QAt (w.setCell ⟨qb, 3, none⟩ (.int .i64 v)) qb m g o cap n { q with wrong := v } :=
  ⟨by rw [heap_setCell_at h.cell]; rfl, h.row.kept (Kept.setCell w qb 3 _) (by simpa using h.ne_row.symm), h.map.kept (Kept.setCell w qb 3 _) (by simpa using h.ne_map.symm)⟩

theorem push_facts (H : QAt w qb m g o cap n q) {l : Nat} (hl : q.xs.length = l) {w' : World} {N : Nat} {c : Obj} {x : Int} (hgr : ((w.drewN N).alloc c).grownBy w' (some g)) {g' o' cap' : Nat}
    (hrow : RowAt w' 3 1 g' o' cap' (l + 1) (q.xs.map (Value.int .i64) ++ [.int .i64 x])) (hgg : g' = g ∨ g' = ((w.drewN N).alloc c).heap.size) :
    (w'.cell? ⟨qb, 1, none⟩).isSome = true ∧ w'.frozen? ⟨qb, 1, none⟩ = false ∧ w'.cell? ⟨qb, 2, none⟩ = some (.map (some m)) ∧ w'.cell? ⟨qb, 3, none⟩ = some (.int .i64 q.wrong) ∧ w'.frozen? ⟨qb, 3, none⟩ = false ∧
    Hid (QAt (w'.setCell ⟨qb, 1, none⟩ (.slice (some ⟨g', o', none⟩) (l + 1) cap')) qb m g' o' cap' n { q with xs := q.xs ++ [x] } ∧ Kept [qb, m, g] w (w'.setCell ⟨qb, 1, none⟩ (.slice (some ⟨g', o', none⟩) (l + 1) cap')) ∧ (g' = g ∨ w.heap.size ≤ g')) := by
  subst hl
  have hg2 : g' = g ∨ w.heap.size ≤ g' := hgg.imp id (fun e => by rw [e]; exact (Kept.alloc (w.drewN N) c).size)
  have hk0 : Kept [g] w ((w.drewN N).alloc c) := ((Kept.drewN [g] w N).trans (Kept.alloc (w.drewN N) c) (fun y hy => by simp at hy))
  have hk : Kept [g] w w' := hk0.trans (Kept.of_grown hgr) (fun y hy => .inl hy)
  have hq : w'.heap[qb]? = _ := (hk.block qb H.lt (by simpa using H.ne_row)).trans H.cell
  have hne : qb ≠ g' := by
    rintro rfl
    obtain ⟨_, _, _, cur, hb', _⟩ := hrow
    have := hb'.symm.trans hq
    simp at this
  have hks := Kept.setCell w' qb 1 (.slice (some ⟨g', o', none⟩) (q.xs.length + 1) cap')
  refine ⟨by simp [World.cell?, hq], by simp [World.frozen?, hq], by simp [World.cell?, hq], by simp [World.cell?, hq], by simp [World.frozen?, hq], Lib.hid ⟨⟨?_, ?_, ?_⟩, ?_, hg2⟩⟩
  · rw [heap_setCell_at hq, List.length_append]; rfl
  · have := hrow.kept hks (by simpa using hne.symm)
    rw [List.map_append, List.length_append]
    exact this
  · exact (H.map.kept hk (by simpa using H.row_ne_map.symm)).kept hks (by simpa using H.ne_map.symm)
  · exact (hk.mono (fun y hy => .inl (by simp at hy; simp [hy]))).trans hks (fun y hy => .inl (by simp at hy; simp [hy]))

/-- What a call leaves that touches a queue. -/
def Done (w : World) (qb m g n : Nat) (q : Que) (v : Value) (e : Ending) (w' : World) : Prop :=
  e = .returned v ∧ ∃ g' o' cap', QAt w' qb m g' o' cap' n q ∧ Kept [qb, m, g] w w' ∧ (g' = g ∨ w.heap.size ≤ g')

set_option maxRecDepth 100000 in
set_option maxHeartbeats 1600000 in
theorem put_ok (h : QAt w qb m g o cap n q) (hok : q.ok) (f x : Int) (he : q.err f x = none) :
    Calls Tryz.prog 78 #[.pointer (some ⟨qb, 0, none⟩), .int .i64 f, .int .i64 x] w (Done w qb m g n (q.put f x) .nilIface) := by
  unfold Que.err at he
  split at he <;> try cases he
  split at he <;> try cases he
  split at he <;> try cases he
  split at he <;> try cases he
  split at he <;> try cases he
  rename_i hx hc hf1 hf2 hf3
  have hlast := last_any h hok
  obtain ⟨L, hL⟩ : ∃ x, q.last = x := ⟨_, rfl⟩
  rw [hL] at hf1 hf2 hlast
  have hL' := hL
  unfold Que.last at hL'
  have c1 := h.c1
  have c2 := h.c2
  have c3 := h.c3
  have c4 := h.c4
  have f1 := h.f 1
  have f3 := h.f 3
  have hc' : q.closed = false := by simpa using hc
  rw [hc'] at c4
  have H := Lib.hid h
  have OK := Lib.hid hok
  have hmk := h.ne_map
  have hgk := h.ne_row
  obtain ⟨l, hlen⟩ : ∃ x, q.xs.length = x := ⟨_, rfl⟩
  obtain ⟨wr, hwr⟩ : ∃ x, q.wrong = x := ⟨_, rfl⟩
  rw [hlen] at c1 hf3
  rw [hwr] at c3
  have LEN := Lib.hid hlen
  have WR := Lib.hid hwr
  have t1 : decide (x < 0) = false := by simp; omega
  have t2 : decide (255 < x) = false := by simp; omega
  have t3 : decide (f ≤ L) = false := by simp; omega
  have t4 : decide (L + 1 < f) = false := by simp; omega
  have t5 : decide (1073741824 < f) = false := by simp; omega
  have t6 : decide (256 ≤ (l : Int)) = false := by simp; omega
  obtain ⟨hL1, hL2⟩ : -1 ≤ L ∧ L ≤ 1073741825 := by obtain ⟨h1, h2, h3⟩ := hok; omega
  have LL := Lib.hid hL
  have hl256 : l < 256 := by omega
  have hff : 0 ≤ f := by omega
  have hff2 : f ≤ 1073741824 := by omega
  clear h hok hL hL' hc hc' hlen hwr hx hf1 hf2 hf3
  go_enter Tryz.func78, Tryz.ntmps78
  go_wp2_with fail
  refine hlast.mono ?_
  rintro e w1 ⟨rfl, k1, rfl⟩
  go_wp2_with fail
  refine (last_any (H.out.kept (Kept.drewN [] w k1) (by simp) (by simp) (by simp)) OK.out).mono ?_
  rintro e w1 ⟨rfl, k2, rfl⟩
  rw [LL.out]
  have hrowK : ∀ N c, RowAt ((w.drewN N).alloc c) 3 1 g o cap l (q.xs.map (Value.int .i64)) := fun N c => by
    rw [← LEN.out]; exact (H.out.row.kept (Kept.drewN [] w N) (by simp)).kept (Kept.alloc _ c) (by simp)
  obtain ⟨B, hB⟩ : ∃ B, (q.g f).isSome = B := ⟨_, rfl⟩
  obtain ⟨G, hG⟩ : ∃ G, (q.g f).getD 0 = G := ⟨_, rfl⟩
  have hfw : (Lit.int .i64 f).wf = true := WalkArith.wf_i64 (by omega)
  have ROWK := Lib.hid hrowK
  have BB := Lib.hid hB
  have GG := Lib.hid hG
  clear hrowK hB hG
  go_wp2_with (first
    | (at_builtin; refine wpList_append_at rfl _ _ 49 49 rfl 3 (.int .i64 0) 1 8 Tryz.underlying49 info3 rfl g o cap l _ rfl (ROWK.out _ _) _ rfl 1 [.int .i64 x] (src_one (w.drewN (k1 + k2)) _ _ _ _ Tryz.underlying49 rfl) (by simp [maxLen]; omega) (by omega) ?_; intro g' o' cap' w' hrow' hgr hgg
       obtain ⟨c1n, f1n, c2n, c3n, f3n, HQ⟩ := push_facts H.out LEN.out hgr hrow' hgg
       rw [WR.out] at c3n
       obtain ⟨c1v, c1n⟩ := Option.isSome_iff_exists.1 c1n
       clear hrow' hgr hgg)
    | (at_lookup; refine wpList_look rfl _ _ rfl m n q.g f rfl HQ.out.1.map rfl hfw G B GG.out BB.out ?_)
    | fail)
  all_goals go_ret
  all_goals clear hlast H OK ROWK LEN c1 c2 c4 f1 f3 hmk hgk LL
  all_goals first
    | (have hh : B = true ∧ G ≠ x ∧ wr = 0 := by clear HQ BB GG WR; simp_all; done
       exact ⟨rfl, g', o', cap', by rw [put_hit BB.out GG.out WR.out hh]; exact HQ.out.1.setWrong f, HQ.out.2.1.trans (Kept.setCell _ qb 3 _) (fun y hy => .inl (by simp at hy; simp [hy])), HQ.out.2.2⟩)
    | (have hh : ¬ (B = true ∧ G ≠ x ∧ wr = 0) := by clear HQ BB GG WR; simp_all; done
       exact ⟨rfl, g', o', cap', by rw [put_miss BB.out GG.out WR.out hh]; exact HQ.out.1, HQ.out.2.1, HQ.out.2.2⟩)

end

end Go.Proofs.YtpidjmgapiekaaaGreatDoor
