/- This text proves what fields are read out of a packet, over the loaded program. -/
import Derived.Test.YtpidjmgapiekaaaGreatDoorDec1
import Derived.Test.YtpidjmgapiekaaaGreatDoorMisc
import Derived.Test.YtpidjmgapiekaaaGreatDoorPar3
namespace Go.Proofs.YtpidjmgapiekaaaGreatDoor
open Go.RowKit Go.WideShapes
set_option linter.unusedSimpArgs false

theorem w3_below (w : World) (a b c : Obj) : Below w.heap.size w (((w.alloc a).alloc b).alloc c) :=
  (((Below.refl w.heap.size w).alloc (Nat.le_refl _) a).alloc (by rw [size_alloc1]; omega) b).alloc (by rw [size_alloc1, size_alloc1]; omega) c
theorem w3_at (w : World) (a b c : Obj) : (((w.alloc a).alloc b).alloc c).heap[w.heap.size + 1]? = some b := by
  rw [alloc_old _ _ _ (by rw [size_alloc1, size_alloc1]; omega), ← size_alloc1 w a, heap_alloc_new]
theorem w3_cell (w : World) (a c : Obj) (cs : Array Value) (T : TypeId) (j : Nat) : (((w.alloc a).alloc (.cells cs T)).alloc c).cell? ⟨w.heap.size + 1, j, none⟩ = cs[j]? := by
  simp only [World.cell?, w3_at]
  rfl
theorem w3_cellD (w : World) (a c : Obj) (cs : Array Value) (T : TypeId) (j : Nat) : (((w.alloc a).alloc (.cells cs T)).alloc c).drew.cell? ⟨w.heap.size + 1, j, none⟩ = cs[j]? := w3_cell w a c cs T j
theorem w3_belowD (w : World) (a b c : Obj) : Below w.heap.size w (((w.alloc a).alloc b).alloc c).drew := (w3_below w a b c).trans ⟨rfl, rfl, rfl, Nat.le_refl _, fun _ _ => rfl⟩

/-- What a reader gives of a packet's fields. -/
structure Flds where
  nonce : Int
  frm : Int
  base : Int
  ins : List Int
  ack : Int
  sum : Int
def Rdr.body (R : Rdr) (k : Int) : Rdr × Flds :=
  if k = 1 ∨ k = 2 then (R.count.1, ⟨R.count.2, 0, 0, [], 0, 0⟩) else
  if k = 3 then
    let a := R.count
    let b := a.1.count
    let c := b.1.byte
    let d := c.1.count
    let e := d.1.inputs (c.2 : Int) (d.2 : Int)
    (e.1, ⟨0, a.2, c.2, e.2, b.2, 0⟩) else
  if k = 4 then (R.count.1.num.1, ⟨0, R.count.2, 0, [], 0, IntKind.u64.wrap R.count.1.num.2⟩) else
  if k = 5 then (R.count.1, ⟨0, 0, 0, [], R.count.2, 0⟩) else
  if k = 6 then (R.count.1, ⟨0, R.count.2, 0, [], 0, 0⟩) else (R, ⟨0, 0, 0, [], 0, 0⟩)
def BodyB (w : World) (rb : Nat) (k : Int) (q : Rdr × Flds) (e : Ending) (w' : World) : Prop := ∃ p : Par, e = .returned p.v ∧ (p.kind = k ∧ p.nonce = q.2.nonce ∧ p.frm = q.2.frm ∧ p.base = q.2.base ∧ p.ins = q.2.ins ∧ p.ack = q.2.ack ∧ p.sum = q.2.sum) ∧ Cells w' p.X (iv p.ins) ∧ RLeft w rb q.1 w' ∧ ∀ b o, p.X = some ⟨b, o, none⟩ → w.heap.size ≤ b

theorem RLeft.start {w : World} {rb : Nat} {R : Rdr} (h : RdAt w rb R) : RLeft w rb R w := ⟨h, Kept.refl _ _⟩
theorem RLeft.step {w1 wi : World} {rb : Nat} {Ri Rj : Rdr} {f : FuncId} {args : Array Value} {P : Ending → Prop} (h : RLeft w1 rb Ri wi) (hc : RdAt wi rb Ri → Calls Tryz.prog f args wi fun e w' => P e ∧ RLeft wi rb Rj w') : Calls Tryz.prog f args wi fun e w' => P e ∧ RLeft w1 rb Rj w' :=
  (hc h.1).mono fun e w' ⟨he, h1, h2⟩ => ⟨he, h1, h.2.trans h2 (by simp)⟩
theorem RLeft.box {w1 wi : World} {rb : Nat} {R : Rdr} {b : Nat} {o : Obj} (h : RLeft w1 rb R wi) (hb : w1.heap[b]? = some o) (hn : b ≠ rb) : wi.heap[b]? = some o :=
  (h.2.block b (Array.getElem?_eq_some_iff.1 hb).1 (by simpa using hn)).trans hb

theorem Kept.drop {a b : World} {x y : Nat} (h : Kept [x, y] a b) (hy : a.heap.size ≤ y) : Kept [x] a b :=
  ⟨h.os, h.tape, h.output, h.size, fun i hi hn => h.block i hi (by simp at hn ⊢; omega)⟩
theorem rleft_boxes {w w1 w2 w3 : World} {rb : Nat} {R : Rdr} (hb : Below w.heap.size w w1) (hl : rb < w.heap.size) (h : RLeft w1 rb R w2) (hk : Kept [w.heap.size + 1, w.heap.size + 1 + 1] w2 w3) : RLeft w rb R w3 :=
  ⟨h.1.kept hk (by simp; omega), ((Kept.of_below (fp := [rb]) hb).trans h.2 (by simp)).trans hk (by simp; omega)⟩

set_option maxRecDepth 100000 in
set_option maxHeartbeats 6400000 in
theorem scanBody_any {w : World} {rb : Nat} {R : Rdr} (h : RdAt w rb R) (k : Int) : Calls Tryz.prog 65 #[.agg #[.pointer (some ⟨rb, 0, none⟩)], .int .i64 k] w (BodyB w rb k (R.body k)) := by
  have hlt := h.lt
  have hb := w3_below w (.cells #[.pointer (some ⟨rb, 0, none⟩)] 119) (.cells #[.int .i64 0, .int .i64 0, .int .i64 0, .int .i64 0, .slice none 0 0, .int .i64 0, .int .u64 0] 57) (.cells (#[.int .i64 k, .int .i64 0, .int .i64 0, .int .i64 0, .slice none 0 0, .int .i64 0, .int .u64 0]) 57)
  obtain ⟨w1, hw1⟩ : ∃ w1, ((w.alloc (.cells #[.pointer (some ⟨rb, 0, none⟩)] 119)).alloc (.cells #[.int .i64 0, .int .i64 0, .int .i64 0, .int .i64 0, .slice none 0 0, .int .i64 0, .int .u64 0] 57)).alloc (.cells (#[.int .i64 k, .int .i64 0, .int .i64 0, .int .i64 0, .slice none 0 0, .int .i64 0, .int .u64 0]) 57) = w1 := ⟨_, rfl⟩
  have a2 := heap_alloc_new ((w.alloc (.cells #[.pointer (some ⟨rb, 0, none⟩)] 119)).alloc (.cells #[.int .i64 0, .int .i64 0, .int .i64 0, .int .i64 0, .slice none 0 0, .int .i64 0, .int .u64 0] 57)) (.cells (#[.int .i64 k, .int .i64 0, .int .i64 0, .int .i64 0, .slice none 0 0, .int .i64 0, .int .u64 0]) 57)
  rw [size_alloc1, size_alloc1] at a2
  have a1 := w3_at w (.cells #[.pointer (some ⟨rb, 0, none⟩)] 119) (.cells #[.int .i64 0, .int .i64 0, .int .i64 0, .int .i64 0, .slice none 0 0, .int .i64 0, .int .u64 0] 57) (.cells (#[.int .i64 k, .int .i64 0, .int .i64 0, .int .i64 0, .slice none 0 0, .int .i64 0, .int .u64 0]) 57)
  have a0 := (alloc_old ((w.alloc (.cells #[.pointer (some ⟨rb, 0, none⟩)] 119)).alloc (.cells #[.int .i64 0, .int .i64 0, .int .i64 0, .int .i64 0, .slice none 0 0, .int .i64 0, .int .u64 0] 57)) (.cells (#[.int .i64 k, .int .i64 0, .int .i64 0, .int .i64 0, .slice none 0 0, .int .i64 0, .int .u64 0]) 57) w.heap.size (by rw [size_alloc1, size_alloc1]; omega)).trans ((alloc_old (w.alloc (.cells #[.pointer (some ⟨rb, 0, none⟩)] 119)) (.cells #[.int .i64 0, .int .i64 0, .int .i64 0, .int .i64 0, .slice none 0 0, .int .i64 0, .int .u64 0] 57) w.heap.size (by rw [size_alloc1]; omega)).trans (heap_alloc_new w _))
  rw [hw1] at hb a2 a1 a0
  have BX := Lib.hid (And.intro a0 (And.intro a1 a2))
  have HB := Lib.hid hb
  have HL := Lib.hid hlt
  have L1 := Lib.hid (RLeft.start (h.below hb))
  have H0 := Lib.hid h
  clear h hb a0 a1 a2 hlt
  unfold Rdr.body
  by_cases k1 : k = 1
  · subst k1
    have E1 := Lib.hid hw1
    clear hw1
    simp (config := { decide := true }) only [if_true, if_false, true_or, or_true, or_false]
    have CT := Lib.hid (L1.out.step (f := 117) (P := fun e => e = .returned (.int .i64 (R.count.2 : Int))) (fun hr => rcount_any hr))
    obtain ⟨q, hq⟩ : ∃ q, R.count = q := ⟨_, rfl⟩
    rw [hq] at CT ⊢
    clear hq
    obtain ⟨R2, x⟩ := q
    dsimp only at CT ⊢
    go_enter Tryz.func65, Tryz.ntmps65
    go_wp2_with fail
    rw [E1.out]
    refine CT.out.mono ?_
    rintro e w2 ⟨rfl, hl⟩
    have L2 := Lib.hid hl
    clear hl
    have x1 := L2.out.box BX.out.2.1 (by have := HL.out; omega)
    have x2 := L2.out.box BX.out.2.2 (by have := HL.out; omega)
    have e0 : w2.cell? ⟨w.heap.size + 1, 0, none⟩ = some (.int .i64 0) := by simp only [World.cell?, x1]; rfl
    have fe0 : w2.frozen? ⟨w.heap.size + 1, 0, none⟩ = false := by simp only [World.frozen?, x1]; rfl
    have g0 : w2.cell? ⟨w.heap.size + 1 + 1, 0, none⟩ = some (.int .i64 1) := by simp only [World.cell?, x2]; rfl
    have fg0 : w2.frozen? ⟨w.heap.size + 1 + 1, 0, none⟩ = false := by simp only [World.frozen?, x2]; rfl
    have e1 : w2.cell? ⟨w.heap.size + 1, 1, none⟩ = some (.int .i64 0) := by simp only [World.cell?, x1]; rfl
    have fe1 : w2.frozen? ⟨w.heap.size + 1, 1, none⟩ = false := by simp only [World.frozen?, x1]; rfl
    have g1 : w2.cell? ⟨w.heap.size + 1 + 1, 1, none⟩ = some (.int .i64 0) := by simp only [World.cell?, x2]; rfl
    have fg1 : w2.frozen? ⟨w.heap.size + 1 + 1, 1, none⟩ = false := by simp only [World.frozen?, x2]; rfl
    have e2 : w2.cell? ⟨w.heap.size + 1, 2, none⟩ = some (.int .i64 0) := by simp only [World.cell?, x1]; rfl
    have fe2 : w2.frozen? ⟨w.heap.size + 1, 2, none⟩ = false := by simp only [World.frozen?, x1]; rfl
    have g2 : w2.cell? ⟨w.heap.size + 1 + 1, 2, none⟩ = some (.int .i64 0) := by simp only [World.cell?, x2]; rfl
    have fg2 : w2.frozen? ⟨w.heap.size + 1 + 1, 2, none⟩ = false := by simp only [World.frozen?, x2]; rfl
    have e3 : w2.cell? ⟨w.heap.size + 1, 3, none⟩ = some (.int .i64 0) := by simp only [World.cell?, x1]; rfl
    have fe3 : w2.frozen? ⟨w.heap.size + 1, 3, none⟩ = false := by simp only [World.frozen?, x1]; rfl
    have g3 : w2.cell? ⟨w.heap.size + 1 + 1, 3, none⟩ = some (.int .i64 0) := by simp only [World.cell?, x2]; rfl
    have fg3 : w2.frozen? ⟨w.heap.size + 1 + 1, 3, none⟩ = false := by simp only [World.frozen?, x2]; rfl
    have e4 : w2.cell? ⟨w.heap.size + 1, 4, none⟩ = some (.slice none 0 0) := by simp only [World.cell?, x1]; rfl
    have fe4 : w2.frozen? ⟨w.heap.size + 1, 4, none⟩ = false := by simp only [World.frozen?, x1]; rfl
    have g4 : w2.cell? ⟨w.heap.size + 1 + 1, 4, none⟩ = some (.slice none 0 0) := by simp only [World.cell?, x2]; rfl
    have fg4 : w2.frozen? ⟨w.heap.size + 1 + 1, 4, none⟩ = false := by simp only [World.frozen?, x2]; rfl
    have e5 : w2.cell? ⟨w.heap.size + 1, 5, none⟩ = some (.int .i64 0) := by simp only [World.cell?, x1]; rfl
    have fe5 : w2.frozen? ⟨w.heap.size + 1, 5, none⟩ = false := by simp only [World.frozen?, x1]; rfl
    have g5 : w2.cell? ⟨w.heap.size + 1 + 1, 5, none⟩ = some (.int .i64 0) := by simp only [World.cell?, x2]; rfl
    have fg5 : w2.frozen? ⟨w.heap.size + 1 + 1, 5, none⟩ = false := by simp only [World.frozen?, x2]; rfl
    have e6 : w2.cell? ⟨w.heap.size + 1, 6, none⟩ = some (.int .u64 0) := by simp only [World.cell?, x1]; rfl
    have fe6 : w2.frozen? ⟨w.heap.size + 1, 6, none⟩ = false := by simp only [World.frozen?, x1]; rfl
    have g6 : w2.cell? ⟨w.heap.size + 1 + 1, 6, none⟩ = some (.int .u64 0) := by simp only [World.cell?, x2]; rfl
    have fg6 : w2.frozen? ⟨w.heap.size + 1 + 1, 6, none⟩ = false := by simp only [World.frozen?, x2]; rfl
    clear x1 x2
    go_wp2_with fail
    refine bodyPost_ret (v := .agg #[.int .i64 1, .int .i64 (x : Int), .int .i64 0, .int .i64 0, .slice none 0 0, .int .i64 0, .int .u64 0]) (by simp [results, Tryz.results65, go_sem, e0, e1, e2, e3, e4, e5, e6]) rfl ⟨⟨1, (x : Int), 0, 0, [], 0, 0, none, 0⟩, rfl, ⟨rfl, rfl, rfl, rfl, rfl, rfl, rfl⟩, Cells.nil _ _, ?_, by simp⟩
    refine rleft_boxes HB.out HL.out L2.out (by repeat (first | (with_reducible exact Kept.refl _ _) | (with_reducible refine kept_set ?_ (by simp))))
  by_cases k2 : k = 2
  · subst k2
    have E1 := Lib.hid hw1
    clear hw1
    simp (config := { decide := true }) only [if_true, if_false, true_or, or_true, or_false]
    have CT := Lib.hid (L1.out.step (f := 117) (P := fun e => e = .returned (.int .i64 (R.count.2 : Int))) (fun hr => rcount_any hr))
    obtain ⟨q, hq⟩ : ∃ q, R.count = q := ⟨_, rfl⟩
    rw [hq] at CT ⊢
    clear hq
    obtain ⟨R2, x⟩ := q
    dsimp only at CT ⊢
    go_enter Tryz.func65, Tryz.ntmps65
    go_wp2_with fail
    rw [E1.out]
    refine CT.out.mono ?_
    rintro e w2 ⟨rfl, hl⟩
    have L2 := Lib.hid hl
    clear hl
    have x1 := L2.out.box BX.out.2.1 (by have := HL.out; omega)
    have x2 := L2.out.box BX.out.2.2 (by have := HL.out; omega)
    have e0 : w2.cell? ⟨w.heap.size + 1, 0, none⟩ = some (.int .i64 0) := by simp only [World.cell?, x1]; rfl
    have fe0 : w2.frozen? ⟨w.heap.size + 1, 0, none⟩ = false := by simp only [World.frozen?, x1]; rfl
    have g0 : w2.cell? ⟨w.heap.size + 1 + 1, 0, none⟩ = some (.int .i64 2) := by simp only [World.cell?, x2]; rfl
    have fg0 : w2.frozen? ⟨w.heap.size + 1 + 1, 0, none⟩ = false := by simp only [World.frozen?, x2]; rfl
    have e1 : w2.cell? ⟨w.heap.size + 1, 1, none⟩ = some (.int .i64 0) := by simp only [World.cell?, x1]; rfl
    have fe1 : w2.frozen? ⟨w.heap.size + 1, 1, none⟩ = false := by simp only [World.frozen?, x1]; rfl
    have g1 : w2.cell? ⟨w.heap.size + 1 + 1, 1, none⟩ = some (.int .i64 0) := by simp only [World.cell?, x2]; rfl
    have fg1 : w2.frozen? ⟨w.heap.size + 1 + 1, 1, none⟩ = false := by simp only [World.frozen?, x2]; rfl
    have e2 : w2.cell? ⟨w.heap.size + 1, 2, none⟩ = some (.int .i64 0) := by simp only [World.cell?, x1]; rfl
    have fe2 : w2.frozen? ⟨w.heap.size + 1, 2, none⟩ = false := by simp only [World.frozen?, x1]; rfl
    have g2 : w2.cell? ⟨w.heap.size + 1 + 1, 2, none⟩ = some (.int .i64 0) := by simp only [World.cell?, x2]; rfl
    have fg2 : w2.frozen? ⟨w.heap.size + 1 + 1, 2, none⟩ = false := by simp only [World.frozen?, x2]; rfl
    have e3 : w2.cell? ⟨w.heap.size + 1, 3, none⟩ = some (.int .i64 0) := by simp only [World.cell?, x1]; rfl
    have fe3 : w2.frozen? ⟨w.heap.size + 1, 3, none⟩ = false := by simp only [World.frozen?, x1]; rfl
    have g3 : w2.cell? ⟨w.heap.size + 1 + 1, 3, none⟩ = some (.int .i64 0) := by simp only [World.cell?, x2]; rfl
    have fg3 : w2.frozen? ⟨w.heap.size + 1 + 1, 3, none⟩ = false := by simp only [World.frozen?, x2]; rfl
    have e4 : w2.cell? ⟨w.heap.size + 1, 4, none⟩ = some (.slice none 0 0) := by simp only [World.cell?, x1]; rfl
    have fe4 : w2.frozen? ⟨w.heap.size + 1, 4, none⟩ = false := by simp only [World.frozen?, x1]; rfl
    have g4 : w2.cell? ⟨w.heap.size + 1 + 1, 4, none⟩ = some (.slice none 0 0) := by simp only [World.cell?, x2]; rfl
    have fg4 : w2.frozen? ⟨w.heap.size + 1 + 1, 4, none⟩ = false := by simp only [World.frozen?, x2]; rfl
    have e5 : w2.cell? ⟨w.heap.size + 1, 5, none⟩ = some (.int .i64 0) := by simp only [World.cell?, x1]; rfl
    have fe5 : w2.frozen? ⟨w.heap.size + 1, 5, none⟩ = false := by simp only [World.frozen?, x1]; rfl
    have g5 : w2.cell? ⟨w.heap.size + 1 + 1, 5, none⟩ = some (.int .i64 0) := by simp only [World.cell?, x2]; rfl
    have fg5 : w2.frozen? ⟨w.heap.size + 1 + 1, 5, none⟩ = false := by simp only [World.frozen?, x2]; rfl
    have e6 : w2.cell? ⟨w.heap.size + 1, 6, none⟩ = some (.int .u64 0) := by simp only [World.cell?, x1]; rfl
    have fe6 : w2.frozen? ⟨w.heap.size + 1, 6, none⟩ = false := by simp only [World.frozen?, x1]; rfl
    have g6 : w2.cell? ⟨w.heap.size + 1 + 1, 6, none⟩ = some (.int .u64 0) := by simp only [World.cell?, x2]; rfl
    have fg6 : w2.frozen? ⟨w.heap.size + 1 + 1, 6, none⟩ = false := by simp only [World.frozen?, x2]; rfl
    clear x1 x2
    go_wp2_with fail
    refine bodyPost_ret (v := .agg #[.int .i64 2, .int .i64 (x : Int), .int .i64 0, .int .i64 0, .slice none 0 0, .int .i64 0, .int .u64 0]) (by simp [results, Tryz.results65, go_sem, e0, e1, e2, e3, e4, e5, e6]) rfl ⟨⟨2, (x : Int), 0, 0, [], 0, 0, none, 0⟩, rfl, ⟨rfl, rfl, rfl, rfl, rfl, rfl, rfl⟩, Cells.nil _ _, ?_, by simp⟩
    refine rleft_boxes HB.out HL.out L2.out (by repeat (first | (with_reducible exact Kept.refl _ _) | (with_reducible refine kept_set ?_ (by simp))))
  by_cases k5 : k = 5
  · subst k5
    have E1 := Lib.hid hw1
    clear hw1
    simp (config := { decide := true }) only [if_true, if_false, true_or, or_true, or_false]
    have CT := Lib.hid (L1.out.step (f := 117) (P := fun e => e = .returned (.int .i64 (R.count.2 : Int))) (fun hr => rcount_any hr))
    obtain ⟨q, hq⟩ : ∃ q, R.count = q := ⟨_, rfl⟩
    rw [hq] at CT ⊢
    clear hq
    obtain ⟨R2, x⟩ := q
    dsimp only at CT ⊢
    go_enter Tryz.func65, Tryz.ntmps65
    go_wp2_with fail
    rw [E1.out]
    refine CT.out.mono ?_
    rintro e w2 ⟨rfl, hl⟩
    have L2 := Lib.hid hl
    clear hl
    have x1 := L2.out.box BX.out.2.1 (by have := HL.out; omega)
    have x2 := L2.out.box BX.out.2.2 (by have := HL.out; omega)
    have e0 : w2.cell? ⟨w.heap.size + 1, 0, none⟩ = some (.int .i64 0) := by simp only [World.cell?, x1]; rfl
    have fe0 : w2.frozen? ⟨w.heap.size + 1, 0, none⟩ = false := by simp only [World.frozen?, x1]; rfl
    have g0 : w2.cell? ⟨w.heap.size + 1 + 1, 0, none⟩ = some (.int .i64 5) := by simp only [World.cell?, x2]; rfl
    have fg0 : w2.frozen? ⟨w.heap.size + 1 + 1, 0, none⟩ = false := by simp only [World.frozen?, x2]; rfl
    have e1 : w2.cell? ⟨w.heap.size + 1, 1, none⟩ = some (.int .i64 0) := by simp only [World.cell?, x1]; rfl
    have fe1 : w2.frozen? ⟨w.heap.size + 1, 1, none⟩ = false := by simp only [World.frozen?, x1]; rfl
    have g1 : w2.cell? ⟨w.heap.size + 1 + 1, 1, none⟩ = some (.int .i64 0) := by simp only [World.cell?, x2]; rfl
    have fg1 : w2.frozen? ⟨w.heap.size + 1 + 1, 1, none⟩ = false := by simp only [World.frozen?, x2]; rfl
    have e2 : w2.cell? ⟨w.heap.size + 1, 2, none⟩ = some (.int .i64 0) := by simp only [World.cell?, x1]; rfl
    have fe2 : w2.frozen? ⟨w.heap.size + 1, 2, none⟩ = false := by simp only [World.frozen?, x1]; rfl
    have g2 : w2.cell? ⟨w.heap.size + 1 + 1, 2, none⟩ = some (.int .i64 0) := by simp only [World.cell?, x2]; rfl
    have fg2 : w2.frozen? ⟨w.heap.size + 1 + 1, 2, none⟩ = false := by simp only [World.frozen?, x2]; rfl
    have e3 : w2.cell? ⟨w.heap.size + 1, 3, none⟩ = some (.int .i64 0) := by simp only [World.cell?, x1]; rfl
    have fe3 : w2.frozen? ⟨w.heap.size + 1, 3, none⟩ = false := by simp only [World.frozen?, x1]; rfl
    have g3 : w2.cell? ⟨w.heap.size + 1 + 1, 3, none⟩ = some (.int .i64 0) := by simp only [World.cell?, x2]; rfl
    have fg3 : w2.frozen? ⟨w.heap.size + 1 + 1, 3, none⟩ = false := by simp only [World.frozen?, x2]; rfl
    have e4 : w2.cell? ⟨w.heap.size + 1, 4, none⟩ = some (.slice none 0 0) := by simp only [World.cell?, x1]; rfl
    have fe4 : w2.frozen? ⟨w.heap.size + 1, 4, none⟩ = false := by simp only [World.frozen?, x1]; rfl
    have g4 : w2.cell? ⟨w.heap.size + 1 + 1, 4, none⟩ = some (.slice none 0 0) := by simp only [World.cell?, x2]; rfl
    have fg4 : w2.frozen? ⟨w.heap.size + 1 + 1, 4, none⟩ = false := by simp only [World.frozen?, x2]; rfl
    have e5 : w2.cell? ⟨w.heap.size + 1, 5, none⟩ = some (.int .i64 0) := by simp only [World.cell?, x1]; rfl
    have fe5 : w2.frozen? ⟨w.heap.size + 1, 5, none⟩ = false := by simp only [World.frozen?, x1]; rfl
    have g5 : w2.cell? ⟨w.heap.size + 1 + 1, 5, none⟩ = some (.int .i64 0) := by simp only [World.cell?, x2]; rfl
    have fg5 : w2.frozen? ⟨w.heap.size + 1 + 1, 5, none⟩ = false := by simp only [World.frozen?, x2]; rfl
    have e6 : w2.cell? ⟨w.heap.size + 1, 6, none⟩ = some (.int .u64 0) := by simp only [World.cell?, x1]; rfl
    have fe6 : w2.frozen? ⟨w.heap.size + 1, 6, none⟩ = false := by simp only [World.frozen?, x1]; rfl
    have g6 : w2.cell? ⟨w.heap.size + 1 + 1, 6, none⟩ = some (.int .u64 0) := by simp only [World.cell?, x2]; rfl
    have fg6 : w2.frozen? ⟨w.heap.size + 1 + 1, 6, none⟩ = false := by simp only [World.frozen?, x2]; rfl
    clear x1 x2
    go_wp2_with fail
    refine bodyPost_ret (v := .agg #[.int .i64 5, .int .i64 0, .int .i64 0, .int .i64 0, .slice none 0 0, .int .i64 (x : Int), .int .u64 0]) (by simp [results, Tryz.results65, go_sem, e0, e1, e2, e3, e4, e5, e6]) rfl ⟨⟨5, 0, 0, 0, [], (x : Int), 0, none, 0⟩, rfl, ⟨rfl, rfl, rfl, rfl, rfl, rfl, rfl⟩, Cells.nil _ _, ?_, by simp⟩
    refine rleft_boxes HB.out HL.out L2.out (by repeat (first | (with_reducible exact Kept.refl _ _) | (with_reducible refine kept_set ?_ (by simp))))
  by_cases k6 : k = 6
  · subst k6
    have E1 := Lib.hid hw1
    clear hw1
    simp (config := { decide := true }) only [if_true, if_false, true_or, or_true, or_false]
    have CT := Lib.hid (L1.out.step (f := 117) (P := fun e => e = .returned (.int .i64 (R.count.2 : Int))) (fun hr => rcount_any hr))
    obtain ⟨q, hq⟩ : ∃ q, R.count = q := ⟨_, rfl⟩
    rw [hq] at CT ⊢
    clear hq
    obtain ⟨R2, x⟩ := q
    dsimp only at CT ⊢
    go_enter Tryz.func65, Tryz.ntmps65
    go_wp2_with fail
    rw [E1.out]
    refine CT.out.mono ?_
    rintro e w2 ⟨rfl, hl⟩
    have L2 := Lib.hid hl
    clear hl
    have x1 := L2.out.box BX.out.2.1 (by have := HL.out; omega)
    have x2 := L2.out.box BX.out.2.2 (by have := HL.out; omega)
    have e0 : w2.cell? ⟨w.heap.size + 1, 0, none⟩ = some (.int .i64 0) := by simp only [World.cell?, x1]; rfl
    have fe0 : w2.frozen? ⟨w.heap.size + 1, 0, none⟩ = false := by simp only [World.frozen?, x1]; rfl
    have g0 : w2.cell? ⟨w.heap.size + 1 + 1, 0, none⟩ = some (.int .i64 6) := by simp only [World.cell?, x2]; rfl
    have fg0 : w2.frozen? ⟨w.heap.size + 1 + 1, 0, none⟩ = false := by simp only [World.frozen?, x2]; rfl
    have e1 : w2.cell? ⟨w.heap.size + 1, 1, none⟩ = some (.int .i64 0) := by simp only [World.cell?, x1]; rfl
    have fe1 : w2.frozen? ⟨w.heap.size + 1, 1, none⟩ = false := by simp only [World.frozen?, x1]; rfl
    have g1 : w2.cell? ⟨w.heap.size + 1 + 1, 1, none⟩ = some (.int .i64 0) := by simp only [World.cell?, x2]; rfl
    have fg1 : w2.frozen? ⟨w.heap.size + 1 + 1, 1, none⟩ = false := by simp only [World.frozen?, x2]; rfl
    have e2 : w2.cell? ⟨w.heap.size + 1, 2, none⟩ = some (.int .i64 0) := by simp only [World.cell?, x1]; rfl
    have fe2 : w2.frozen? ⟨w.heap.size + 1, 2, none⟩ = false := by simp only [World.frozen?, x1]; rfl
    have g2 : w2.cell? ⟨w.heap.size + 1 + 1, 2, none⟩ = some (.int .i64 0) := by simp only [World.cell?, x2]; rfl
    have fg2 : w2.frozen? ⟨w.heap.size + 1 + 1, 2, none⟩ = false := by simp only [World.frozen?, x2]; rfl
    have e3 : w2.cell? ⟨w.heap.size + 1, 3, none⟩ = some (.int .i64 0) := by simp only [World.cell?, x1]; rfl
    have fe3 : w2.frozen? ⟨w.heap.size + 1, 3, none⟩ = false := by simp only [World.frozen?, x1]; rfl
    have g3 : w2.cell? ⟨w.heap.size + 1 + 1, 3, none⟩ = some (.int .i64 0) := by simp only [World.cell?, x2]; rfl
    have fg3 : w2.frozen? ⟨w.heap.size + 1 + 1, 3, none⟩ = false := by simp only [World.frozen?, x2]; rfl
    have e4 : w2.cell? ⟨w.heap.size + 1, 4, none⟩ = some (.slice none 0 0) := by simp only [World.cell?, x1]; rfl
    have fe4 : w2.frozen? ⟨w.heap.size + 1, 4, none⟩ = false := by simp only [World.frozen?, x1]; rfl
    have g4 : w2.cell? ⟨w.heap.size + 1 + 1, 4, none⟩ = some (.slice none 0 0) := by simp only [World.cell?, x2]; rfl
    have fg4 : w2.frozen? ⟨w.heap.size + 1 + 1, 4, none⟩ = false := by simp only [World.frozen?, x2]; rfl
    have e5 : w2.cell? ⟨w.heap.size + 1, 5, none⟩ = some (.int .i64 0) := by simp only [World.cell?, x1]; rfl
    have fe5 : w2.frozen? ⟨w.heap.size + 1, 5, none⟩ = false := by simp only [World.frozen?, x1]; rfl
    have g5 : w2.cell? ⟨w.heap.size + 1 + 1, 5, none⟩ = some (.int .i64 0) := by simp only [World.cell?, x2]; rfl
    have fg5 : w2.frozen? ⟨w.heap.size + 1 + 1, 5, none⟩ = false := by simp only [World.frozen?, x2]; rfl
    have e6 : w2.cell? ⟨w.heap.size + 1, 6, none⟩ = some (.int .u64 0) := by simp only [World.cell?, x1]; rfl
    have fe6 : w2.frozen? ⟨w.heap.size + 1, 6, none⟩ = false := by simp only [World.frozen?, x1]; rfl
    have g6 : w2.cell? ⟨w.heap.size + 1 + 1, 6, none⟩ = some (.int .u64 0) := by simp only [World.cell?, x2]; rfl
    have fg6 : w2.frozen? ⟨w.heap.size + 1 + 1, 6, none⟩ = false := by simp only [World.frozen?, x2]; rfl
    clear x1 x2
    go_wp2_with fail
    refine bodyPost_ret (v := .agg #[.int .i64 6, .int .i64 0, .int .i64 (x : Int), .int .i64 0, .slice none 0 0, .int .i64 0, .int .u64 0]) (by simp [results, Tryz.results65, go_sem, e0, e1, e2, e3, e4, e5, e6]) rfl ⟨⟨6, 0, (x : Int), 0, [], 0, 0, none, 0⟩, rfl, ⟨rfl, rfl, rfl, rfl, rfl, rfl, rfl⟩, Cells.nil _ _, ?_, by simp⟩
    refine rleft_boxes HB.out HL.out L2.out (by repeat (first | (with_reducible exact Kept.refl _ _) | (with_reducible refine kept_set ?_ (by simp))))
  by_cases k3 : k = 3
  · subst k3
    have E1 := Lib.hid hw1
    clear hw1 k1 k2 k5 k6
    simp (config := { decide := true }) only [if_true, if_false, true_or, or_true, or_false]
    have CA := Lib.hid (fun (wi : World) (hh : RLeft w1 rb R wi) => hh.step (f := 117) (P := fun e => e = .returned (.int .i64 (R.count.2 : Int))) (fun hr => rcount_any hr))
    obtain ⟨q, hq⟩ : ∃ q, R.count = q := ⟨_, rfl⟩
    rw [hq] at CA ⊢
    clear hq
    obtain ⟨Ra, xa⟩ := q
    dsimp only at CA ⊢
    have CB := Lib.hid (fun (wi : World) (hh : RLeft w1 rb Ra wi) => hh.step (f := 117) (P := fun e => e = .returned (.int .i64 (Ra.count.2 : Int))) (fun hr => rcount_any hr))
    obtain ⟨q, hq⟩ : ∃ q, Ra.count = q := ⟨_, rfl⟩
    rw [hq] at CB ⊢
    clear hq
    obtain ⟨Rb, xb⟩ := q
    dsimp only at CB ⊢
    have CC := Lib.hid (fun (wi : World) (hh : RLeft w1 rb Rb wi) => hh.step (f := 66) (P := fun e => e = .returned (.int .i64 (Rb.byte.2 : Int))) (fun hr => rbyte_any hr))
    obtain ⟨q, hq⟩ : ∃ q, Rb.byte = q := ⟨_, rfl⟩
    rw [hq] at CC ⊢
    clear hq
    obtain ⟨Rc, xc⟩ := q
    dsimp only at CC ⊢
    have CD := Lib.hid (fun (wz wi : World) (hh : RLeft wz rb Rc wi) => hh.step (f := 117) (P := fun e => e = .returned (.int .i64 (Rc.count.2 : Int))) (fun hr => rcount_any hr))
    have hN64 : In64 (Rc.count.2 : Int) := by
      have := Rc.number_le 9223372036854775807
      unfold Rdr.count In64
      dsimp only
      omega
    obtain ⟨q, hq⟩ : ∃ q, Rc.count = q := ⟨_, rfl⟩
    rw [hq] at CD hN64 ⊢
    clear hq
    obtain ⟨Rd, xd⟩ := q
    dsimp only at CD hN64 ⊢
    have CE := Lib.hid (fun (wi : World) (hr : RdAt wi rb Rd) => scanIns_any hr (xc : Int) (xd : Int) hN64)
    obtain ⟨q, hq⟩ : ∃ q, Rd.inputs (xc : Int) (xd : Int) = q := ⟨_, rfl⟩
    rw [hq] at CE ⊢
    clear hq hN64
    obtain ⟨Re, li⟩ := q
    dsimp only at CE ⊢
    go_enter Tryz.func65, Tryz.ntmps65
    go_wp2_with fail
    rw [E1.out]
    have hbx := BX.out.1
    have c0 : w1.cell? ⟨w.heap.size, 0, none⟩ = some (.pointer (some ⟨rb, 0, none⟩)) := by simp only [World.cell?, hbx]; rfl
    have hs1 : RLeft w1 rb R w1 := L1.out
    have FAR := Lib.hid (fun (wz : World) (i : Nat) (v : Value) => World.cell?_setCell_far wz ⟨w.heap.size + 1 + 1, i, none⟩ ⟨w.heap.size, 0, none⟩ v (by simp; omega))
    clear hbx
    go_upto_region 7 with (fail)
    apply meetF (R := fun wx => wx.heap[w.heap.size + 1 + 1]? = some (.cells #[.int .i64 3, .int .i64 0, .int .i64 xa, .int .i64 xc, .slice none 0 0, .int .i64 xb, .int .u64 0] 57 (0, 0)) ∧ ∃ wy, RLeft w1 rb Rc wy ∧ Kept [w.heap.size + 1 + 1] wy wx)
    case h =>
      go_region_held3 (fun w' => w'.cell? ⟨w.heap.size, 0, none⟩ = some (.pointer (some ⟨rb, 0, none⟩)))
        ((first | assumption | (simp only [World.cell?, hbz]; rfl) | (rw [FAR.out]; assumption)))
        (first
          | (go_at_call 117; (with_reducible refine (CA.out _ ?_).mono ?_); (first | assumption | exact ⟨hs1.1, hs1.2.drew⟩); rintro e w' ⟨rfl, hs2⟩; have hbz := hs2.box BX.out.1 (by have := HL.out; omega))
          | (go_at_call 117; (with_reducible refine (CB.out _ ?_).mono ?_); assumption; rintro e w' ⟨rfl, hs3⟩; have hbz := hs3.box BX.out.1 (by have := HL.out; omega))
          | (go_at_call 66; (with_reducible refine (CC.out _ ?_).mono ?_); assumption; rintro e w' ⟨rfl, hs4⟩; have hbz := hs4.box BX.out.1 (by have := HL.out; omega); have hb5 := hs4.box BX.out.2.2 (by have := HL.out; omega); have t2 : w'.cell? ⟨w.heap.size + 1 + 1, 2, none⟩ = some (.int .i64 0) := (by simp only [World.cell?, hb5]; rfl); have ft2 : w'.frozen? ⟨w.heap.size + 1 + 1, 2, none⟩ = false := (by simp only [World.frozen?, hb5]; rfl); have t3 : w'.cell? ⟨w.heap.size + 1 + 1, 3, none⟩ = some (.int .i64 0) := (by simp only [World.cell?, hb5]; rfl); have ft3 : w'.frozen? ⟨w.heap.size + 1 + 1, 3, none⟩ = false := (by simp only [World.frozen?, hb5]; rfl); have t5 : w'.cell? ⟨w.heap.size + 1 + 1, 5, none⟩ = some (.int .i64 0) := (by simp only [World.cell?, hb5]; rfl); have ft5 : w'.frozen? ⟨w.heap.size + 1 + 1, 5, none⟩ = false := (by simp only [World.frozen?, hb5]; rfl)))
      all_goals exact ⟨rfl, (heap_setCell_of' (heap_setCell_of' (heap_setCell_of' hb5 _ _) _ _) _ _).trans rfl, w', hs4, by repeat (first | (with_reducible exact Kept.refl _ _) | (with_reducible refine kept_set ?_ (by simp)))⟩
    case k =>
      rintro wx ⟨d, wy, hy, hk⟩
      have y0 := (hk.block w.heap.size (Array.getElem?_eq_some_iff.1 (hy.box BX.out.1 (by have := HL.out; omega))).1 (by simp; omega)).trans (hy.box BX.out.1 (by have := HL.out; omega))
      have x1 := (hk.block (w.heap.size + 1) (Array.getElem?_eq_some_iff.1 (hy.box BX.out.2.1 (by have := HL.out; omega))).1 (by simp)).trans (hy.box BX.out.2.1 (by have := HL.out; omega))
      have c0x : wx.cell? ⟨w.heap.size, 0, none⟩ = some (.pointer (some ⟨rb, 0, none⟩)) := by simp only [World.cell?, y0]; rfl
      have q3x : wx.cell? ⟨w.heap.size + 1 + 1, 3, none⟩ = some (.int .i64 xc) := by simp only [World.cell?, d]; rfl
      have hsx : RLeft wx rb Rc wx := RLeft.start (hy.1.kept hk (by have := HL.out; simp; omega))
      have DD := Lib.hid (And.intro d (And.intro x1 y0))
      have FAR4 := Lib.hid (fun (wz : World) (v : Value) => World.cell?_setCell_other wz ⟨w.heap.size + 1 + 1, 4, none⟩ ⟨w.heap.size + 1 + 1, 3, none⟩ v (by simp))
      have HY := Lib.hid (And.intro hy hk)
      clear d y0 x1 hy hk c0 hs1
      go_wp2_with fail
      go_region_held3 (fun w' => w'.cell? ⟨w.heap.size, 0, none⟩ = some (.pointer (some ⟨rb, 0, none⟩)) ∧ w'.cell? ⟨w.heap.size + 1 + 1, 3, none⟩ = some (.int .i64 xc))
        ((first | assumption | exact ⟨by assumption, by assumption⟩ | exact ⟨by simp only [World.cell?, hbz]; rfl, by simp only [World.cell?, hb5]; rfl⟩ | (exact ⟨by rw [FAR.out]; simp only [World.cell?, hbz]; rfl, by rw [FAR4.out]; exact t3⟩)))
        (first
          | (go_at_call 117; (with_reducible refine (CD.out wx _ ?_).mono ?_); (first | assumption | exact ⟨hsx.1, hsx.2.drew⟩); rintro e w' ⟨rfl, hs5⟩; have hbz := hs5.box DD.out.2.2 (by have := HL.out; omega); have hb5 := hs5.box DD.out.1 (by have := HL.out; omega))
          | (go_at_call 118; (with_reducible refine (CE.out _ ?_).mono ?_); (exact hs5.1); rintro e w' ⟨X5, c5, rfl, hC5, hl5, hX5⟩; have hs6 : RLeft wx rb Re w' := ⟨hl5.1, hs5.2.trans hl5.2 (by simp)⟩; have hz5 := hs5.2.size; have hbz := hs6.box DD.out.2.2 (by have := HL.out; omega); have hb5 := hs6.box DD.out.1 (by have := HL.out; omega); have hb1 := hs6.box DD.out.2.1 (by have := HL.out; omega); have t0 : w'.cell? ⟨w.heap.size + 1 + 1, 0, none⟩ = some (.int .i64 3) := (by simp only [World.cell?, hb5]; rfl); have ft0 : w'.frozen? ⟨w.heap.size + 1 + 1, 0, none⟩ = false := (by simp only [World.frozen?, hb5]; rfl); have t1 : w'.cell? ⟨w.heap.size + 1 + 1, 1, none⟩ = some (.int .i64 0) := (by simp only [World.cell?, hb5]; rfl); have ft1 : w'.frozen? ⟨w.heap.size + 1 + 1, 1, none⟩ = false := (by simp only [World.frozen?, hb5]; rfl); have t2 : w'.cell? ⟨w.heap.size + 1 + 1, 2, none⟩ = some (.int .i64 xa) := (by simp only [World.cell?, hb5]; rfl); have ft2 : w'.frozen? ⟨w.heap.size + 1 + 1, 2, none⟩ = false := (by simp only [World.frozen?, hb5]; rfl); have t3 : w'.cell? ⟨w.heap.size + 1 + 1, 3, none⟩ = some (.int .i64 xc) := (by simp only [World.cell?, hb5]; rfl); have ft3 : w'.frozen? ⟨w.heap.size + 1 + 1, 3, none⟩ = false := (by simp only [World.frozen?, hb5]; rfl); have t4 : w'.cell? ⟨w.heap.size + 1 + 1, 4, none⟩ = some (.slice none 0 0) := (by simp only [World.cell?, hb5]; rfl); have ft4 : w'.frozen? ⟨w.heap.size + 1 + 1, 4, none⟩ = false := (by simp only [World.frozen?, hb5]; rfl); have t5 : w'.cell? ⟨w.heap.size + 1 + 1, 5, none⟩ = some (.int .i64 xb) := (by simp only [World.cell?, hb5]; rfl); have ft5 : w'.frozen? ⟨w.heap.size + 1 + 1, 5, none⟩ = false := (by simp only [World.frozen?, hb5]; rfl); have t6 : w'.cell? ⟨w.heap.size + 1 + 1, 6, none⟩ = some (.int .u64 0) := (by simp only [World.cell?, hb5]; rfl); have ft6 : w'.frozen? ⟨w.heap.size + 1 + 1, 6, none⟩ = false := (by simp only [World.frozen?, hb5]; rfl); have u0 : w'.cell? ⟨w.heap.size + 1, 0, none⟩ = some (.int .i64 0) := (by simp only [World.cell?, hb1]; rfl); have fu0 : w'.frozen? ⟨w.heap.size + 1, 0, none⟩ = false := (by simp only [World.frozen?, hb1]; rfl); have u1 : w'.cell? ⟨w.heap.size + 1, 1, none⟩ = some (.int .i64 0) := (by simp only [World.cell?, hb1]; rfl); have fu1 : w'.frozen? ⟨w.heap.size + 1, 1, none⟩ = false := (by simp only [World.frozen?, hb1]; rfl); have u2 : w'.cell? ⟨w.heap.size + 1, 2, none⟩ = some (.int .i64 0) := (by simp only [World.cell?, hb1]; rfl); have fu2 : w'.frozen? ⟨w.heap.size + 1, 2, none⟩ = false := (by simp only [World.frozen?, hb1]; rfl); have u3 : w'.cell? ⟨w.heap.size + 1, 3, none⟩ = some (.int .i64 0) := (by simp only [World.cell?, hb1]; rfl); have fu3 : w'.frozen? ⟨w.heap.size + 1, 3, none⟩ = false := (by simp only [World.frozen?, hb1]; rfl); have u4 : w'.cell? ⟨w.heap.size + 1, 4, none⟩ = some (.slice none 0 0) := (by simp only [World.cell?, hb1]; rfl); have fu4 : w'.frozen? ⟨w.heap.size + 1, 4, none⟩ = false := (by simp only [World.frozen?, hb1]; rfl); have u5 : w'.cell? ⟨w.heap.size + 1, 5, none⟩ = some (.int .i64 0) := (by simp only [World.cell?, hb1]; rfl); have fu5 : w'.frozen? ⟨w.heap.size + 1, 5, none⟩ = false := (by simp only [World.frozen?, hb1]; rfl); have u6 : w'.cell? ⟨w.heap.size + 1, 6, none⟩ = some (.int .u64 0) := (by simp only [World.cell?, hb1]; rfl); have fu6 : w'.frozen? ⟨w.heap.size + 1, 6, none⟩ = false := (by simp only [World.frozen?, hb1]; rfl)))
      all_goals
        have RL : Hid (∀ w9, Kept [w.heap.size + 1, w.heap.size + 1 + 1] w' w9 → Cells w9 X5 (iv li) ∧ RLeft w rb Re w9 ∧ ∀ b o, X5 = some ⟨b, o, none⟩ → w.heap.size ≤ b) := Lib.hid (fun w9 h9 => by
          have hsz : w.heap.size + 3 ≤ wx.heap.size := by
            have h1 := (Array.getElem?_eq_some_iff.1 DD.out.1).1
            omega
          refine ⟨hC5.kept h9 (fun b o hb => by have := hX5 b o hb; simp; omega), ⟨hs6.1.kept h9 (by have := HL.out; simp; omega), ?_⟩, fun b o hb => by have := hX5 b o hb; omega⟩
          have k1 : Kept [rb, w.heap.size + 1 + 1] w wx := ((Kept.of_below (fp := [rb, w.heap.size + 1 + 1]) HB.out).trans HY.out.1.2 (by simp)).trans HY.out.2 (by simp)
          have k2 : Kept [rb, w.heap.size + 1 + 1] w w9 := (k1.trans hs6.2 (by simp)).trans h9 (by first | (simp; done) | (simp; omega))
          exact k2.drop (by omega))
        clear hX5 hC5 hs6 hs5 hl5 hsx
        go_wp2_with fail
        refine bodyPost_ret (v := .agg #[.int .i64 3, .int .i64 0, .int .i64 xa, .int .i64 xc, .slice X5 li.length c5, .int .i64 xb, .int .u64 0]) (by simp [results, Tryz.results65, go_sem, u0, u1, u2, u3, u4, u5, u6]) rfl ⟨⟨3, 0, xa, xc, li, xb, 0, X5, c5⟩, rfl, ⟨rfl, rfl, rfl, rfl, rfl, rfl, rfl⟩, ?_⟩
        refine RL.out _ ?_
        repeat (first | (with_reducible exact Kept.refl _ _) | (with_reducible refine kept_set ?_ (by simp)))
  by_cases k4 : k = 4
  · subst k4
    have E1 := Lib.hid hw1
    clear hw1 k1 k2 k3 k5 k6
    simp (config := { decide := true }) only [if_true, if_false, true_or, or_true, or_false]
    have CT := Lib.hid (fun (wi : World) (hh : RLeft w1 rb R wi) => hh.step (f := 117) (P := fun e => e = .returned (.int .i64 (R.count.2 : Int))) (fun hr => rcount_any hr))
    obtain ⟨q, hq⟩ : ∃ q, R.count = q := ⟨_, rfl⟩
    rw [hq] at CT ⊢
    clear hq
    obtain ⟨R2, x⟩ := q
    dsimp only at CT ⊢
    have CN := Lib.hid (fun (wi : World) (hh : RLeft w1 rb R2 wi) => hh.step (f := 119) (P := fun e => e = .returned (.int .i64 R2.num.2)) (fun hr => rnum_any hr))
    obtain ⟨q, hq⟩ : ∃ q, R2.num = q := ⟨_, rfl⟩
    rw [hq] at CN ⊢
    clear hq
    obtain ⟨R3, y⟩ := q
    dsimp only at CN ⊢
    go_enter Tryz.func65, Tryz.ntmps65
    go_wp2_with fail
    rw [E1.out]
    have hbx := BX.out.1
    have c0 : w1.cell? ⟨w.heap.size, 0, none⟩ = some (.pointer (some ⟨rb, 0, none⟩)) := by simp only [World.cell?, hbx]; rfl
    have hs1 : RLeft w1 rb R w1 := L1.out
    have FAR := Lib.hid (fun (wz : World) (i : Nat) (v : Value) => World.cell?_setCell_far wz ⟨w.heap.size + 1 + 1, i, none⟩ ⟨w.heap.size, 0, none⟩ v (by simp; omega))
    clear hbx
    apply meetF (R := fun wx => wx.heap[w.heap.size + 1 + 1]? = some (.cells #[.int .i64 4, .int .i64 0, .int .i64 x, .int .i64 0, .slice none 0 0, .int .i64 0, .int .u64 (IntKind.u64.wrap y)] 57 (0, 0)) ∧ ∃ wy, RLeft w1 rb R3 wy ∧ Kept [w.heap.size + 1 + 1] wy wx)
    case h =>
      go_region_held3 (fun w' => w'.cell? ⟨w.heap.size, 0, none⟩ = some (.pointer (some ⟨rb, 0, none⟩)))
        ((first | assumption | (simp only [World.cell?, hbz]; rfl) | (rw [FAR.out]; assumption)))
        (first
          | (go_at_call 117; (with_reducible refine (CT.out _ ?_).mono ?_); (first | assumption | exact ⟨hs1.1, hs1.2.drew⟩); rintro e w' ⟨rfl, hs2⟩; have hbz := hs2.box BX.out.1 (by have := HL.out; omega))
          | (go_at_call 119; (with_reducible refine (CN.out _ ?_).mono ?_); assumption; rintro e w' ⟨rfl, hs3⟩; have hbz := hs3.box BX.out.1 (by have := HL.out; omega); have hb5 := hs3.box BX.out.2.2 (by have := HL.out; omega); have t2 : w'.cell? ⟨w.heap.size + 1 + 1, 2, none⟩ = some (.int .i64 0) := (by simp only [World.cell?, hb5]; rfl); have ft2 : w'.frozen? ⟨w.heap.size + 1 + 1, 2, none⟩ = false := (by simp only [World.frozen?, hb5]; rfl); have t6 : w'.cell? ⟨w.heap.size + 1 + 1, 6, none⟩ = some (.int .u64 0) := (by simp only [World.cell?, hb5]; rfl); have ft6 : w'.frozen? ⟨w.heap.size + 1 + 1, 6, none⟩ = false := (by simp only [World.frozen?, hb5]; rfl)))
      all_goals exact ⟨rfl, (heap_setCell_of' (heap_setCell_of' hb5 _ _) _ _).trans rfl, w', hs3, by repeat (first | (with_reducible exact Kept.refl _ _) | (with_reducible refine kept_set ?_ (by simp)))⟩
    case k =>
      rintro wx ⟨d, wy, hy, hk⟩
      have x1' := hy.box BX.out.2.1 (by have := HL.out; omega)
      have x1 := (hk.block (w.heap.size + 1) (Array.getElem?_eq_some_iff.1 x1').1 (by simp)).trans x1'
      have e0 : wx.cell? ⟨w.heap.size + 1, 0, none⟩ = some (.int .i64 0) := by simp only [World.cell?, x1]; rfl
      have fe0 : wx.frozen? ⟨w.heap.size + 1, 0, none⟩ = false := by simp only [World.frozen?, x1]; rfl
      have g0 : wx.cell? ⟨w.heap.size + 1 + 1, 0, none⟩ = some (.int .i64 4) := by simp only [World.cell?, d]; rfl
      have e1 : wx.cell? ⟨w.heap.size + 1, 1, none⟩ = some (.int .i64 0) := by simp only [World.cell?, x1]; rfl
      have fe1 : wx.frozen? ⟨w.heap.size + 1, 1, none⟩ = false := by simp only [World.frozen?, x1]; rfl
      have g1 : wx.cell? ⟨w.heap.size + 1 + 1, 1, none⟩ = some (.int .i64 0) := by simp only [World.cell?, d]; rfl
      have e2 : wx.cell? ⟨w.heap.size + 1, 2, none⟩ = some (.int .i64 0) := by simp only [World.cell?, x1]; rfl
      have fe2 : wx.frozen? ⟨w.heap.size + 1, 2, none⟩ = false := by simp only [World.frozen?, x1]; rfl
      have g2 : wx.cell? ⟨w.heap.size + 1 + 1, 2, none⟩ = some (.int .i64 x) := by simp only [World.cell?, d]; rfl
      have e3 : wx.cell? ⟨w.heap.size + 1, 3, none⟩ = some (.int .i64 0) := by simp only [World.cell?, x1]; rfl
      have fe3 : wx.frozen? ⟨w.heap.size + 1, 3, none⟩ = false := by simp only [World.frozen?, x1]; rfl
      have g3 : wx.cell? ⟨w.heap.size + 1 + 1, 3, none⟩ = some (.int .i64 0) := by simp only [World.cell?, d]; rfl
      have e4 : wx.cell? ⟨w.heap.size + 1, 4, none⟩ = some (.slice none 0 0) := by simp only [World.cell?, x1]; rfl
      have fe4 : wx.frozen? ⟨w.heap.size + 1, 4, none⟩ = false := by simp only [World.frozen?, x1]; rfl
      have g4 : wx.cell? ⟨w.heap.size + 1 + 1, 4, none⟩ = some (.slice none 0 0) := by simp only [World.cell?, d]; rfl
      have e5 : wx.cell? ⟨w.heap.size + 1, 5, none⟩ = some (.int .i64 0) := by simp only [World.cell?, x1]; rfl
      have fe5 : wx.frozen? ⟨w.heap.size + 1, 5, none⟩ = false := by simp only [World.frozen?, x1]; rfl
      have g5 : wx.cell? ⟨w.heap.size + 1 + 1, 5, none⟩ = some (.int .i64 0) := by simp only [World.cell?, d]; rfl
      have e6 : wx.cell? ⟨w.heap.size + 1, 6, none⟩ = some (.int .u64 0) := by simp only [World.cell?, x1]; rfl
      have fe6 : wx.frozen? ⟨w.heap.size + 1, 6, none⟩ = false := by simp only [World.frozen?, x1]; rfl
      have g6 : wx.cell? ⟨w.heap.size + 1 + 1, 6, none⟩ = some (.int .u64 (IntKind.u64.wrap y)) := by simp only [World.cell?, d]; rfl
      have HY := Lib.hid (And.intro hy hk)
      clear x1 x1' d hy hk
      go_wp2_with fail
      refine bodyPost_ret (v := .agg #[.int .i64 4, .int .i64 0, .int .i64 x, .int .i64 0, .slice none 0 0, .int .i64 0, .int .u64 (IntKind.u64.wrap y)]) (by simp [results, Tryz.results65, go_sem, e0, e1, e2, e3, e4, e5, e6]) rfl ⟨⟨4, 0, x, 0, [], 0, IntKind.u64.wrap y, none, 0⟩, rfl, ⟨rfl, rfl, rfl, rfl, rfl, rfl, rfl⟩, Cells.nil _ _, ?_, by simp⟩
      refine rleft_boxes HB.out HL.out HY.out.1 ((HY.out.2.mono (by simp)).trans (fp' := [w.heap.size + 1]) ?_ (by simp))
      repeat (first | (with_reducible exact Kept.refl _ _) | (with_reducible refine kept_set ?_ (by simp)))
  simp only [k1, k2, k3, k4, k5, k6, or_self, if_false]
  clear hw1
  go_enter Tryz.func65, Tryz.ntmps65
  go_wp2_with fail
  exact bodyPost_ret (v := .agg #[.int .i64 k, .int .i64 0, .int .i64 0, .int .i64 0, .slice none 0 0, .int .i64 0, .int .u64 0]) (by simp [results, Tryz.results65, go_sem, w3_cell]) rfl ⟨⟨k, 0, 0, 0, [], 0, 0, none, 0⟩, rfl, ⟨rfl, rfl, rfl, rfl, rfl, rfl, rfl⟩, Cells.nil _ _, ⟨H0.out.below (w3_below ..), Kept.of_below (w3_below ..)⟩, by simp⟩

end Go.Proofs.YtpidjmgapiekaaaGreatDoor
