/- This text proves whether a packet can be, over the loaded program. -/
import Derived.Test.YtpidjmgapiekaaaGreatDoorPar3
import Derived.Test.YtpidjmgapiekaaaGreatDoorMisc
namespace Go.Proofs.YtpidjmgapiekaaaGreatDoor
open Go.RowKit Go.WideShapes
set_option linter.unusedSimpArgs false

theorem own_cells {p : Par} {w : World} (h : p.ok w) : Cells w p.own.1.X (iv p.own.1.ins) := by
  have hC := h.2.2.2.2.2.2.2.2
  unfold Par.own Par.bare
  repeat' split
  all_goals first | exact hC | exact Cells.nil _ _
def Par.cs (p : Par) : Array Value := #[.int .i64 p.kind, .int .i64 p.nonce, .int .i64 p.frm, .int .i64 p.base, .slice p.X p.ins.length p.c, .int .i64 p.ack, .int .u64 p.sum]
/-- Good. -/
def Par.good (p : Par) : Bool := p.own.2 && p.same p.own.1
set_option maxRecDepth 100000 in
set_option maxHeartbeats 3200000 in
theorem good_any (p : Par) (w : World) (h : p.ok w) : Calls Tryz.prog 68 #[p.v] w fun e w' => e = .returned (.bool p.good) ∧ Below w.heap.size w w' := by
  have hb0 := (Below.refl w.heap.size w).alloc (Nat.le_refl _) (.cells p.cs 57)
  have OW := Lib.hid (own_any p _ (h.below hb0))
  have hS := Lib.hid (fun w' (hb : Below w.heap.size w w') => psame_any p p.own.1 w' (h.2.2.2.2.2.2.2.2.below hb) ((own_cells h).below hb) h.2.2.2.2.2.2.1)
  have B0 := Lib.hid hb0
  have hA := heap_alloc_new w (.cells p.cs 57)
  obtain ⟨r, hr⟩ : ∃ r, p.good = r := ⟨_, rfl⟩
  rw [hr]
  unfold Par.good at hr
  obtain ⟨q, hq⟩ : ∃ q, p.own = q := ⟨_, rfl⟩
  rw [hq] at hr hS
  unfold OwnB at OW
  rw [hq] at OW
  clear hq h hb0
  obtain ⟨⟨kind', nonce', frm', base', ins', ack', sum', X', c'⟩, ok⟩ := q
  obtain ⟨kind, nonce, frm, base, ins, ack, sum, X, c⟩ := p
  unfold Par.v at OW hS ⊢
  unfold Par.cs at OW B0 hA
  dsimp only at OW hS hr B0 hA ⊢
  have HA := Lib.hid hA
  clear hA
  go_enter Tryz.func68, Tryz.ntmps68
  go_wp2_with fail
  refine OW.out.mono ?_
  rintro e w1 ⟨rfl, hb1⟩
  have a1 := (hb1.block w.heap.size (by rw [size_alloc1]; omega)).trans HA.out
  have B1 := Lib.hid (B0.out.trans (hb1.mono B0.out.size))
  clear hb1
  cases ok with
  | false =>
    have R : Hid (r = false) := Lib.hid (by rw [← hr]; rfl)
    clear hr a1
    go_wp2_with fail
    go_ret
    exact ⟨by rw [R.out]; rfl, below_one B1.out _⟩
  | true =>
    have R := Lib.hid hr
    have S2 := Lib.hid (hS.out _ (below_one B1.out (.cells #[.int .i64 kind', .int .i64 nonce', .int .i64 frm', .int .i64 base', .slice X' ins'.length c', .int .i64 ack', .int .u64 sum'] 57)))
    have a2 := (alloc_old w1 (.cells #[.int .i64 kind', .int .i64 nonce', .int .i64 frm', .int .i64 base', .slice X' ins'.length c', .int .i64 ack', .int .u64 sum'] 57) w.heap.size (Array.getElem?_eq_some_iff.1 a1).1).trans a1
    have A2 := Lib.hid a2
    clear hr a1 a2
    have p0 : (w1.alloc (.cells #[.int .i64 kind', .int .i64 nonce', .int .i64 frm', .int .i64 base', .slice X' ins'.length c', .int .i64 ack', .int .u64 sum'] 57)).cell? ⟨w.heap.size, 0, none⟩ = some (.int .i64 kind) := by simp only [World.cell?, A2.out]; rfl
    have p1 : (w1.alloc (.cells #[.int .i64 kind', .int .i64 nonce', .int .i64 frm', .int .i64 base', .slice X' ins'.length c', .int .i64 ack', .int .u64 sum'] 57)).cell? ⟨w.heap.size, 1, none⟩ = some (.int .i64 nonce) := by simp only [World.cell?, A2.out]; rfl
    have p2 : (w1.alloc (.cells #[.int .i64 kind', .int .i64 nonce', .int .i64 frm', .int .i64 base', .slice X' ins'.length c', .int .i64 ack', .int .u64 sum'] 57)).cell? ⟨w.heap.size, 2, none⟩ = some (.int .i64 frm) := by simp only [World.cell?, A2.out]; rfl
    have p3 : (w1.alloc (.cells #[.int .i64 kind', .int .i64 nonce', .int .i64 frm', .int .i64 base', .slice X' ins'.length c', .int .i64 ack', .int .u64 sum'] 57)).cell? ⟨w.heap.size, 3, none⟩ = some (.int .i64 base) := by simp only [World.cell?, A2.out]; rfl
    have p4 : (w1.alloc (.cells #[.int .i64 kind', .int .i64 nonce', .int .i64 frm', .int .i64 base', .slice X' ins'.length c', .int .i64 ack', .int .u64 sum'] 57)).cell? ⟨w.heap.size, 4, none⟩ = some (.slice X ins.length c) := by simp only [World.cell?, A2.out]; rfl
    have p5 : (w1.alloc (.cells #[.int .i64 kind', .int .i64 nonce', .int .i64 frm', .int .i64 base', .slice X' ins'.length c', .int .i64 ack', .int .u64 sum'] 57)).cell? ⟨w.heap.size, 5, none⟩ = some (.int .i64 ack) := by simp only [World.cell?, A2.out]; rfl
    have p6 : (w1.alloc (.cells #[.int .i64 kind', .int .i64 nonce', .int .i64 frm', .int .i64 base', .slice X' ins'.length c', .int .i64 ack', .int .u64 sum'] 57)).cell? ⟨w.heap.size, 6, none⟩ = some (.int .u64 sum) := by simp only [World.cell?, A2.out]; rfl
    go_wp2_with fail
    refine S2.out.mono ?_
    rintro e w2 ⟨rfl, hb2⟩
    have B2 := Lib.hid ((below_one B1.out (.cells #[.int .i64 kind', .int .i64 nonce', .int .i64 frm', .int .i64 base', .slice X' ins'.length c', .int .i64 ack', .int .u64 sum'] 57)).trans (hb2.mono (below_one B1.out _).size))
    clear hb2
    go_wp2_with fail
    go_ret
    exact ⟨congrArg (fun b => Ending.returned (.bool b)) (by simpa using R.out), B2.out⟩

end Go.Proofs.YtpidjmgapiekaaaGreatDoor
