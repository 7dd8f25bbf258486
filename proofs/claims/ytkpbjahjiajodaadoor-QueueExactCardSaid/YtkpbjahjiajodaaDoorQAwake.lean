/- This text proves that the queue's document example holds, over the loaded program: the law's awake returns true. -/
import Derived.Test.YtkpbjahjiajodaaDoorQueue2
import Derived.Deep.RegionHeld3
import Derived.Deep.QuietTactic
import Derived.Deep.LoopGhost
namespace Go.Proofs.YtkpbjahjiajodaaDoor
open Go.RowKit Go.WideShapes

/-- The api's errors lie where the program lays them. -/
def Glob (w : World) (A : Nat → Addr) : Prop := ∀ j, j < 5 → w.cell? ⟨j, 0, none⟩ = some (.iface 129 (.pointer (some (A j))))

theorem Glob.below {w w' : World} {A : Nat → Addr} (h : Glob w A) (hb : Below w.heap.size w w') : Glob w' A := fun j hj =>
  (hb.cell (World.block_lt_of_cell? w _ (h j hj))).trans (h j hj)
theorem Glob.drew {w : World} {A : Nat → Addr} (h : Glob w A) : Glob w.drew A := h
theorem Glob.drewN {w : World} {A : Nat → Addr} (h : Glob w A) (n : Nat) : Glob (w.drewN n) A := h
theorem Glob.kept {w w' : World} {A : Nat → Addr} {fp : List Nat} (h : Glob w A) (hk : Kept fp w w') (hf : ∀ j, j < 5 → j ∉ fp) : Glob w' A := fun j hj => hk.cell (h j hj) (hf j hj)

def aq1 : Que := (Que.new 1).put 2 7
def aq2 : Que := aq1.use 3
def aq3 : Que := aq2.put 3 8

theorem aq_e1 : (Que.new 1).err 2 7 = none := by decide +kernel
theorem aq_g1 : aq1.get 1 = (0, true) := by decide +kernel
theorem aq_g5 : aq1.get 5 = (7, false) := by decide +kernel
theorem aq_g3 : aq1.get 3 = (7, false) := by decide +kernel
theorem aq_e2 : aq2.err 3 8 = none := by decide +kernel
theorem aq_w : aq3.wrong = 3 := by decide +kernel
theorem aq_l : aq3.last = 3 := by decide +kernel
theorem aq_e3 : aq3.err 3 1 = some 3 := by decide +kernel
theorem aq_e4 : aq3.err 5 1 = some 0 := by decide +kernel
theorem aq_ok0 : (Que.new 1).ok := by unfold Que.ok; decide +kernel
theorem aq_ok1 : aq1.ok := by unfold Que.ok; decide +kernel
theorem aq_ok2 : aq2.ok := by unfold Que.ok; decide +kernel
theorem aq_ok3 : aq3.ok := by unfold Que.ok; decide +kernel

theorem Wraps.below {w w' : World} {v : Value} {a : Addr} (h : Wraps w v a) (hb : Below w.heap.size w w') : Wraps w' v a :=
  h.kept (Kept.of_below (fp := []) hb) (by simp)

theorem Wraps.drew {w : World} {v : Value} {a : Addr} (h : Wraps w v a) : Wraps w.drew v a := h
theorem Wraps.is' {w : World} {v : Value} {a : Addr} (h : Wraps w v a) :
    Calls Tryd.prog 35 #[v, .iface 129 (.pointer (some a))] w fun e w' => e = .returned (.bool true) ∧ Below w.heap.size w w' :=
  h.is.mono (by rintro e w' ⟨rfl, rfl⟩; exact ⟨rfl, Below.refl _ _⟩)

/-- What holds while the example's tests are asked. -/
def AwS (w0 : World) (A : Nat → Addr) (vN : Value) (qb m g o cap n : Nat) (w : World) : Prop := QAt w qb m g o cap n aq3 ∧ Glob w A ∧ Wraps w vN (A 0) ∧ Below w0.heap.size w0 w

/-- A call that makes new blocks alone leaves a queue. -/
theorem QAt.below {w w' : World} {qb m g o cap n : Nat} {q : Que} (h : QAt w qb m g o cap n q) (hb : Below w.heap.size w w') : QAt w' qb m g o cap n q :=
  h.kept (Kept.of_below (fp := []) hb) (by simp) (by simp) (by simp)

theorem AwS.below {w0 : World} {A : Nat → Addr} {vN : Value} {qb m g o cap n : Nat} {w w' : World} (h : AwS w0 A vN qb m g o cap n w) (hb : Below w.heap.size w w') : AwS w0 A vN qb m g o cap n w' :=
  ⟨h.1.below hb, h.2.1.below hb, h.2.2.1.below hb, h.2.2.2.trans (hb.mono h.2.2.2.size)⟩
theorem AwS.drew {w0 : World} {A : Nat → Addr} {vN : Value} {qb m g o cap n : Nat} {w : World} (h : AwS w0 A vN qb m g o cap n w) : AwS w0 A vN qb m g o cap n w.drew :=
  h.below ⟨rfl, rfl, rfl, Nat.le_refl _, fun _ _ => rfl⟩

/-- The same, with the two errors that are loaded. -/
abbrev AwC (w0 : World) (A : Nat → Addr) (vN : Value) (qb m g o cap n : Nat) (w : World) : Prop :=
  w.cell? ⟨3, 0, none⟩ = some (.iface 129 (.pointer (some (A 3)))) ∧ w.cell? ⟨0, 0, none⟩ = some (.iface 129 (.pointer (some (A 0)))) ∧ AwS w0 A vN qb m g o cap n w
theorem AwC.of {w0 : World} {A : Nat → Addr} {vN : Value} {qb m g o cap n : Nat} {w : World} (h : AwS w0 A vN qb m g o cap n w) : AwC w0 A vN qb m g o cap n w :=
  ⟨h.2.1 3 (by decide), h.2.1 0 (by decide), h⟩

section
variable {w0 w : World} {A : Nat → Addr} {vN : Value} {qb m g o cap n : Nat}
theorem aw_bel {w' : World} (h : AwC w0 A vN qb m g o cap n w) (hb : Below w.heap.size w w') : AwC w0 A vN qb m g o cap n w' := AwC.of (h.2.2.below hb)
theorem aw_drew (h : AwC w0 A vN qb m g o cap n w) : AwC w0 A vN qb m g o cap n w.drew := AwC.of h.2.2.drew
theorem aw_v (h : AwC w0 A vN qb m g o cap n w) : Wraps w vN (A 0) := h.2.2.2.2.1
theorem aw_out (h : AwC w0 A vN qb m g o cap n w) : Below w0.heap.size w0 w := h.2.2.2.2.2
theorem aw_wrong (h : AwC w0 A vN qb m g o cap n w) : Calls Tryd.prog 16 #[.pointer (some ⟨qb, 0, none⟩)] w (fun e w' => e = .returned (.int .i64 3) ∧ Below w.heap.size w w') :=
  (wrong_any h.2.2.1).mono (by rintro e w' ⟨rfl, rfl⟩; exact ⟨by rw [aq_w], Below.refl _ _⟩)
theorem aw_last (h : AwC w0 A vN qb m g o cap n w) : Calls Tryd.prog 15 #[.pointer (some ⟨qb, 0, none⟩)] w (fun e w' => e = .returned (.int .i64 3) ∧ Below w.heap.size w w') :=
  (last_any h.2.2.1 aq_ok3).mono (by rintro e w' ⟨rfl, k, rfl⟩; exact ⟨by rw [aq_l], ⟨rfl, rfl, rfl, Nat.le_refl _, fun _ _ => rfl⟩⟩)
theorem aw_put1 (h : AwC w0 A vN qb m g o cap n w) : Calls Tryd.prog 14 #[.pointer (some ⟨qb, 0, none⟩), .int .i64 3, .int .i64 1] w (Refused w (A 3)) :=
  put_err h.2.2.1 aq_ok3 3 1 3 (A 3) aq_e3 h.1
theorem aw_put2 (h : AwC w0 A vN qb m g o cap n w) : Calls Tryd.prog 14 #[.pointer (some ⟨qb, 0, none⟩), .int .i64 5, .int .i64 1] w (Refused w (A 0)) :=
  put_err h.2.2.1 aq_ok3 5 1 0 (A 0) aq_e4 h.2.1
end

set_option maxRecDepth 100000 in
set_option maxHeartbeats 4000000 in
theorem qawake_any (w : World) (A : Nat → Addr) (hG : Glob w A) :
    Calls Tryd.prog 12 #[] w fun e w' => e = .returned (.bool true) ∧ Below w.heap.size w w' := by
  go_enter Tryd.func12, Tryd.ntmps12
  go_wp2_with fail
  refine (new_any 1 _ (by decide)).mono ?_
  rintro e w1 ⟨qb, m, g0, rfl, hQ, hB, hqb, hm, hg⟩
  have G1 := hG.below hB
  go_wp2_with fail
  refine (put_ok hQ aq_ok0 2 7 aq_e1).mono ?_
  rintro e w2 ⟨rfl, g1, o1, cap1, hQ2, hK2, hg1⟩
  have hB2 : Below w.heap.size w w2 := below_kept hB hK2 (by intro x hx; simp at hx; omega) (Nat.le_refl _)
  have hg1' : w.heap.size ≤ g1 := by have := hB.size; omega
  clear hQ hB hK2 hg1 hg
  change QAt w2 qb m g1 o1 cap1 0 aq1 at hQ2
  go_wp2_with fail
  refine (get_any hQ2 aq_ok1 1).mono ?_
  rw [aq_g1]
  rintro e w3 ⟨rfl, k1, rfl⟩
  go_wp2_with fail
  have hQ3 := hQ2.kept (Kept.drewN [] w2 k1) (by simp) (by simp) (by simp)
  refine (get_any hQ3 aq_ok1 5).mono ?_
  rw [aq_g5]
  rintro e w3 ⟨rfl, k2, rfl⟩
  go_wp2_with fail
  have hQ3 := hQ2.kept (Kept.drewN [] w2 (k1 + k2)) (by simp) (by simp) (by simp)
  refine (use_any hQ3 aq_ok1 (by decide) 3 rfl (by rw [aq_g3]; rfl)).mono ?_
  rw [aq_g3]
  rintro e w3 ⟨rfl, hQ4, hK⟩
  change QAt w3 qb m g1 o1 cap1 1 aq2 at hQ4
  have hB3 : Below w.heap.size w w3 := below_kept hB2 ((Kept.drewN [m] w2 (k1 + k2)).trans hK (fun y hy => .inl hy)) (by intro x hx; simp at hx; omega) (Nat.le_refl _)
  clear hQ2 hQ3 hK hB2
  go_wp2_with fail
  refine (put_ok hQ4 aq_ok2 3 8 aq_e2).mono ?_
  rintro e w4 ⟨rfl, g2, o2, cap2, hQ5, hK5, hg2⟩
  change QAt w4 qb m g2 o2 cap2 1 aq3 at hQ5
  have hB4 : Below w.heap.size w w4 := below_kept hB3 hK5 (by intro x hx; simp at hx; omega) (Nat.le_refl _)
  have hg2' : w.heap.size ≤ g2 := by have := hB3.size; omega
  clear hQ4 hK5 hB3 hg2
  have G4 : Glob w4 A := hG.below hB4
  go_wp2_with fail
  refine (new_err 7 _ (.inr (by decide)) (A 0) (G4 0 (by decide))).mono ?_
  rintro e w5 ⟨vN, rfl, v, hv, hW5, hB5, -⟩
  obtain rfl : vN = v := by simpa using hv
  have S0 : AwC w A vN qb m g2 o2 cap2 1 w5 := AwC.of ⟨hQ5.below hB5, G4.below hB5, hW5, hB4.trans (hB5.mono hB4.size)⟩
  clear hQ5 G4 hB4 hB5 hv G1 hG hqb hm hg1' hg2'
  go_wp2_with fail
  go_region_held3 (fun w' => w'.cell? ⟨3, 0, none⟩ = some (.iface 129 (.pointer (some (A 3)))) ∧ w'.cell? ⟨0, 0, none⟩ = some (.iface 129 (.pointer (some (A 0)))) ∧ AwS w A vN qb m g2 o2 cap2 1 w')
    ((first | assumption | (exact aw_drew (by assumption)) | (refine aw_bel ?_ hbel; assumption)))
    (first
      | (go_at_call 16; refine (aw_wrong (w0 := w) (A := A) (vN := vN) (m := m) (g := g2) (o := o2) (cap := cap2) (n := 1) ?_).mono ?_; assumption; rintro e w' ⟨rfl, hbel⟩)
      | (go_at_call 15; refine (aw_last (w0 := w) (A := A) (vN := vN) (m := m) (g := g2) (o := o2) (cap := cap2) (n := 1) ?_).mono ?_; assumption; rintro e w' ⟨rfl, hbel⟩)
      | (go_at_call 14; (with_reducible refine (aw_put1 (w0 := w) (A := A) (vN := vN) (m := m) (g := g2) (o := o2) (cap := cap2) (n := 1) ?_).mono ?_); assumption; rintro e w' ⟨v1, rfl, hw1, hbel, -⟩)
      | (go_at_call 14; (with_reducible refine (aw_put2 (w0 := w) (A := A) (vN := vN) (m := m) (g := g2) (o := o2) (cap := cap2) (n := 1) ?_).mono ?_); assumption; rintro e w' ⟨v2, rfl, hw2, hbel, -⟩)
      | (go_at_call 35; (with_reducible refine (Wraps.is' (aw_v (w0 := w) (A := A) (vN := vN) (qb := qb) (m := m) (g := g2) (o := o2) (cap := cap2) (n := 1) ?_)).mono ?_); assumption; rintro e w' ⟨rfl, hbel⟩)
      | (go_at_call 35; (with_reducible refine (Wraps.is' ?_).mono ?_); (with_reducible first | assumption | exact Wraps.drew (by assumption) | exact Wraps.drew (Wraps.drew (by assumption))); rintro e w' ⟨rfl, hbel⟩))
  all_goals
    go_wp2
    go_ret
    exact ⟨rfl, aw_out (by assumption)⟩

end Go.Proofs.YtkpbjahjiajodaaDoor
