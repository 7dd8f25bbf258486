/- This text holds the line and the reference's line side by side, over the loaded program. -/
import Derived.Test.YtkpbjahjiajodaaDoorRLine3
import Derived.Test.YtkpbjahjiajodaaDoorRLine4
import Derived.Test.YtkpbjahjiajodaaDoorRLine7
import Derived.Test.YtkpbjahjiajodaaDoorLNumber
namespace Go.Proofs.YtkpbjahjiajodaaDoor
open Go.RowKit Go.WideShapes

theorem refNum_of {j : Nat} (h : j = 0 ∨ j = 4 ∨ j = 5 ∨ j = 6) : (1 ≤ refNum (some j) ∧ refNum (some j) ≤ 7) ∧ ofNum (refNum (some j)) = j := by
  rcases h with rfl | rfl | rfl | rfl <;> exact ⟨by decide, rfl⟩

/-- An answer that has its number. -/
def Num (w : World) (A : Nat → Addr) (v : Value) : Option Nat → Prop
  | none => v = .nilIface
  | some j => (j = 0 ∨ j = 4 ∨ j = 5 ∨ j = 6) ∧ WrapsT w v (A j)
theorem num_any {w : World} {A : Nat → Addr} {v : Value} {err : Option Nat} (h : Num w A v err) (hA : Apart 9 w A) : Calls Tryd.prog 43 #[v] w fun e w' => e = .returned (.int .i64 (refNum err)) ∧ w = w' := by
  match err, h with
  | none, h => rw [show v = .nilIface from h]; exact num_of_nil w
  | some j, ⟨hj, hw⟩ =>
    obtain ⟨h1, h2⟩ := refNum_of hj
    refine number_wraps (refNum (some j)) 9 A v w h1 hA (fun i h3 h4 => ?_) (by rw [h2]; exact hw)
    have : i = 1 ∨ i = 2 ∨ i = 3 ∨ i = 4 ∨ i = 5 ∨ i = 6 ∨ i = 7 := by omega
    rcases this with rfl | rfl | rfl | rfl | rfl | rfl | rfl <;> decide

/-- A line of the law's own, and the reference's. -/
def XI (w0 : World) (lb rb : Nat) (L : Lin) (w : World) : Prop := LI w0 lb L w ∧ (∃ sv, RAt w rb sv L) ∧ w0.heap.size ≤ rb
/-- The line has answered, the reference's not yet. -/
def XM (w0 : World) (lb rb : Nat) (L L' : Lin) (w : World) : Prop := LI w0 lb L' w ∧ (∃ sv, RAt w rb sv L) ∧ w0.heap.size ≤ rb

section
variable {w0 w w' : World} {lb rb : Nat} {L L' : Lin} {A : Nat → Addr}
theorem XI.below (h : XI w0 lb rb L w) (hb : Below w.heap.size w w') : XI w0 lb rb L w' :=
  ⟨h.1.below hb, by obtain ⟨sv, hs⟩ := h.2.1; exact ⟨sv, hs.below hb⟩, h.2.2⟩
theorem XI.out (h : XI w0 lb rb L w) : Below w0.heap.size w0 w := h.1.out
theorem XI.lo {err : Option Nat} {mk : Value → Value} {e : Ending} (h : XI w0 lb rb L w) (hO : LO w0 lb w A L' err mk e w') (he : ∀ j, err = some j → (j = 0 ∨ j = 4 ∨ j = 5 ∨ j = 6)) : ∃ v, e = .returned (mk v) ∧ Num w' A v err ∧ XM w0 lb rb L L' w' ∧ FrameT w w' := by
  obtain ⟨v, hr, hv, hl, hf⟩ := hO
  refine ⟨v, hr, ?_, ⟨hl, by obtain ⟨sv, hs⟩ := h.2.1; exact ⟨sv, hs.frame hf⟩, h.2.2⟩, hf⟩
  match err, hv, he with
  | none, hv, _ => exact hv
  | some j, ⟨b, _, hw, _⟩, he => exact ⟨he j rfl, hw⟩
theorem WrapsT.keptR {v : Value} {a : Addr} {sv : Value} (h : WrapsT w v a) (hr : RAt w rb sv L) (hk : Kept [rb] w w') : WrapsT w' v a := by
  obtain ⟨b, C, hv, hb, hc⟩ := h
  exact ⟨b, C, hv, (hk.block b (Array.getElem?_eq_some_iff.1 hb).1 (by simp; rintro rfl; have := hb.symm.trans hr.cell; simp at this)).trans hb, hc⟩
theorem Num.keptR {v : Value} {sv : Value} {err : Option Nat} (h : Num w A v err) (hr : RAt w rb sv L) (hk : Kept [rb] w w') : Num w' A v err := by
  match err, h with
  | none, h => exact h
  | some j, ⟨h1, h2⟩ => exact ⟨h1, h2.keptR hr hk⟩
theorem Num.below {v : Value} {err : Option Nat} (h : Num w A v err) (hb : Below w.heap.size w w') : Num w' A v err := by
  match err, h with
  | none, h => exact h
  | some j, ⟨h1, h2⟩ => exact ⟨h1, h2.frame (FrameT.of_below hb)⟩
theorem LI.keptR {sv : Value} {L2 : Lin} (h : LI w0 lb L w) (hr : RAt w rb sv L2) (h0 : w0.heap.size ≤ rb) (hk : Kept [rb] w w') : LI w0 lb L w' := by
  obtain ⟨h1, ⟨gp, sv', h2, h3⟩, h4⟩ := id h
  refine h.kept hk (by simpa using h0) ?_ (fun gp sv hl x hx => ?_)
  · simp; rintro rfl; have := h2.cell.symm.trans hr.cell; simp at this
  · obtain ⟨C, hC⟩ := hl.typ x hx
    simp; rintro rfl; have := hC.symm.trans hr.cell; simp at this
theorem XM.done {v : Value} {e : Ending} (h : XM w0 lb rb L L' w) (hd : RDone w rb L' v e w') : e = .returned v ∧ XI w0 lb rb L' w' ∧ (∃ sv, RAt w rb sv L) ∧ Kept [rb] w w' := by
  obtain ⟨he, sv', hr, hk⟩ := hd
  obtain ⟨h1, ⟨sv, h2⟩, h3⟩ := h
  exact ⟨he, ⟨h1.keptR h2 h3 hk, ⟨sv', hr⟩, h3⟩, ⟨sv, h2⟩, hk⟩
end

/-- The act of a round, in its own block. -/
def ActX (w : World) (b : Nat) (kd xi : Int) (xs : ByteArray) (xa : Int) (xb : UInt8) : Prop := w.heap[b]? = some (.cells #[.int .i64 kd, .int .i64 xi, .string xs, .int .i64 xa, .int .u8 (xb.toNat : Int)] 47 (0, 0))
section
variable {w w' : World} {b : Nat} {kd xi xa : Int} {xs : ByteArray} {xb : UInt8}
theorem ActX.frame (h : ActX w b kd xi xs xa xb) (hf : FrameT w w') : ActX w' b kd xi xs xa xb :=
  (hf b (Array.getElem?_eq_some_iff.1 h).1 (fun D hd => by have := h.symm.trans hd; simp at this) (fun D hd => by have := h.symm.trans hd; simp at this)).trans h
theorem ActX.keptR {rb : Nat} {sv : Value} {L : Lin} (h : ActX w b kd xi xs xa xb) (hr : RAt w rb sv L) (hk : Kept [rb] w w') : ActX w' b kd xi xs xa xb :=
  (hk.block b (Array.getElem?_eq_some_iff.1 h).1 (by simp; rintro rfl; have := h.symm.trans hr.cell; simp at this)).trans h
theorem ActX.at1 (h : ActX w b kd xi xs xa xb) : w.cell? ⟨b, 1, none⟩ = some (.int .i64 xi) := by simp [World.cell?, show w.heap[b]? = _ from h]
theorem ActX.at2 (h : ActX w b kd xi xs xa xb) : w.cell? ⟨b, 2, none⟩ = some (.string xs) := by simp [World.cell?, show w.heap[b]? = _ from h]
theorem ActX.at3 (h : ActX w b kd xi xs xa xb) : w.cell? ⟨b, 3, none⟩ = some (.int .i64 xa) := by simp [World.cell?, show w.heap[b]? = _ from h]
theorem ActX.at4 (h : ActX w b kd xi xs xa xb) : w.cell? ⟨b, 4, none⟩ = some (.int .u8 (xb.toNat : Int)) := by simp [World.cell?, show w.heap[b]? = _ from h]
end

section
variable {w0 w : World} {lb rb : Nat} {L L' : Lin} {A : Nat → Addr}
theorem add_err (L L' : Lin) : ∀ j, (L.addR L').2 = some j → (j = 0 ∨ j = 4 ∨ j = 5 ∨ j = 6) := by
  intro j hj
  unfold Lin.addR at hj
  split at hj <;> simp at hj
  omega
theorem send_err (L : Lin) (s : ByteArray) : ∀ j, (L.send s).2 = some j → (j = 0 ∨ j = 4 ∨ j = 5 ∨ j = 6) := by
  intro j hj
  unfold Lin.send at hj
  split at hj
  · simp at hj; omega
  · exact add_err _ _ j hj
theorem double_err (L : Lin) (i : Int) : ∀ j, (L.double i).2 = some j → (j = 0 ∨ j = 4 ∨ j = 5 ∨ j = 6) := by
  intro j hj
  unfold Lin.double at hj
  split at hj
  · exact add_err _ _ j hj
  · simp at hj; omega
theorem take_err (L : Lin) (i : Int) : ∀ j, (L.take i).2 = some j → (j = 0 ∨ j = 4 ∨ j = 5 ∨ j = 6) := by
  intro j hj
  unfold Lin.take at hj
  split at hj <;> simp at hj
  omega
theorem drop_err (L : Lin) (i : Int) : ∀ j, (L.drop i).2 = some j → (j = 0 ∨ j = 4 ∨ j = 5 ∨ j = 6) := by
  intro j hj
  unfold Lin.drop at hj
  split at hj <;> simp at hj
  omega
theorem spoil_err (L : Lin) (i a : Int) (b : UInt8) : ∀ j, (L.spoil i a b).2 = some j → (j = 0 ∨ j = 4 ∨ j = 5 ∨ j = 6) := by
  intro j hj
  unfold Lin.spoil at hj
  split at hj
  · split at hj <;> simp at hj
    omega
  · simp at hj; omega

/-- The reference's Out, as the line's Take and Drop. -/
theorem rtake_any {sv : Value} (h : RAt w rb sv L) (hok : L.ok) (i : Int) : Calls Tryd.prog 40 #[.pointer (some ⟨rb, 0, none⟩), .int .i64 i, .int .i64 2] w (RDone w rb (L.take i).1 (.tuple #[.string (L.taken i), .int .i64 (refNum (L.take i).2)])) := by
  unfold Lin.take Lin.taken
  by_cases hi : L.has i
  · rw [if_pos hi, if_pos hi]; exact rout_two h hok i hi
  · rw [if_neg hi, if_neg hi]; exact rout_none h i hi 2
theorem rdrop_any {sv : Value} (h : RAt w rb sv L) (hok : L.ok) (i : Int) : ∃ s, Calls Tryd.prog 40 #[.pointer (some ⟨rb, 0, none⟩), .int .i64 i, .int .i64 3] w (RDone w rb (L.drop i).1 (.tuple #[.string s, .int .i64 (refNum (L.drop i).2)])) := by
  unfold Lin.drop
  by_cases hi : L.has i
  · rw [if_pos hi]; exact ⟨_, rout_three h hok i hi⟩
  · rw [if_neg hi]; exact ⟨_, rout_none h i hi 3⟩

end

end Go.Proofs.YtkpbjahjiajodaaDoor
