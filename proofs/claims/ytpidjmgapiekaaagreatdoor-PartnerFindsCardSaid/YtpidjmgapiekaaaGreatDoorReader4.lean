/- This text proves what the strand's reader computes, over the loaded program: the end, and a text. -/
import Derived.Test.YtpidjmgapiekaaaGreatDoorReader3
namespace Go.Proofs.YtpidjmgapiekaaaGreatDoor
open Go.RowKit Go.WideShapes

section
variable {A : Nat → Addr} {w w' : World} {rb : Nat} {R R' : Rdr}

/-- What the end tells. -/
def Rdr.right (R : Rdr) : Bool := !R.bad && R.rest.isEmpty
def EndB (A : Nat → Addr) (w : World) (o : Option Nat) (e : Ending) (w' : World) : Prop := ∃ v, e = .returned v ∧ Below w.heap.size w w' ∧ (o = none ∧ v = .nilIface ∨ ∃ j, o = some j ∧ WrapsT w' v (A j))
theorem EndB.of_at (A : Nat → Addr) (w : World) (s : ByteArray) (j : Nat) : EndB A w (some j) (.returned (.iface 193 (.pointer (some ⟨w.heap.size, 0, none⟩)))) (w.alloc (.cells #[.string s, .iface 221 (.pointer (some (A j)))] 195)) := ⟨_, rfl, (Below.refl _ _).alloc (Nat.le_refl _) _, .inr ⟨j, rfl, ⟨_, _, rfl, heap_alloc_new _ _, rfl⟩⟩⟩

theorem end_nil (hG : s_Glob w A) : Calls Tryz.prog 67 #[.pointer none] w (EndB A w (some 3)) := by
  have g := hG 3 (by decide)
  dsimp only [gl] at g
  clear hG
  go_enter Tryz.func67, Tryz.ntmps67
  go_wp2_with fail
  refine (at_any _ _ _ _).mono ?_
  rintro e w1 ⟨rfl, rfl⟩
  go_wp2_with fail
  go_ret
  exact EndB.of_at A w _ 3

set_option maxRecDepth 100000 in
theorem end_any (h : RdAt w rb R) (hG : s_Glob w A) : Calls Tryz.prog 67 #[.pointer (some ⟨rb, 0, none⟩)] w (EndB A w (if R.right then none else some 0)) := by
  have g := hG 0 (by decide)
  dsimp only [gl] at g
  obtain ⟨S, h2, h3, h4⟩ := h
  have c0 : w.cell? ⟨rb, 0, none⟩ = some (.string S) := by simp [World.cell?, h4]
  have c1 : w.cell? ⟨rb, 1, none⟩ = some (.bool R.bad) := by simp [World.cell?, h4]
  have e1 : S.toList.isEmpty = R.rest.isEmpty := by rw [bytes_none, h2]
  unfold Rdr.right
  generalize R.bad = bad at *
  generalize R.rest.isEmpty = em at *
  clear hG h2 h3 h4
  cases bad with
  | true =>
    go_enter Tryz.func67, Tryz.ntmps67
    go_wp2_with fail
    refine (at_any _ _ _ _).mono ?_
    rintro e w1 ⟨rfl, rfl⟩
    go_wp2_with fail
    go_ret
    exact EndB.of_at A w _ 0
  | false =>
    cases em with
    | false =>
      go_enter Tryz.func67, Tryz.ntmps67
      go_wp2_with fail
      refine (at_any _ _ _ _).mono ?_
      rintro e w1 ⟨rfl, rfl⟩
      go_wp2_with fail
      go_ret
      exact EndB.of_at A w _ 0
    | true =>
      go_enter Tryz.func67, Tryz.ntmps67
      go_wp2_with fail
      go_ret
      exact ⟨_, rfl, Below.refl _ _, .inl ⟨rfl, rfl⟩⟩

/-- Text. -/
def Rdr.text (R : Rdr) (top : Int) : Rdr × List UInt8 :=
  if R.bad then (R, []) else
    match R.number 18446744073709551615 with
    | (_, none) => (R.spoil, [])
    | (Q, some n) => if top < (n : Int) ∨ Q.rest.length < n then (R.spoil, []) else ({ Q with rest := Q.rest.drop n }, Q.rest.take n)

/-- What is laid back, spoiled. -/
theorem RdAt.back {S : ByteArray} (h : RdAt w rb R') (hS : S.data.toList = R.rest) (h2 : S.size ≤ maxLen) : RLeft w rb R.spoil ((w.setCell ⟨rb, 0, none⟩ (.string S)).setCell ⟨rb, 1, none⟩ (.bool true)) := by
  obtain ⟨S', _, _, h4⟩ := h
  refine ⟨⟨S, hS, h2, ?_⟩, (Kept.setCell w rb 0 _).trans (Kept.setCell _ rb 1 _) (by simp)⟩
  rw [heap_setCell_of (heap_setCell_of h4 0 _)]
  rfl

end

end Go.Proofs.YtpidjmgapiekaaaGreatDoor
