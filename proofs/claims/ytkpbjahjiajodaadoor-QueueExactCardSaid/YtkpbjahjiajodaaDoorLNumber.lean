/- This text proves what blame.Number tells of an error, over the loaded program. -/
import Derived.Test.YtkpbjahjiajodaaDoorLCounts
namespace Go.Proofs.YtkpbjahjiajodaaDoor
open Go.RowKit Go.WideShapes

/-- The api's first errors lie apart from each other. -/
def Apart (n : Nat) (w : World) (A : Nat → Addr) : Prop := (∀ j, j < n → w.cell? ⟨j, 0, none⟩ = some (.iface 129 (.pointer (some (A j)))) ∧ ∃ C t, w.heap[(A j).block]? = some (.cells C t (0, 0))) ∧ ∀ i j, i < n → j < n → i ≠ j → A i ≠ A j
theorem Apart.below {n : Nat} {w w' : World} {A : Nat → Addr} (h : Apart n w A) (hb : Below w.heap.size w w') : Apart n w' A :=
  ⟨fun j hj => by
    obtain ⟨h1, C, t, h2⟩ := h.1 j hj
    exact ⟨(hb.cell (World.block_lt_of_cell? w _ h1)).trans h1, C, t, (hb.block _ (Array.getElem?_eq_some_iff.1 h2).1).trans h2⟩, h.2⟩
theorem Apart.globL {n : Nat} {w : World} {A : Nat → Addr} (h : Apart n w A) (hn : 7 ≤ n) : GlobL w A := fun j hj => (h.1 j (by omega)).1

theorem WrapsT.isnt {n : Nat} {w : World} {v : Value} {A : Nat → Addr} {i j : Nat} (h : WrapsT w v (A i)) (hA : Apart n w A) (hi : i < n) (hj : j < n) (hij : i ≠ j) : Calls Tryd.prog 35 #[v, .iface 129 (.pointer (some (A j)))] w fun e w' => e = .returned (.bool false) ∧ w = w' := by
  obtain ⟨b, C, rfl, hc, h1⟩ := h
  obtain ⟨_, ci, ti, h2⟩ := hA.1 i hi
  obtain ⟨_, cj, tj, h3⟩ := hA.1 j hj
  exact (is_wrap_other b 0 (A j) (A i) ci cj ti tj w (by simp only [World.cell?, hc]; exact h1) (hA.2 i j hi hj hij) h2 h3).mono fun _ _ ⟨he, hw⟩ => ⟨he, hw.symm⟩

/-- Of. -/
def ofNum : Nat → Nat
  | 1 => 0
  | 2 => 1
  | 3 => 7
  | 4 => 6
  | 5 => 8
  | 6 => 4
  | _ => 5
theorem of_any (k : Nat) (a : Addr) (w : World) (hk : 1 ≤ k ∧ k ≤ 7) (h : w.cell? ⟨ofNum k, 0, none⟩ = some (.iface 129 (.pointer (some a)))) : Calls Tryd.prog 71 #[.int .i64 k] w fun e w' => e = .returned (.iface 129 (.pointer (some a))) ∧ w = w' := by
  have hks : k = 1 ∨ k = 2 ∨ k = 3 ∨ k = 4 ∨ k = 5 ∨ k = 6 ∨ k = 7 := by omega
  rcases hks with rfl | rfl | rfl | rfl | rfl | rfl | rfl
  all_goals
    dsimp only [ofNum] at h
    go_enter Tryd.func71, Tryd.ntmps71
    go_wp2
    go_ret
    exact ⟨rfl, rfl⟩
/-- Has. -/
theorem has_any (k : Nat) (v : Value) (b : Bool) (a : Addr) (w : World) (hk : 1 ≤ k ∧ k ≤ 7) (h : w.cell? ⟨ofNum k, 0, none⟩ = some (.iface 129 (.pointer (some a)))) (hi : Calls Tryd.prog 35 #[v, .iface 129 (.pointer (some a))] w fun e w' => e = .returned (.bool b) ∧ w = w') : Calls Tryd.prog 67 #[v, .int .i64 k] w fun e w' => e = .returned (.bool b) ∧ w = w' := by
  have HI := Lib.hid hi
  have HO := Lib.hid (of_any k a w hk h)
  clear hi h
  go_enter Tryd.func67, Tryd.ntmps67
  go_wp2_with fail
  refine HO.out.mono ?_
  rintro e w1 ⟨rfl, rfl⟩
  go_wp2_with fail
  refine HI.out.mono ?_
  rintro e w1 ⟨rfl, rfl⟩
  go_wp2_with fail
  go_ret
  exact ⟨rfl, rfl⟩

/-- Number, of an error that wraps one of the api's. -/
theorem number_wraps (k n : Nat) (A : Nat → Addr) (v : Value) (w : World) (hk : 1 ≤ k ∧ k ≤ 7) (hA : Apart n w A) (hn : ∀ i, 1 ≤ i → i ≤ k → ofNum i < n) (h : WrapsT w v (A (ofNum k))) : Calls Tryd.prog 43 #[v] w fun e w' => e = .returned (.int .i64 k) ∧ w = w' := by
  have HH : Hid (∀ i, 1 ≤ i → i ≤ k → Calls Tryd.prog 67 #[v, .int .i64 i] w fun e w' => e = .returned (.bool (decide (i = k))) ∧ w = w') := Lib.hid (fun i h1 h2 => by
    have hg := (hA.1 (ofNum i) (hn i h1 h2)).1
    by_cases e : i = k
    · subst e
      exact has_any i v _ _ w ⟨h1, by omega⟩ hg (by rw [decide_eq_true rfl]; exact h.is)
    · refine has_any i v _ _ w ⟨h1, by omega⟩ hg ?_
      rw [decide_eq_false e]
      refine h.isnt hA (hn k hk.1 (Nat.le_refl _)) (hn i h1 h2) ?_
      have hks : k = 1 ∨ k = 2 ∨ k = 3 ∨ k = 4 ∨ k = 5 ∨ k = 6 ∨ k = 7 := by omega
      have his : i = 1 ∨ i = 2 ∨ i = 3 ∨ i = 4 ∨ i = 5 ∨ i = 6 ∨ i = 7 := by omega
      rcases hks with rfl | rfl | rfl | rfl | rfl | rfl | rfl <;> rcases his with rfl | rfl | rfl | rfl | rfl | rfl | rfl <;> first | omega | (exact fun h => by cases h) | (exact fun h => absurd rfl e))
  obtain ⟨b, C, rfl, _, _⟩ := h
  clear hA hn
  go_enter Tryd.func43, Tryd.ntmps43
  go_wp2_with fail
  go_loop [6] (fun iv => ∃ i : Nat, i < k ∧ iv = .int .i64 i) (fun iv => k - (intOf iv).toNat)
  case atStart => exact ⟨0, by omega, rfl⟩
  case round =>
    obtain ⟨i, hi, rfl⟩ := hrel
    have i18 : (i : Int) < 18 := by omega
    have e1 : IntKind.i64.wrap ((i : Int) + 1) = ((i + 1 : Nat) : Int) := by rw [IntWalk.i64_in _ (by omega)]; simp
    have R := Lib.hid (HH.out (i + 1) (by omega) (by omega))
    clear hk
    have E1 : Hid ((i : Int) + 1 = ((i + 1 : Nat) : Int)) := Lib.hid (by simp)
    clear e1
    go_wp2_with fail
    rw [E1.out]
    by_cases hik : i + 1 = k
    · have R2 := R.out
      rw [decide_eq_true hik] at R2
      have IK := Lib.hid hik
      clear hik
      refine R2.mono ?_
      clear R2
      rintro e w1 ⟨rfl, rfl⟩
      go_wp2_with fail
      go_ret
      exact ⟨by rw [← IK.out]; exact congrArg (fun z => Ending.returned (.int .i64 z)) E1.out, rfl⟩
    · have R2 := R.out
      rw [decide_eq_false hik] at R2
      refine R2.mono ?_
      clear R2
      rintro e w1 ⟨rfl, rfl⟩
      go_wp2_with fail
      exact ⟨⟨i + 1, by omega, by go_num⟩, by simp [intOf]; omega⟩
theorem num_of_nil (w : World) : Calls Tryd.prog 43 #[.nilIface] w fun e w' => e = .returned (.int .i64 0) ∧ w = w' := by
  go_enter Tryd.func43, Tryd.ntmps43
  go_wp2
  go_ret
  exact ⟨rfl, rfl⟩

end Go.Proofs.YtkpbjahjiajodaaDoor
