/- This text proves what blame.Number tells of an error of the queue's, over the loaded program. -/
import Derived.Test.YtkpbjahjiajodaaDoorLNumber
import Derived.Test.YtkpbjahjiajodaaDoorQAwake
namespace Go.Proofs.YtkpbjahjiajodaaDoor
open Go.RowKit Go.WideShapes

theorem Apart.glob {n : Nat} {w : World} {A : Nat → Addr} (h : Apart n w A) (hn : 5 ≤ n) : Glob w A := fun j hj => (h.1 j (by omega)).1

theorem Wraps.isnt {n : Nat} {w : World} {v : Value} {A : Nat → Addr} {i j : Nat} (h : Wraps w v (A i)) (hA : Apart n w A) (hi : i < n) (hj : j < n) (hij : i ≠ j) : Calls Tryd.prog 35 #[v, .iface 129 (.pointer (some (A j)))] w fun e w' => e = .returned (.bool false) ∧ w = w' := by
  obtain ⟨b, rfl, h1⟩ := h
  obtain ⟨_, ci, ti, h2⟩ := hA.1 i hi
  obtain ⟨_, cj, tj, h3⟩ := hA.1 j hj
  exact (is_wrap_other b 0 (A j) (A i) ci cj ti tj w h1 (hA.2 i j hi hj hij) h2 h3).mono fun _ _ ⟨he, hw⟩ => ⟨he, hw.symm⟩

def ofNum9 : Nat → Nat
  | 1 => 0
  | 2 => 1
  | 3 => 7
  | 4 => 6
  | 5 => 8
  | 6 => 4
  | 7 => 5
  | 8 => 2
  | _ => 3
theorem of_any9 (k : Nat) (a : Addr) (w : World) (hk : 1 ≤ k ∧ k ≤ 9) (h : w.cell? ⟨ofNum9 k, 0, none⟩ = some (.iface 129 (.pointer (some a)))) : Calls Tryd.prog 71 #[.int .i64 k] w fun e w' => e = .returned (.iface 129 (.pointer (some a))) ∧ w = w' := by
  have hks : k = 1 ∨ k = 2 ∨ k = 3 ∨ k = 4 ∨ k = 5 ∨ k = 6 ∨ k = 7 ∨ k = 8 ∨ k = 9 := by omega
  rcases hks with rfl | rfl | rfl | rfl | rfl | rfl | rfl | rfl | rfl
  all_goals
    dsimp only [ofNum9] at h
    go_enter Tryd.func71, Tryd.ntmps71
    go_wp2
    go_ret
    exact ⟨rfl, rfl⟩
theorem has_any9 (k : Nat) (v : Value) (b : Bool) (a : Addr) (w : World) (hk : 1 ≤ k ∧ k ≤ 9) (h : w.cell? ⟨ofNum9 k, 0, none⟩ = some (.iface 129 (.pointer (some a)))) (hi : Calls Tryd.prog 35 #[v, .iface 129 (.pointer (some a))] w fun e w' => e = .returned (.bool b) ∧ w = w') : Calls Tryd.prog 67 #[v, .int .i64 k] w fun e w' => e = .returned (.bool b) ∧ w = w' := by
  have HI := Lib.hid hi
  have HO := Lib.hid (of_any9 k a w hk h)
  clear hi h
  go_enter Tryd.func67, Tryd.ntmps67
  go_wp2_with fail
  refine HO.out.mono ?_
  rintro e w1 ⟨rfl, rfl⟩
  go_wp2_with fail
  refine HI.out.mono ?_
  rintro e w1 ⟨rfl, rfl⟩
  go_wp2_with fail
  go_ret
  exact ⟨rfl, rfl⟩

theorem ofNum9_ne : ∀ i, i < 10 → ∀ k, k < 10 → 1 ≤ i → i < k → ofNum9 i ≠ ofNum9 k := by decide

/-- Number, of an error that wraps one of the api's. -/
theorem number_wraps9 (k n : Nat) (A : Nat → Addr) (v : Value) (w : World) (hk : 1 ≤ k ∧ k ≤ 9) (hA : Apart n w A) (hn : 9 ≤ n) (h : Wraps w v (A (ofNum9 k))) : Calls Tryd.prog 43 #[v] w fun e w' => e = .returned (.int .i64 k) ∧ w = w' := by
  have hlt : ∀ i, 1 ≤ i → i ≤ 9 → ofNum9 i < n := fun i h1 h2 => by
    have : ofNum9 i < 9 := by
      have his : i = 1 ∨ i = 2 ∨ i = 3 ∨ i = 4 ∨ i = 5 ∨ i = 6 ∨ i = 7 ∨ i = 8 ∨ i = 9 := by omega
      rcases his with rfl | rfl | rfl | rfl | rfl | rfl | rfl | rfl | rfl <;> decide
    omega
  have HH : Hid (∀ i, 1 ≤ i → i ≤ k → Calls Tryd.prog 67 #[v, .int .i64 i] w fun e w' => e = .returned (.bool (decide (i = k))) ∧ w = w') := Lib.hid (fun i h1 h2 => by
    have hg := (hA.1 (ofNum9 i) (hlt i h1 (by omega))).1
    by_cases e : i = k
    · subst e
      exact has_any9 i v _ _ w ⟨h1, by omega⟩ hg (by rw [decide_eq_true rfl]; exact h.is.mono fun _ _ ⟨he, hw⟩ => ⟨he, hw.symm⟩)
    · refine has_any9 i v _ _ w ⟨h1, by omega⟩ hg ?_
      rw [decide_eq_false e]
      exact h.isnt hA (hlt k hk.1 hk.2) (hlt i h1 (by omega)) (fun he => ofNum9_ne i (by omega) k (by omega) h1 (by omega) he.symm))
  obtain ⟨b, rfl, _⟩ := h
  clear hA hn hlt
  go_enter Tryd.func43, Tryd.ntmps43
  go_wp2_with fail
  go_loop [6] (fun iv => ∃ i : Nat, i < k ∧ iv = .int .i64 i) (fun iv => k - (intOf iv).toNat)
  case atStart => exact ⟨0, by omega, rfl⟩
  case round =>
    obtain ⟨i, hi, rfl⟩ := hrel
    have i18 : (i : Int) < 18 := by omega
    have e1 : IntKind.i64.wrap ((i : Int) + 1) = ((i + 1 : Nat) : Int) := by rw [IntWalk.i64_in _ (by omega)]; simp
    have R := Lib.hid (HH.out (i + 1) (by omega) (by omega))
    clear hk
    have E1 : Hid ((i : Int) + 1 = ((i + 1 : Nat) : Int)) := Lib.hid (by simp)
    clear e1
    go_wp2_with fail
    rw [E1.out]
    by_cases hik : i + 1 = k
    · have R2 := R.out
      rw [decide_eq_true hik] at R2
      have IK := Lib.hid hik
      clear hik
      refine R2.mono ?_
      clear R2
      rintro e w1 ⟨rfl, rfl⟩
      go_wp2_with fail
      go_ret
      exact ⟨by rw [← IK.out]; exact congrArg (fun z => Ending.returned (.int .i64 z)) E1.out, rfl⟩
    · have R2 := R.out
      rw [decide_eq_false hik] at R2
      refine R2.mono ?_
      clear R2
      rintro e w1 ⟨rfl, rfl⟩
      go_wp2_with fail
      exact ⟨⟨i + 1, by omega, by go_num⟩, by simp [intOf]; omega⟩

end Go.Proofs.YtkpbjahjiajodaaDoor
