/- This text proves what the reference's sums of bytes, seals and frames compute, over the loaded program. -/
import Derived.Test.YtgdbpicelnoacaaDoorSum4
import Derived.Test.YtgdbpicelnoacaaDoorPar
namespace Go.Proofs.YtgdbpicelnoacaaDoor
open Go.RowKit Go.WideShapes
set_option linter.unusedSimpArgs false

theorem u64_byteR (c : UInt8) : IntKind.u64.wrap (c.toNat : Int) = (c.toNat : Int) := by
  rw [Tal.u64_wrap]
  have := c.toNat_lt
  omega
set_option maxHeartbeats 400000 in
theorem on_any (s : Int) (t : ByteArray) (w : World) (ht : t.size ≤ maxLen) :
    Calls Tryd.prog 87 #[.int .u64 s, .string t] w fun e w' => e = .returned (.int .u64 (Tal.addL s t.data.toList)) ∧ w = w' := by
  unfold maxLen at ht
  go_enter Tryd.func87, Tryd.ntmps87
  go_wp2
  go_loop [0, 5] (fun h i => ∃ k : Nat, k ≤ t.size ∧ i = .int .i64 k ∧ h = .int .u64 (Tal.addL s (t.data.toList.take k))) (fun _ i => t.size - (intOf i).toNat)
  case atStart => exact ⟨0, Nat.zero_le _, rfl, rfl⟩
  case round =>
    obtain ⟨k, hk, rfl, rfl⟩ := hrel
    by_cases hlt : k < t.size
    · have hi1 : (0 : Int) ≤ (k : Int) := by omega
      have hi2 : (k : Int) < (t.size : Int) := by omega
      go_wp2
      go_round
      case rel => exact ⟨k + 1, by omega, by go_num, by rw [Tal.take_snoc _ _ hlt, Tal.addL_snoc, Tal.stepI, u64_byteR]⟩
      case measure => simp [intOf]; omega
    · have e : t.data.toList.take k = t.data.toList := List.take_of_length_le (by simp; omega)
      rw [e]
      go_wp2
      go_ret
      exact ⟨rfl, rfl⟩
set_option maxHeartbeats 400000 in
theorem shortR_any (t : ByteArray) (w : World) (ht : t.size ≤ maxLen) :
    Calls Tryd.prog 77 #[.string t] w fun e w' => e = .returned (.int .u32 (Tal.shortI (Tal.addL 14695981039346656037 t.data.toList))) ∧ w = w' := by
  go_enter Tryd.func77, Tryd.ntmps77
  go_wp2_with (go_at_call 87; refine (on_any _ _ _ ht).mono ?_; rintro e w' ⟨rfl, rfl⟩)
  go_ret
  exact ⟨rfl, rfl⟩

set_option maxRecDepth 100000 in
set_option maxHeartbeats 3200000 in
/-- Sealed. -/
theorem sealed_any (t : ByteArray) (w : World) (ht : t.size ≤ 1000000) : Calls Tryd.prog 49 #[.string t] w fun e w' => e = .returned (.string (t ++ strB (sum4 t.data.toList))) ∧ Below w.heap.size w w' := by
  have SH := Lib.hid (shortR_any t w (by simp only [maxLen]; omega))
  obtain ⟨r0, r1⟩ := shortI_range (Tal.addL 14695981039346656037 t.data.toList)
  unfold sum4
  generalize Tal.shortI (Tal.addL 14695981039346656037 t.data.toList) = x at *
  obtain ⟨n, rfl⟩ : ∃ n : Nat, x = n := ⟨x.toNat, by omega⟩
  have c4 := cv4 w n (by omega)
  have sm : ¬ 9223372036854775807 < t.size + (strB (le4 n)).size := by rw [strB_size]; simp [le4]; omega
  clear ht
  go_enter Tryd.func49, Tryd.ntmps49
  go_wp2_with fail
  refine SH.out.mono ?_
  rintro e w1 ⟨rfl, rfl⟩
  go_wp2_with fail
  go_ret
  exact ⟨rfl, (Below.refl _ _).alloc (Nat.le_refl _) _⟩

/-- frame. -/
theorem frame_any (n low : Int) (w : World) : Calls Tryd.prog 74 #[.int .i64 n, .int .i64 low] w fun e w' => e = .returned (.bool (within n low 1073741824)) ∧ w = w' := by
  unfold within
  by_cases h : low ≤ n
  · rw [decide_eq_true h]
    go_enter Tryd.func74, Tryd.ntmps74
    go_wp2
    go_ret
    exact ⟨rfl, rfl⟩
  · rw [decide_eq_false h]
    have q : decide (low ≤ n) = false := by simpa using h
    clear h
    go_enter Tryd.func74, Tryd.ntmps74
    go_wp2
    go_ret
    exact ⟨rfl, rfl⟩

end Go.Proofs.YtgdbpicelnoacaaDoor
