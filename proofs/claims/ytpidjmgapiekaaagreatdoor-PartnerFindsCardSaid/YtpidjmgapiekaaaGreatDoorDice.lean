/- This text proves what the program's dice and the document's answer for them compute, over the loaded program. -/
import Derived.Test.YtpidjmgapiekaaaGreatDoorChecked
import Derived.Test.YtpidjmgapiekaaaGreatDoorOwn
import Derived.WalkKit
import Derived.WalkLawsBesides
import Derived.WalkSpells
import Derived.IntWalk
import Derived.KernelRfl
import Derived.Lib.Hide
import Derived.BigQuiet
import Derived.StillTailTactics
namespace Go.Proofs.YtpidjmgapiekaaaGreatDoor
open Go.RowKit

theorem u64_wrap (x : Int) : IntKind.u64.wrap x = x % 18446744073709551616 := rfl
theorem u64_ge (x : Int) : 0 ≤ IntKind.u64.wrap x := by rw [u64_wrap]; omega
theorem u64_lt (x : Int) : IntKind.u64.wrap x < 18446744073709551616 := by rw [u64_wrap]; omega

/-- The seed behind so many draws. -/
def skipI (a m : Int) : Int := wrap64 (IntKind.u64.wrap (IntKind.u64.wrap a + IntKind.u64.wrap (IntKind.u64.wrap m * 11400714819323198485)))

theorem skipI_is (a m : Int) : skipI a m = wrap64 (a + m * 11400714819323198485) := by
  unfold skipI wrap64
  simp only [u64_wrap]
  omega

def mixI (z : Int) : Int :=
  Go.bits .xor .u64 (IntKind.u64.wrap (Go.bits .xor .u64 (IntKind.u64.wrap (Go.bits .xor .u64 z (z / 1073741824) * 13787848793156543929)) (IntKind.u64.wrap (Go.bits .xor .u64 z (z / 1073741824) * 13787848793156543929) / 134217728) * 10723151780598845931))
    (IntKind.u64.wrap (Go.bits .xor .u64 (IntKind.u64.wrap (Go.bits .xor .u64 z (z / 1073741824) * 13787848793156543929)) (IntKind.u64.wrap (Go.bits .xor .u64 z (z / 1073741824) * 13787848793156543929) / 134217728) * 10723151780598845931) / 2147483648)

theorem bits_range (x y : Int) : 0 ≤ Go.bits .xor .u64 x y ∧ Go.bits .xor .u64 x y < 18446744073709551616 := by
  unfold Go.bits
  exact ⟨u64_ge _, u64_lt _⟩

theorem mixI_range (z : Int) : 0 ≤ mixI z ∧ mixI z < 18446744073709551616 := bits_range _ _

set_option maxHeartbeats 400000 in
theorem skip_any (a m : Int) (w : World) :
    Calls Tryz.prog 166 #[.int .i64 a, .int .i64 m] w fun e w' => e = .returned (.int .i64 (skipI a m)) ∧ w = w' := by
  go_enter Tryz.func166, Tryz.ntmps166
  go_wp2
  go_ret
  exact ⟨rfl, rfl⟩

set_option maxHeartbeats 400000 in
theorem mixD_any (z : Int) (w : World) :
    Calls Tryz.prog 167 #[.int .u64 z] w fun e w' => e = .returned (.int .u64 (mixI z)) ∧ w = w' := by
  go_enter Tryz.func167, Tryz.ntmps167
  go_wp2
  go_ret
  exact ⟨rfl, rfl⟩

set_option maxHeartbeats 400000 in
theorem mixDR_any (z : Int) (w : World) :
    Calls Tryz.prog 169 #[.int .u64 z] w fun e w' => e = .returned (.int .u64 (mixI z)) ∧ w = w' := by
  go_enter Tryz.func169, Tryz.ntmps169
  go_wp2
  go_ret
  exact ⟨rfl, rfl⟩

def nextS (a : Int) : Int := skipI a 1
def nextN (a : Int) : Int := mixI (IntKind.u64.wrap (nextS a))

theorem nextS_is (a : Int) : nextS a = wrap64 (a + 11400714819323198485) := by
  unfold nextS
  rw [skipI_is, Int.one_mul]

set_option maxHeartbeats 400000 in
theorem next_any (a : Int) (w : World) :
    Calls Tryz.prog 156 #[.int .i64 a] w fun e w' => e = .returned (.tuple #[.int .i64 (nextS a), .int .u64 (nextN a)]) ∧ w = w' := by
  go_enter Tryz.func156, Tryz.ntmps156
  go_wp2_with fail
  refine (skip_any a 1 _).mono ?_
  rintro e w1 ⟨rfl, rfl⟩
  go_wp2_with fail
  refine (mixD_any _ _).mono ?_
  rintro e w1 ⟨rfl, rfl⟩
  go_wp2
  go_ret2
  exact ⟨rfl, rfl⟩

set_option maxHeartbeats 400000 in
theorem stepR_any (a : Int) (w : World) :
    Calls Tryz.prog 168 #[.int .i64 a] w fun e w' => e = .returned (.int .i64 (nextS a)) ∧ w = w' := by
  have H := Lib.hid (show nextS a = wrap64 (IntKind.u64.wrap (IntKind.u64.wrap a + 11400714819323198485)) by rw [nextS_is]; unfold wrap64; simp only [u64_wrap]; omega)
  go_enter Tryz.func168, Tryz.ntmps168
  go_wp2
  go_ret
  rw [H.out]
  exact ⟨rfl, rfl⟩

set_option maxHeartbeats 400000 in
theorem nextR_any (a : Int) (w : World) :
    Calls Tryz.prog 157 #[.int .i64 a] w fun e w' => e = .returned (.tuple #[.int .i64 (nextS a), .int .u64 (nextN a)]) ∧ w = w' := by
  go_enter Tryz.func157, Tryz.ntmps157
  go_wp2_with fail
  refine (stepR_any a _).mono ?_
  rintro e w1 ⟨rfl, rfl⟩
  go_wp2_with fail
  refine (stepR_any a _).mono ?_
  rintro e w1 ⟨rfl, rfl⟩
  go_wp2_with fail
  refine (mixDR_any _ _).mono ?_
  rintro e w1 ⟨rfl, rfl⟩
  go_wp2
  go_ret2
  exact ⟨rfl, rfl⟩

def drawN (a b : Int) : Int := if b ≤ 0 then 0 else nextN a % b

theorem nextN_range (a : Int) : 0 ≤ nextN a ∧ nextN a < 18446744073709551616 := mixI_range _

theorem drawN_range (a b : Int) : 0 ≤ drawN a b ∧ (0 < b → drawN a b < b) := by
  unfold drawN
  split
  · exact ⟨Int.le_refl _, fun h => by omega⟩
  · exact ⟨Int.emod_nonneg _ (by omega), fun h => Int.emod_lt_of_pos _ h⟩

def Two (a b : Value) (w : World) (e : Ending) (w' : World) : Prop := e = .returned (.tuple #[a, b]) ∧ ∃ n, w' = w.drewN n

set_option maxHeartbeats 800000 in
theorem draw_any (a b : Int) (w : World) (hb : b ≤ 9223372036854775807) :
    Calls Tryz.prog 134 #[.int .i64 a, .int .i64 b] w (Two (.int .i64 (nextS a)) (.int .i64 (drawN a b)) w) := by
  by_cases h : b ≤ 0
  · have HD := Lib.hid (show drawN a b = 0 by simp [drawN, h])
    rw [HD.out]
    go_enter Tryz.func134, Tryz.ntmps134
    go_wp2_with fail
    refine (next_any a _).mono ?_
    rintro e w1 ⟨rfl, rfl⟩
    go_wp2
    go_ret2
    exact ⟨rfl, 0, rfl⟩
  · have hr := nextN_range a
    have ht1 : decide (b ≤ 0) = false := by simp; omega
    have hq := Lib.hid (show wrap64 (nextN a % b) = drawN a b by
      have h2 := Int.emod_nonneg (nextN a) (show b ≠ 0 by omega)
      have h3 := Int.emod_lt_of_pos (nextN a) (show 0 < b by omega)
      unfold drawN
      rw [if_neg h]
      unfold wrap64
      omega)
    have hw : ¬ (IntKind.u64.wrap b = 0) := by rw [u64_wrap]; omega
    go_enter Tryz.func134, Tryz.ntmps134
    go_wp2_with fail
    refine (next_any a _).mono ?_
    rintro e w1 ⟨rfl, rfl⟩
    go_wp2_with fail
    go_quiet (fail)
    go_wp2
    go_ret2
    rw [hq.out]
    exact ⟨rfl, nq, rfl⟩

set_option maxHeartbeats 800000 in
theorem drawR_any (a b : Int) (w : World) (hb : b ≤ 9223372036854775807) :
    Calls Tryz.prog 135 #[.int .i64 a, .int .i64 b] w (Two (.int .i64 (nextS a)) (.int .i64 (drawN a b)) w) := by
  by_cases h : b ≤ 0
  · have HD := Lib.hid (show drawN a b = 0 by simp [drawN, h])
    rw [HD.out]
    go_enter Tryz.func135, Tryz.ntmps135
    go_wp2_with fail
    refine (nextR_any a _).mono ?_
    rintro e w1 ⟨rfl, rfl⟩
    go_wp2
    go_ret2
    exact ⟨rfl, 0, rfl⟩
  · have hr := nextN_range a
    have ht1 : decide (b ≤ 0) = false := by simp; omega
    have hq := Lib.hid (show wrap64 (nextN a % b) = drawN a b by
      have h2 := Int.emod_nonneg (nextN a) (show b ≠ 0 by omega)
      have h3 := Int.emod_lt_of_pos (nextN a) (show 0 < b by omega)
      unfold drawN
      rw [if_neg h]
      unfold wrap64
      omega)
    have hw : ¬ (IntKind.u64.wrap b = 0) := by rw [u64_wrap]; omega
    go_enter Tryz.func135, Tryz.ntmps135
    go_wp2_with fail
    refine (nextR_any a _).mono ?_
    rintro e w1 ⟨rfl, rfl⟩
    go_wp2_with fail
    go_quiet (fail)
    go_wp2
    go_ret2
    rw [hq.out]
    exact ⟨rfl, nq, rfl⟩

end Go.Proofs.YtpidjmgapiekaaaGreatDoor
