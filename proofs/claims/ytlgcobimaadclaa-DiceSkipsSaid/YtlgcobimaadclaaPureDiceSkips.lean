/- This text proves that so many draws of the program's dice at once are as many draws one by one, and back again, for every seed and every two numbers (the plain statement of DiceSkips, over whole numbers). No condition. -/
import Derived.Test.YtlgcobimaadclaaPDiceSkipsx1
namespace Go.Proofs.Ytlgcobimaadclaa.Pure
open Go.RowKit Go.Proofs.Ytlgcobimaadclaa.PDiceSkips Go.Proofs.YtlgcobimaadclaaW.PrintWords Go.Proofs.YtlgcobimaadclaaW.PrintLast

theorem u64_wrap (x : Int) : IntKind.u64.wrap x = x % 18446744073709551616 := rfl

theorem i64_wf {a : Int} (h : (Lit.int .i64 a).wf = true) : -9223372036854775808 ≤ a ∧ a ≤ 9223372036854775807 := by
  simpa [Lit.wf, IntKind.min, IntKind.max, IntKind.signed, IntKind.bits] using h

theorem skip_is (a m : Int) : dice_Skip.f a m = some (wrap64 (a + m * 11400714819323198485)) := by
  unfold dice_Skip.f wrap64
  simp only [u64_wrap]
  congr 1
  omega

theorem next_is (a : Int) : ∃ n, dice_Next.f a = some (wrap64 (a + 11400714819323198485), n) := by
  unfold dice_Next.f
  rw [skip_is]
  exact ⟨_, by simp only [Option.bind_some, dice_mix.f, Int.one_mul]; rfl⟩

theorem awake_is : pasodoblelaw04_awake.f = some true := by decide +kernel

theorem tail_is (a m n : Int) (ha : -9223372036854775808 ≤ a ∧ a ≤ 9223372036854775807) (_hn : 0 ≤ n) (_hn' : n < 200) (k : Nat) :
    pasodoblelaw04_DiceSkips.l0 (k + 1) a m n (wrap64 (a + n * 11400714819323198485)) n = some true := by
  simp only [pasodoblelaw04_DiceSkips.l0]
  rw [if_neg (by omega)]
  simp only [skip_is, Option.bind_some, if_true]
  rw [if_pos (by unfold wrap64; omega), if_pos (by unfold wrap64; omega), if_pos (by unfold wrap64; omega)]
  have e : wrap64 (wrap64 (a + m * 11400714819323198485) + n * 11400714819323198485) = wrap64 (wrap64 (a + n * 11400714819323198485) + m * 11400714819323198485) := by unfold wrap64; omega
  rw [e]; simp

theorem loop_is (a m n : Int) (ha : -9223372036854775808 ≤ a ∧ a ≤ 9223372036854775807) (hn' : n < 200) (d : Nat) :
    ∀ (k : Nat) (i : Int), 0 ≤ i → i ≤ n → n - i = d → d < k → pasodoblelaw04_DiceSkips.l0 k a m n (wrap64 (a + i * 11400714819323198485)) i = some true := by
  induction d with
  | zero =>
    intro k i h0 h1 hd hk
    obtain ⟨k, rfl⟩ : ∃ m, k = m + 1 := ⟨k - 1, by omega⟩
    obtain rfl : n = i := by omega
    exact tail_is a m n ha h0 hn' k
  | succ d ih =>
    intro k i h0 h1 hd hk
    obtain ⟨k, rfl⟩ : ∃ m, k = m + 1 := ⟨k - 1, by omega⟩
    simp only [pasodoblelaw04_DiceSkips.l0]
    rw [if_pos (by omega)]
    obtain ⟨z, hz⟩ := next_is (wrap64 (a + i * 11400714819323198485))
    rw [hz]
    simp only [Option.bind_some]
    have e : wrap64 (wrap64 (a + i * 11400714819323198485) + 11400714819323198485) = wrap64 (a + (i + 1) * 11400714819323198485) := by unfold wrap64; omega
    have e1 : wrap64 (i + 1) = i + 1 := by unfold wrap64; omega
    rw [e, e1]
    exact ih k (i + 1) (by omega) (by omega) (by omega) (by omega)

theorem DiceSkips : pasodoblelaw04_DiceSkips.Pure := by
  intro a0 a1 a2 h0 h1 h2
  have ha := i64_wf h0
  refine ⟨201, ?_⟩
  unfold pasodoblelaw04_DiceSkips.f
  rw [awake_is]
  simp only [Option.bind_some, if_true, u64_wrap]
  have e : wrap64 (Int.tmod (a1 % 18446744073709551616) 200) = (a1 % 18446744073709551616) % 200 := by
    rw [Int.tmod_eq_emod_of_nonneg (by omega)]
    unfold wrap64; omega
  rw [e]
  have e0 : a0 = wrap64 (a0 + 0 * 11400714819323198485) := by unfold wrap64; omega
  have h := loop_is a0 a2 (a1 % 18446744073709551616 % 200) ha (by omega) (a1 % 18446744073709551616 % 200).toNat 201 0 (by omega) (by omega) (by omega) (by omega)
  rw [← e0] at h
  exact h

end Go.Proofs.Ytlgcobimaadclaa.Pure
