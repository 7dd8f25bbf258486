/- This text proves that a draw of the program's dice can be taken back, for every seed and every drawn number (the plain statement of DiceBack, over whole numbers). No condition. -/
import Derived.Test.YtlgcobimaadclaaPDiceBackx1
namespace Go.Proofs.Ytlgcobimaadclaa.Pure
open Go.RowKit Go.Proofs.Ytlgcobimaadclaa.PDiceBack Go.Proofs.YtlgcobimaadclaaW.PrintWords Go.Proofs.YtlgcobimaadclaaW.PrintLast

theorem u64_wrap (x : Int) : IntKind.u64.wrap x = x % 18446744073709551616 := rfl

theorem i64_wf {a : Int} (h : (Lit.int .i64 a).wf = true) : -9223372036854775808 ≤ a ∧ a ≤ 9223372036854775807 := by
  simpa [Lit.wf, IntKind.min, IntKind.max, IntKind.signed, IntKind.bits] using h

theorem u64_wf {a : Int} (h : (Lit.int .u64 a).wf = true) : 0 ≤ a ∧ a ≤ 18446744073709551615 := by
  simpa [Lit.wf, IntKind.min, IntKind.max, IntKind.signed, IntKind.bits] using h

theorem skip_is (a m : Int) : dice_Skip.f a m = some (wrap64 (a + m * 11400714819323198485)) := by
  unfold dice_Skip.f wrap64
  simp only [u64_wrap]
  congr 1
  omega

/-- The numbers of 64 bits as bits, and back. -/
def B (x : Int) : BitVec 64 := BitVec.ofInt 64 x
def N (b : BitVec 64) : Int := (b.toNat : Int)

theorem B_N (b : BitVec 64) : B (N b) = b := by
  unfold B N
  apply BitVec.eq_of_toNat_eq
  simp

theorem N_B {x : Int} (h : 0 ≤ x) (h' : x < 18446744073709551616) : N (B x) = x := by
  unfold B N
  rw [BitVec.toNat_ofInt]
  omega

theorem N_bd (b : BitVec 64) : 0 ≤ N b ∧ N b < 18446744073709551616 := by
  unfold N
  have := b.isLt
  omega

theorem xor_N (a b : BitVec 64) : Go.bits .xor .u64 (N a) (N b) = N (a ^^^ b) := by
  have h : Go.bits .xor .u64 (N a) (N b) = ((B (N a) ^^^ B (N b)).toNat : Int) % 18446744073709551616 := rfl
  rw [h, B_N, B_N]
  have := (a ^^^ b).isLt
  unfold N
  omega

theorem shift_N (a : BitVec 64) (s : Nat) : N a / (2 ^ s : Int) = N (a >>> s) := by
  unfold N
  rw [BitVec.toNat_ushiftRight, Nat.shiftRight_eq_div_pow]
  simp

theorem mul_N (a : BitVec 64) (c : Int) (h : 0 ≤ c) (h' : c < 18446744073709551616) : IntKind.u64.wrap (N a * c) = N (a * B c) := by
  rw [u64_wrap]
  unfold N
  rw [BitVec.toNat_mul]
  have e : ((B c).toNat : Int) = c := N_B h h'
  simp [e]

/-- What mixing does to bits. -/
def mixB (z : BitVec 64) : BitVec 64 :=
  let a := (z ^^^ z >>> 30) * B 13787848793156543929
  let b := (a ^^^ a >>> 27) * B 10723151780598845931
  b ^^^ b >>> 31

theorem mix_is (z : BitVec 64) : dice_mix.f (N z) = some (N (mixB z)) := by
  unfold dice_mix.f mixB
  simp only
  have s30 := shift_N z 30
  simp only [Int.reducePow] at s30
  rw [s30, xor_N, mul_N _ _ (by decide) (by decide)]
  generalize (z ^^^ z >>> 30) * B 13787848793156543929 = a
  have s27 := shift_N a 27
  simp only [Int.reducePow] at s27
  rw [s27, xor_N, mul_N _ _ (by decide) (by decide)]
  generalize (a ^^^ a >>> 27) * B 10723151780598845931 = b
  have s31 := shift_N b 31
  simp only [Int.reducePow] at s31
  rw [s31, xor_N]

/-- What unshifting does to bits: two rounds. -/
def unB (z : BitVec 64) (s : Nat) : BitVec 64 := z ^^^ (z ^^^ z >>> s) >>> s

theorem shr_N (a : BitVec 64) (s : Nat) (h : s ≤ 64) : shr .u64 (N a) (s : Int) = N (a >>> s) := by
  unfold shr
  rw [← shift_N]
  have : min (s : Int).toNat IntKind.u64.bits = s := by show min (s : Int).toNat 64 = s; omega
  rw [this]

theorem unshift_is (z : BitVec 64) (s : Nat) (h1 : 22 ≤ s) (h2 : s < 32) (k : Nat) (hk : 3 ≤ k) : dice_unshift.f k (N z) (s : Int) = some (N (unB z s)) := by
  obtain ⟨k, rfl⟩ : ∃ m, k = m + 3 := ⟨k - 3, by omega⟩
  unfold dice_unshift.f
  simp only [dice_unshift.l0]
  have e1 : wrap64 ((s : Int) + s) = s + s := by unfold wrap64; omega
  have e2 : wrap64 ((s : Int) + s + s) = s + s + s := by unfold wrap64; omega
  rw [if_pos (by omega), if_pos (by omega), e1, if_pos (by omega), if_pos (by omega), e2, if_neg (by omega)]
  rw [shr_N _ _ (by omega), xor_N, shr_N _ _ (by omega), xor_N]
  rfl

theorem far (x : BitVec 64) (n : Nat) (h : 64 ≤ n) : x >>> n = 0#64 := BitVec.ushiftRight_eq_zero h

theorem un_mixed (x : BitVec 64) (s : Nat) (h1 : 22 ≤ s) : unB (x ^^^ x >>> s) s = x := by
  unfold unB
  simp only [BitVec.ushiftRight_xor_distrib, ← BitVec.shiftRight_add]
  rw [far x (s + s + s) (by omega)]
  generalize x >>> s = a
  generalize x >>> (s + s) = b
  apply BitVec.eq_of_getLsbD_eq
  intro i _
  simp only [BitVec.getLsbD_xor, BitVec.getLsbD_zero]
  cases x.getLsbD i <;> cases a.getLsbD i <;> cases b.getLsbD i <;> rfl

theorem mixed_un (z : BitVec 64) (s : Nat) (h1 : 22 ≤ s) : unB z s ^^^ (unB z s) >>> s = z := by
  unfold unB
  simp only [BitVec.ushiftRight_xor_distrib, ← BitVec.shiftRight_add]
  rw [far z (s + s + s) (by omega)]
  generalize z >>> s = a
  generalize z >>> (s + s) = b
  apply BitVec.eq_of_getLsbD_eq
  intro i _
  simp only [BitVec.getLsbD_xor, BitVec.getLsbD_zero]
  cases z.getLsbD i <;> cases a.getLsbD i <;> cases b.getLsbD i <;> rfl

def unmixB (z : BitVec 64) : BitVec 64 := unB (unB (unB z 31 * B 3573116690164977347) 27 * B 10871156337175269513) 30

theorem unmix_is (z : BitVec 64) (k : Nat) (hk : 3 ≤ k) : dice_unmix.f k (N z) = some (N (unmixB z)) := by
  unfold dice_unmix.f unmixB
  have u31 := unshift_is z 31 (by omega) (by omega) k hk
  simp only [Int.cast_ofNat_Int] at u31
  rw [u31]
  simp only [Option.bind_some]
  rw [mul_N _ _ (by decide) (by decide)]
  generalize unB z 31 * B 3573116690164977347 = a
  have u27 := unshift_is a 27 (by omega) (by omega) k hk
  simp only [Int.cast_ofNat_Int] at u27
  rw [u27]
  simp only [Option.bind_some]
  rw [mul_N _ _ (by decide) (by decide)]
  generalize unB a 27 * B 10871156337175269513 = b
  have u30 := unshift_is b 30 (by omega) (by omega) k hk
  simp only [Int.cast_ofNat_Int] at u30
  rw [u30]
  rfl

theorem one_a : B 13787848793156543929 * B 10871156337175269513 = 1#64 := by decide +kernel
theorem one_b : B 10723151780598845931 * B 3573116690164977347 = 1#64 := by decide +kernel
theorem one_a' : B 10871156337175269513 * B 13787848793156543929 = 1#64 := by decide +kernel
theorem one_b' : B 3573116690164977347 * B 10723151780598845931 = 1#64 := by decide +kernel

theorem unmix_mix (z : BitVec 64) : unmixB (mixB z) = z := by
  unfold unmixB mixB
  simp only
  rw [un_mixed _ 31 (by omega), BitVec.mul_assoc, one_b, BitVec.mul_one, un_mixed _ 27 (by omega), BitVec.mul_assoc, one_a, BitVec.mul_one, un_mixed _ 30 (by omega)]

theorem mix_unmix (z : BitVec 64) : mixB (unmixB z) = z := by
  unfold unmixB mixB
  simp only
  rw [mixed_un _ 30 (by omega), BitVec.mul_assoc, one_a', BitVec.mul_one, mixed_un _ 27 (by omega), BitVec.mul_assoc, one_b', BitVec.mul_one, mixed_un _ 31 (by omega)]

theorem next_is (a : Int) : dice_Next.f a = some (wrap64 (a + 11400714819323198485), N (mixB (B (a + 11400714819323198485)))) := by
  unfold dice_Next.f
  rw [skip_is]
  simp only [Option.bind_some, Int.one_mul]
  have e : IntKind.u64.wrap (wrap64 (a + 11400714819323198485)) = N (B (a + 11400714819323198485)) := by
    rw [u64_wrap]
    unfold N B wrap64
    rw [BitVec.toNat_ofInt]
    omega
  rw [e, mix_is]
  rfl

theorem back_is (a : Int) : dice_Back.f a = some (wrap64 (a - 11400714819323198485)) := by
  unfold dice_Back.f
  rw [skip_is]
  simp only [Option.bind_some]
  congr 1

theorem seed_is (z : BitVec 64) (k : Nat) (hk : 3 ≤ k) : dice_Seed.f k (N z) = some (wrap64 (wrap64 (N (unmixB z)) - 11400714819323198485)) := by
  unfold dice_Seed.f
  rw [unmix_is z k hk]
  simp only [Option.bind_some, back_is]

theorem awake_is : pasodoblelaw04_awake.f = some true := by decide +kernel

theorem back_next (a : Int) (ha : -9223372036854775808 ≤ a ∧ a ≤ 9223372036854775807) : wrap64 (wrap64 (a + 11400714819323198485) - 11400714819323198485) = a := by unfold wrap64; omega

theorem next_back (a : Int) (ha : -9223372036854775808 ≤ a ∧ a ≤ 9223372036854775807) : wrap64 (wrap64 (a - 11400714819323198485) + 11400714819323198485) = a := by unfold wrap64; omega

theorem N_B_mod (x : Int) : N (B x) = x % 18446744073709551616 := by
  unfold N B
  rw [BitVec.toNat_ofInt]
  omega

theorem B_mod (x y : Int) (h : x % 18446744073709551616 = y % 18446744073709551616) : B x = B y := by
  rw [← B_N (B x), ← B_N (B y), N_B_mod, N_B_mod, h]

theorem seed_next (a : Int) (ha : -9223372036854775808 ≤ a ∧ a ≤ 9223372036854775807) : wrap64 (wrap64 (N (B (a + 11400714819323198485))) - 11400714819323198485) = a := by
  rw [N_B_mod]
  unfold wrap64
  omega

theorem next_seed (z : BitVec 64) : B (wrap64 (wrap64 (N z) - 11400714819323198485) + 11400714819323198485) = z := by
  have hb := N_bd z
  have h : B (wrap64 (wrap64 (N z) - 11400714819323198485) + 11400714819323198485) = B (N z) := by
    apply B_mod
    generalize N z = x at *
    unfold wrap64
    omega
  rw [h, B_N]

theorem DiceBack : pasodoblelaw04_DiceBack.Pure := by
  intro a0 a1 h0 h1
  have ha := i64_wf h0
  have hz := u64_wf h1
  refine ⟨3, ?_⟩
  obtain ⟨z, rfl⟩ : ∃ z, a1 = N z := ⟨B a1, (N_B hz.1 (by omega)).symm⟩
  unfold pasodoblelaw04_DiceBack.f
  rw [awake_is, Option.bind_some, if_pos rfl, next_is, Option.bind_some, seed_is _ 3 (Nat.le_refl _), Option.bind_some, next_is, Option.bind_some, back_is, Option.bind_some, next_is, Option.bind_some,
    back_is, Option.bind_some, back_next a0 ha, if_pos rfl, next_back a0 ha, if_pos rfl, seed_is _ 3 (Nat.le_refl _), Option.bind_some, unmix_mix, seed_next a0 ha, if_pos rfl, next_seed, mix_unmix]
  rw [beq_self_eq_true]

end Go.Proofs.Ytlgcobimaadclaa.Pure
