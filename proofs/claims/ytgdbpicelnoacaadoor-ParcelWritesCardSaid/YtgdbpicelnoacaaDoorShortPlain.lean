/- This text says in plain words what inputs that stay the same cost. No program. -/
import Derived.Test.YtgdbpicelnoacaaDoorEnc4
import Derived.Test.YtgdbpicelnoacaaDoorFormsPlain
namespace Go.Proofs.YtgdbpicelnoacaaDoor
open Go.RowKit Go.WideShapes

/-- A byte out of any number. -/
def val8 (x : Int) : Int := x % 18446744073709551616 % 256
theorem val8_in (x : Int) : 0 ≤ val8 x ∧ val8 x ≤ 255 := by unfold val8; omega
theorem val8_wrap (x : Int) : wrap64 ((IntKind.u64.wrap x).tmod 256) = val8 x := by
  have h := val8_in x
  rw [show IntKind.u64.wrap x = x % 18446744073709551616 from rfl, Int.tmod_eq_emod_of_nonneg (by omega)]
  unfold val8 at *
  unfold wrap64
  omega
theorem mod1000 (x : Int) : ∃ k : Nat, wrap64 ((IntKind.u64.wrap x).tmod 1000) = (k : Int) ∧ k < 1000 := by
  refine ⟨(x % 18446744073709551616 % 1000).toNat, ?_, by omega⟩
  rw [show IntKind.u64.wrap x = x % 18446744073709551616 from rfl, Int.tmod_eq_emod_of_nonneg (by omega)]
  unfold wrap64
  omega
/-- The input ahead of the k-th. -/
def lastL (b : Int) (vs : List Int) (k : Nat) : Int := (vs.take k).getLastD b
theorem insL_snoc : ∀ (l : List Int) (b x : Int), insL b (l ++ [x]) = insL b l ++ (if x != l.getLastD b then [UInt8.ofNat x.toNat] else [])
  | [], b, x => by simp [insL]
  | y :: r, b, x => by
    have e : (y :: r).getLastD b = r.getLastD y := by cases r <;> rfl
    rw [List.cons_append, insL, insL_snoc r y x, insL, List.append_assoc, e]
theorem lastL_snoc (b : Int) (l : List Int) (x : Int) : (l ++ [x]).getLastD b = x := by simp [List.getLastD_eq_getLast?]
theorem insL_same (b : Int) : ∀ n, insL b (List.replicate n b) = []
  | 0 => rfl
  | n + 1 => by rw [List.replicate_succ, insL, insL_same b n]; simp
theorem short_len (f b a : Int) (vs : List Int) (A B : Option Addr) (c d : Nat) : (encP ⟨3, 0, f, b, vs, a, 0, A, c⟩).length = (encP ⟨3, 0, f, b, List.replicate vs.length b, a, 0, B, d⟩).length + (insL b vs).length := by
  unfold encP
  rw [List.length_append, List.length_append, sum4_len, sum4_len]
  simp only [bareL, bodyL, List.length_append, List.length_cons, List.length_nil]
  simp only [show ¬ ((3 : Int) = 1 ∨ (3 : Int) = 2) by decide, if_false, if_true, List.length_append, flagsL_len, turnsL_len, List.length_replicate, insL_same, List.length_nil]
  omega
theorem short_good (f b a : Int) (vs : List Int) (A : Option Addr) (c : Nat) (hf : 1 ≤ f ∧ f ≤ 1000) (ha : 0 ≤ a ∧ a ≤ 1000) (hb : 0 ≤ b ∧ b ≤ 255) (hl : 1 ≤ vs.length ∧ vs.length ≤ 32) (hv : ∀ x ∈ vs, 0 ≤ x ∧ x ≤ 255) : (⟨3, 0, f, b, vs, a, 0, A, c⟩ : Par).good = true := by
  have hi : (⟨3, 0, f, b, vs, a, 0, A, c⟩ : Par).isIn = true := by
    unfold Par.isIn noIn
    simp only [Bool.and_eq_true, Bool.not_eq_true']
    refine ⟨⟨⟨within_iff.2 ⟨by omega, by omega⟩, within_iff.2 hb⟩, within_iff.2 ⟨by omega, by omega⟩⟩, ?_⟩
    rw [List.any_eq_false]
    intro x hx
    simp
    exact within_iff.2 (hv x hx)
  unfold Par.good Par.own
  simp only [show ¬ ((3 : Int) = 1 ∨ (3 : Int) = 2) by decide, show ¬ ((3 : Int) = 4) by decide, show ¬ ((3 : Int) = 6) by decide, if_false, if_true, hi]
  rw [Bool.and_eq_true]
  exact ⟨within_iff.2 ⟨by omega, by omega⟩, by simp [Par.same]⟩

end Go.Proofs.YtgdbpicelnoacaaDoor
