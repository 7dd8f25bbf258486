/- This text holds plain laws on numbers as groups of seven bits, flags as bytes, and what is parsed of them. No program. -/
import Derived.Test.YtpidjmgapiekaaaGreatDoorBase
namespace Go.Proofs.YtpidjmgapiekaaaGreatDoor

/-- A number's groups. -/
def groupsL (n : Nat) : List UInt8 := if h : n < 128 then [UInt8.ofNat n] else UInt8.ofNat (n % 128 + 128) :: groupsL (n / 128)
termination_by n
decreasing_by omega

theorem groupsL_small {n : Nat} (h : n < 128) : groupsL n = [UInt8.ofNat n] := by rw [groupsL, dif_pos h]
theorem groupsL_big {n : Nat} (h : ¬ n < 128) : groupsL n = UInt8.ofNat (n % 128 + 128) :: groupsL (n / 128) := by rw [groupsL, dif_neg h]
theorem groupsL_pos (n : Nat) : 0 < (groupsL n).length := by
  rw [groupsL]
  split <;> simp
theorem groupsL_len : ∀ (k n : Nat), n < 128 ^ (k + 1) → (groupsL n).length ≤ k + 1
  | 0, n, h => by rw [groupsL_small (by simpa using h)]; simp
  | k + 1, n, h => by
    by_cases hn : n < 128
    · rw [groupsL_small hn]; simp
    · rw [groupsL_big hn]
      have := groupsL_len k (n / 128) (by rw [Nat.div_lt_iff_lt_mul (by decide)]; rw [Nat.pow_succ] at h; exact h)
      simp; omega
theorem groupsL_len10 (n : Nat) (h : n < 2 ^ 64) : (groupsL n).length ≤ 10 := groupsL_len 9 n (by omega)

/-- Parsing from the i-th byte on, acc being what the bytes ahead gave. -/
def parseGo : List UInt8 → Nat → Nat → Option (Nat × Nat)
  | [], _, _ => none
  | b :: r, i, acc =>
    if 10 ≤ i then none
    else if i = 9 ∧ 1 < b.toNat then none
    else if 128 ≤ b.toNat then parseGo r (i + 1) (acc + b.toNat % 128 * 128 ^ i)
    else if b.toNat = 0 ∧ 0 < i then none
    else some (acc + b.toNat % 128 * 128 ^ i, i + 1)
def parseL (s : List UInt8) : Option (Nat × Nat) := parseGo s 0 0

/-- What was written as groups is parsed. -/
theorem parseGo_groups (r : List UInt8) : ∀ (k n i acc : Nat), n < 128 ^ (k + 1) → i + k ≤ 9 → (i = 0 ∨ 0 < n) → (acc + n * 128 ^ i < 2 ^ 64) → parseGo (groupsL n ++ r) i acc = some (acc + n * 128 ^ i, i + (groupsL n).length)
  | k, n, i, acc, hn, hi, h0, hb => by
    by_cases hs : n < 128
    · rw [groupsL_small hs]
      have e : (UInt8.ofNat n).toNat = n := by rw [UInt8.toNat_ofNat']; omega
      simp only [List.cons_append, List.nil_append, parseGo, e, List.length_singleton]
      have h9 : ¬ (i = 9 ∧ 1 < n) := by
        rintro ⟨rfl, h1⟩
        have : 2 * 128 ^ 9 ≤ n * 128 ^ 9 := Nat.mul_le_mul_right _ h1
        omega
      rw [if_neg (by omega), if_neg h9, if_neg (by omega), if_neg (by omega), Nat.mod_eq_of_lt hs]
    · rw [groupsL_big hs]
      have e : (UInt8.ofNat (n % 128 + 128)).toNat = n % 128 + 128 := by rw [UInt8.toNat_ofNat']; omega
      simp only [List.cons_append, parseGo, e, List.length_cons]
      match k, hn, hi with
      | 0, hn, _ => simp at hn; omega
      | k + 1, hn, hi =>
        have h9 : ¬ (i = 9 ∧ 1 < n % 128 + 128) := by omega
        rw [if_neg (by omega), if_neg h9, if_pos (by omega)]
        have em : (n % 128 + 128) % 128 = n % 128 := by omega
        have es : acc + n % 128 * 128 ^ i + n / 128 * 128 ^ (i + 1) = acc + n * 128 ^ i := by
          have h1 : n / 128 * 128 ^ (i + 1) = n / 128 * 128 * 128 ^ i := by rw [Nat.pow_succ, Nat.mul_assoc, Nat.mul_comm (128 ^ i) 128]
          rw [h1, Nat.add_assoc, ← Nat.add_mul]
          congr 2; omega
        rw [em, parseGo_groups r k (n / 128) (i + 1) _ (by rw [Nat.div_lt_iff_lt_mul (by decide)]; rw [Nat.pow_succ] at hn; exact hn) (by omega) (.inr (by omega)) (by rw [es]; exact hb), es]
        congr 2; omega
theorem parseL_groups (n : Nat) (r : List UInt8) (h : n < 2 ^ 64) : parseL (groupsL n ++ r) = some (n, (groupsL n).length) := by
  have := parseGo_groups r 9 n 0 0 (by omega) (by omega) (.inl rfl) (by omega)
  simpa [parseL] using this

/-- One form: what is parsed was written so. -/
theorem parseGo_form : ∀ (s : List UInt8) (i acc n k : Nat), parseGo s i acc = some (n, k) → ∃ m, n = acc + m * 128 ^ i ∧ (i = 0 ∨ 0 < m ∨ k = i + 1 ∧ m = 0 ∧ i = 0) ∧ i < k ∧ k ≤ 10 ∧ k ≤ i + s.length ∧ s.take (k - i) = groupsL m ∧ m < 2 * 128 ^ (9 - i)
  | [], i, acc, n, k, h => by simp [parseGo] at h
  | b :: r, i, acc, n, k, h => by
    unfold parseGo at h
    split at h
    · cases h
    · rename_i h10
      split at h
      · cases h
      · rename_i h9
        split at h
        · rename_i hb
          obtain ⟨m, h1, h2, h3, h4, h5, h6, h7⟩ := parseGo_form r (i + 1) _ n k h
          have hm : 0 < m := by omega
          have hbt : b.toNat < 256 := b.toNat_lt
          have hi9 : i < 9 := by omega
          refine ⟨b.toNat % 128 + m * 128, ?_, .inr (.inl (by omega)), by omega, h4, by simp; omega, ?_, ?_⟩
          · rw [h1, Nat.pow_succ, Nat.add_mul, Nat.add_assoc]
            congr 2
            rw [Nat.mul_assoc, Nat.mul_comm 128 (128 ^ i)]
          · have hbig : ¬ (b.toNat % 128 + m * 128 < 128) := by omega
            rw [groupsL_big hbig]
            have e1 : (b.toNat % 128 + m * 128) % 128 + 128 = b.toNat := by omega
            have e2 : (b.toNat % 128 + m * 128) / 128 = m := by omega
            rw [e1, e2, UInt8.ofNat_toNat, ← h6]
            rw [show k - i = (k - (i + 1)) + 1 by omega]
            rfl
          · have : 2 * 128 ^ (9 - i) = 2 * 128 ^ (9 - (i + 1)) * 128 := by rw [Nat.mul_assoc, ← Nat.pow_succ]; congr 2; omega
            rw [this]
            have : m + 1 ≤ 2 * 128 ^ (9 - (i + 1)) := h7
            omega
        · rename_i hb
          split at h
          · cases h
          · rename_i hz
            simp at h
            obtain ⟨rfl, rfl⟩ := h
            have hbm : b.toNat % 128 = b.toNat := Nat.mod_eq_of_lt (by omega)
            refine ⟨b.toNat, by rw [hbm], by omega, by omega, by omega, by simp, ?_, ?_⟩
            · rw [groupsL_small (by omega), show i + 1 - i = 1 by omega, UInt8.ofNat_toNat]
              rfl
            · by_cases h99 : i = 9
              · subst h99; simp; omega
              · have : 1 ≤ 128 ^ (8 - i) := Nat.pow_pos (by decide)
                have e : 2 * 128 ^ (9 - i) = 256 * 128 ^ (8 - i) := by rw [show 9 - i = (8 - i) + 1 by omega, Nat.pow_succ]; omega
                omega
theorem parseL_form {s : List UInt8} {n k : Nat} (h : parseL s = some (n, k)) : 0 < k ∧ k ≤ 10 ∧ k ≤ s.length ∧ s.take k = groupsL n ∧ n < 2 ^ 64 := by
  obtain ⟨m, h1, _, h3, h4, h5, h6, h7⟩ := parseGo_form s 0 0 n k h
  have : n = m := by omega
  subst this
  exact ⟨h3, h4, by omega, by simpa using h6, by omega⟩
/-- A beginning of groups holds no number. -/
theorem parseGo_cut : ∀ (k n i acc j : Nat), j < (groupsL n).length → n < 128 ^ (k + 1) → parseGo ((groupsL n).take j) i acc = none
  | k, n, i, acc, 0, _, _ => rfl
  | k, n, i, acc, j + 1, hj, hn => by
    by_cases hs : n < 128
    · rw [groupsL_small hs] at hj; simp at hj
    · rw [groupsL_big hs] at hj ⊢
      simp at hj
      rw [List.take_succ_cons]
      unfold parseGo
      split
      · rfl
      · split
        · rfl
        · have e : (UInt8.ofNat (n % 128 + 128)).toNat = n % 128 + 128 := by rw [UInt8.toNat_ofNat']; omega
          rw [if_pos (by rw [e]; omega)]
          match k, hn with
          | 0, hn => simp at hn; omega
          | k + 1, hn => exact parseGo_cut k (n / 128) _ _ j hj (by rw [Nat.div_lt_iff_lt_mul (by decide)]; rw [Nat.pow_succ] at hn; exact hn)
theorem parseL_cut (n j : Nat) (h : n < 2 ^ 64) (hj : j < (groupsL n).length) : parseL ((groupsL n).take j) = none := parseGo_cut 9 n 0 0 j hj (by omega)

end Go.Proofs.YtpidjmgapiekaaaGreatDoor
