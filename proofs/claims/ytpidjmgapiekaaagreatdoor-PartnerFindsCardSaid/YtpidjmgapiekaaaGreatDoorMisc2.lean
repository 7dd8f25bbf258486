/- This text holds plain laws that the reading of packets wants. -/
import Derived.Test.YtpidjmgapiekaaaGreatDoorMisc
namespace Go.Proofs.YtpidjmgapiekaaaGreatDoor
open Go.RowKit Go.WideShapes

theorem unzig_zig (n : Int) : unzig (zig n) = n := by
  unfold unzig zig
  by_cases h : n < 0
  · simp only [if_pos h]
    rw [if_pos (by omega)]
    omega
  · simp only [if_neg h]
    rw [if_neg (by omega)]
    omega
theorem bitsN_bit : ∀ (l : List Bool) (j : Nat), decide (bitsN l / 2 ^ j % 2 = 1) = l.getD j false
  | [], j => by simp [bitsN]
  | b :: r, 0 => by
    have e : bitsN (b :: r) = (if b then 1 else 0) + 2 * bitsN r := rfl
    rw [e]
    cases b <;> simp <;> omega
  | b :: r, j + 1 => by
    have ih := bitsN_bit r j
    have e : bitsN (b :: r) / 2 ^ (j + 1) = bitsN r / 2 ^ j := by
      rw [Nat.pow_succ, Nat.mul_comm, ← Nat.div_div_eq_div_mul]
      congr 1
      have e0 : bitsN (b :: r) = (if b then 1 else 0) + 2 * bitsN r := rfl
      rw [e0]
      split <;> omega
    rw [e, ih]
    simp
theorem bitOf_flags (l : List Bool) (t : List UInt8) (i : Nat) (hi : i < 8 * ((l.length + 7) / 8)) : bitOf (flagsL l ++ t) i = l.getD i false := by
  have hm : i / 8 < (l.length + 7) / 8 := by omega
  have h1 : (flagsL l ++ t).getD (i / 8) 0 = UInt8.ofNat (bitsN ((l.drop (8 * (i / 8))).take 8)) := by
    rw [List.getD_eq_getElem?_getD, List.getElem?_append_left (by rw [flagsL_len]; exact hm)]
    unfold flagsL
    rw [flagsTo_at _ _ _ hm]
    rfl
  unfold bitOf
  rw [h1, byte_ofNat (take8_lt _), bitsN_bit]
  rw [List.getD_eq_getElem?_getD, List.getD_eq_getElem?_getD, List.getElem?_take_of_lt (by omega), List.getElem?_drop, show 8 * (i / 8) + i % 8 = i by omega]
theorem number_groups {R : Rdr} (hb : R.bad = false) (n top : Nat) (t : List UInt8) (hr : R.rest = groupsL n ++ t) (hn : n < 2 ^ 64) (ht : n ≤ top) : R.number top = ({ rest := t, bad := false }, some n) := by
  unfold Rdr.number
  rw [hb, hr, parseL_groups n t hn]
  simp only [Bool.false_eq_true, if_false]
  rw [if_neg (by omega)]
  simp
/-- What number does: nothing taken, or the number's one form. -/
theorem number_cases (R : Rdr) (top : Nat) : ((R.number top).2 = none ∧ (R.number top).1.rest = R.rest) ∨
    ∃ n t, R.number top = ({ rest := t, bad := false }, some n) ∧ R.bad = false ∧ R.rest = groupsL n ++ t ∧ n ≤ top ∧ n < 2 ^ 64 := by
  unfold Rdr.number
  cases hb : R.bad with
  | true => exact .inl ⟨rfl, rfl⟩
  | false =>
    simp only [Bool.false_eq_true, if_false]
    cases hp : parseL R.rest with
    | none => exact .inl ⟨rfl, rfl⟩
    | some nk =>
      obtain ⟨n, k⟩ := nk
      dsimp only
      by_cases ht : top < n
      · rw [if_pos ht]; exact .inl ⟨rfl, rfl⟩
      · rw [if_neg ht]
        obtain ⟨_, _, _, h4, h5⟩ := parseL_form hp
        exact .inr ⟨n, R.rest.drop k, by simp, trivial, by rw [← h4, List.take_append_drop], by omega, h5⟩
theorem zig_unzig (n : Nat) (_h : n < 2 ^ 64) : zig (unzig n) = n := by
  unfold zig unzig
  by_cases h1 : n % 2 = 1
  · simp only [if_pos h1]
    rw [if_pos (by omega)]
    omega
  · simp only [if_neg h1]
    rw [if_neg (by omega)]
    omega
/-- Eight flags of a byte. -/
theorem bits_byte (b : UInt8) : bitsN ((List.range 8).map fun j => decide (b.toNat / 2 ^ j % 2 = 1)) = b.toNat := by
  have : ∀ n : Fin 256, bitsN ((List.range 8).map fun j => decide (n.val / 2 ^ j % 2 = 1)) = n.val := by decide +kernel
  exact this ⟨b.toNat, b.toNat_lt⟩
theorem bitsN_zeros (l : List Bool) (k : Nat) : bitsN (l ++ List.replicate k false) = bitsN l := by
  induction k with
  | zero => simp
  | succ k ih => rw [List.replicate_succ', ← List.append_assoc, bitsN_snoc, ih]; simp
theorem flags_form (l : List UInt8) (n m : Nat) (hm : (n + 7) / 8 = m) (hl : m ≤ l.length) (hov : overF l n m = false) : flagsL (flagsOf l n (8 * m)) = l.take m := by
  have hz : ∀ i, n ≤ i → i < 8 * m → bitOf l i = false := fun i h1 h2 => by
    have := List.any_eq_false.1 hov i (List.mem_range.2 h2)
    simpa [h1] using this
  unfold flagsL
  rw [flagsOf_len, hm]
  apply List.ext_getElem
  · rw [flagsTo_len, List.length_take]; omega
  · intro j h1 h2
    rw [flagsTo_len] at h1
    simp only [flagsTo, List.getElem_map, List.getElem_range, List.getElem_take]
    have hb : bitsN (((flagsOf l n (8 * m)).drop (8 * j)).take 8) = (l[j]'(by omega)).toNat := by
      rw [← bits_byte (l[j]'(by omega))]
      have e : (List.range 8).map (fun k => decide ((l[j]'(by omega)).toNat / 2 ^ k % 2 = 1)) = ((flagsOf l n (8 * m)).drop (8 * j)).take 8 ++ List.replicate (8 - (((flagsOf l n (8 * m)).drop (8 * j)).take 8).length) false := by
        apply List.ext_getElem?
        intro k
        by_cases hk : k < 8
        · have hbit : decide ((l[j]'(by omega)).toNat / 2 ^ k % 2 = 1) = bitOf l (8 * j + k) := by
            unfold bitOf
            rw [show (8 * j + k) / 8 = j by omega, show (8 * j + k) % 8 = k by omega, List.getD_eq_getElem?_getD, List.getElem?_eq_getElem (by omega)]
            rfl
          have hlhs : ((List.range 8).map (fun k => decide ((l[j]'(by omega)).toNat / 2 ^ k % 2 = 1)))[k]? = some (bitOf l (8 * j + k)) := by
            rw [List.getElem?_map, List.getElem?_range hk]
            exact congrArg some hbit
          rw [hlhs]
          have hlen : (((flagsOf l n (8 * m)).drop (8 * j)).take 8).length = min 8 (n - 8 * j) := by simp [flagsOf_len]
          by_cases hn : 8 * j + k < n
          · rw [List.getElem?_append_left (by rw [hlen]; omega), List.getElem?_take_of_lt hk, List.getElem?_drop, flagsOf_at _ _ _ _ hn, decide_eq_true (show 8 * j + k < 8 * m by omega)]
            simp
          · rw [List.getElem?_append_right (by rw [hlen]; omega), hz _ (by omega) (by omega), List.getElem?_replicate, if_pos (by rw [hlen]; omega)]
        · rw [List.getElem?_eq_none (by simp; omega), List.getElem?_eq_none (by simp [flagsOf_len]; omega)]
      rw [e, bitsN_zeros]
    rw [hb, UInt8.ofNat_toNat]
theorem bytes_eq (x y : ByteArray) : (x.toList == y.toList) = decide (x = y) := by
  by_cases e : x = y
  · subst e; simp
  · rw [decide_eq_false e]
    simp only [ByteArray.toList_eq, beq_eq_false_iff_ne, ne_eq]
    exact fun h => e (ByteArray.ext (Array.toList_inj.1 h))

end Go.Proofs.YtpidjmgapiekaaaGreatDoor
