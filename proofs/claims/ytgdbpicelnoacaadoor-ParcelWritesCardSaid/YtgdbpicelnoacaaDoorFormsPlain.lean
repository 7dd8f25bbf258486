/- This text says in plain words that what a reader takes is what a writer would write of it. No program. -/
import Derived.Test.YtgdbpicelnoacaaDoorBackPlain
namespace Go.Proofs.YtgdbpicelnoacaaDoor

/-- What number does: nothing taken, or the number's one form. -/
theorem number_cases (R : Rdr) (top : Nat) : ((R.number top).2 = none ∧ (R.number top).1.rest = R.rest) ∨
    ∃ n t, R.number top = ({ rest := t, bad := false }, some n) ∧ R.bad = false ∧ R.rest = groupsL n ++ t ∧ n ≤ top ∧ n < 2 ^ 64 := by
  unfold Rdr.number
  cases hb : R.bad with
  | true => exact .inl ⟨rfl, rfl⟩
  | false =>
    simp only [Bool.false_eq_true, if_false]
    cases hp : parseL R.rest with
    | none => exact .inl ⟨rfl, rfl⟩
    | some nk =>
      obtain ⟨n, k⟩ := nk
      dsimp only
      by_cases ht : top < n
      · rw [if_pos ht]; exact .inl ⟨rfl, rfl⟩
      · rw [if_neg ht]
        obtain ⟨_, _, _, h4, h5⟩ := parseL_form hp
        exact .inr ⟨n, R.rest.drop k, by simp, trivial, by rw [← h4, List.take_append_drop], by omega, h5⟩

theorem zig_unzig (n : Nat) (_h : n < 2 ^ 64) : zig (unzig n) = n := by
  unfold zig unzig
  by_cases h1 : n % 2 = 1
  · simp only [if_pos h1]
    rw [if_pos (by omega)]
    omega
  · simp only [if_neg h1]
    rw [if_neg (by omega)]
    omega

/-- Eight flags of a byte. -/
theorem bits_byte (b : UInt8) : bitsN ((List.range 8).map fun j => decide (b.toNat / 2 ^ j % 2 = 1)) = b.toNat := by
  have : ∀ n : Fin 256, bitsN ((List.range 8).map fun j => decide (n.val / 2 ^ j % 2 = 1)) = n.val := by decide +kernel
  exact this ⟨b.toNat, b.toNat_lt⟩
theorem bitsN_zeros (l : List Bool) (k : Nat) : bitsN (l ++ List.replicate k false) = bitsN l := by
  induction k with
  | zero => simp
  | succ k ih => rw [List.replicate_succ', ← List.append_assoc, bitsN_snoc, ih]; simp

theorem flags_form (l : List UInt8) (n m : Nat) (hm : (n + 7) / 8 = m) (hl : m ≤ l.length) (hov : overF l n m = false) : flagsL (flagsOf l n (8 * m)) = l.take m := by
  have hz : ∀ i, n ≤ i → i < 8 * m → bitOf l i = false := fun i h1 h2 => by
    have := List.any_eq_false.1 hov i (List.mem_range.2 h2)
    simpa [h1] using this
  unfold flagsL
  rw [flagsOf_len, hm]
  apply List.ext_getElem
  · rw [flagsTo_len, List.length_take]; omega
  · intro j h1 h2
    rw [flagsTo_len] at h1
    simp only [flagsTo, List.getElem_map, List.getElem_range, List.getElem_take]
    have hb : bitsN (((flagsOf l n (8 * m)).drop (8 * j)).take 8) = (l[j]'(by omega)).toNat := by
      rw [← bits_byte (l[j]'(by omega))]
      have e : (List.range 8).map (fun k => decide ((l[j]'(by omega)).toNat / 2 ^ k % 2 = 1)) = ((flagsOf l n (8 * m)).drop (8 * j)).take 8 ++ List.replicate (8 - (((flagsOf l n (8 * m)).drop (8 * j)).take 8).length) false := by
        apply List.ext_getElem?
        intro k
        by_cases hk : k < 8
        · have hbit : decide ((l[j]'(by omega)).toNat / 2 ^ k % 2 = 1) = bitOf l (8 * j + k) := by
            unfold bitOf
            rw [show (8 * j + k) / 8 = j by omega, show (8 * j + k) % 8 = k by omega, List.getD_eq_getElem?_getD, List.getElem?_eq_getElem (by omega)]
            rfl
          have hlhs : ((List.range 8).map (fun k => decide ((l[j]'(by omega)).toNat / 2 ^ k % 2 = 1)))[k]? = some (bitOf l (8 * j + k)) := by
            rw [List.getElem?_map, List.getElem?_range hk]
            exact congrArg some hbit
          rw [hlhs]
          have hlen : (((flagsOf l n (8 * m)).drop (8 * j)).take 8).length = min 8 (n - 8 * j) := by simp [flagsOf_len]
          by_cases hn : 8 * j + k < n
          · rw [List.getElem?_append_left (by rw [hlen]; omega), List.getElem?_take_of_lt hk, List.getElem?_drop, flagsOf_at _ _ _ _ hn, decide_eq_true (show 8 * j + k < 8 * m by omega)]
            simp
          · rw [List.getElem?_append_right (by rw [hlen]; omega), hz _ (by omega) (by omega), List.getElem?_replicate, if_pos (by rw [hlen]; omega)]
        · rw [List.getElem?_eq_none (by simp; omega), List.getElem?_eq_none (by simp [flagsOf_len]; omega)]
      rw [e, bitsN_zeros]
    rw [hb, UInt8.ofNat_toNat]

/-- What get takes is what put writes. -/
theorem take_enc (R : Rdr) (i g : It) (hk : 1 ≤ i.kind ∧ i.kind ≤ 6) (g1 : g.kind = i.kind) (g2 : g.n = (R.get i).2.1) (g3 : g.text.data.toList = (R.get i).2.2.1) (g4 : g.fl = (R.get i).2.2.2) :
    ((R.get i).1.rest = R.rest ∧ (i.kind = 6 ∧ i.n = 0 → encI g = some [])) ∨ ∃ bs, R.rest = bs ++ (R.get i).1.rest ∧ encI g = some bs ∧ bs ≠ [] := by
  obtain ⟨kind, n, text, fl, X, c⟩ := i
  obtain ⟨kind', n', text', fl', X', c'⟩ := g
  dsimp only at hk g1 g2 g3 g4 ⊢
  subst g1
  have hks : kind' = 1 ∨ kind' = 2 ∨ kind' = 3 ∨ kind' = 4 ∨ kind' = 5 ∨ kind' = 6 := by omega
  have gp : ∀ n, groupsL n ≠ [] := fun n h => by have := groupsL_pos n; rw [h] at this; exact absurd this (by decide)
  rcases hks with rfl | rfl | rfl | rfl | rfl | rfl
  · refine (Classical.em (R.bad = true ∨ R.rest = [])).elim (fun h => .inl ?_) (fun h => .inr ?_)
    · rcases h with h | h
      · exact ⟨by simp [Rdr.get, Rdr.byte, h], by simp⟩
      · cases hb : R.bad with
        | true => exact ⟨by simp [Rdr.get, Rdr.byte, hb], by simp⟩
        | false => exact ⟨by simp [Rdr.get, Rdr.byte, hb, h, Rdr.spoil], by simp⟩
    · have hb : R.bad = false := by simpa using fun h' => h (.inl h')
      cases hr : R.rest with
      | nil => exact absurd (.inr hr) h
      | cons b r =>
        simp [Rdr.get, Rdr.byte, hb, hr] at g2 ⊢
        subst g2
        have := b.toNat_lt
        exact ⟨[b], by simp, by simp [encI]; omega, by simp⟩
  · rcases number_cases R 9223372036854775807 with ⟨h1, h2⟩ | ⟨k, t, h1, h2, h3, h4, h5⟩
    · exact .inl ⟨by simp [Rdr.get, Rdr.count, h2], by simp⟩
    · simp [Rdr.get, Rdr.count, h1] at g2 ⊢
      subst g2
      exact .inr ⟨_, h3, by simp [encI], gp _⟩
  · rcases number_cases R 18446744073709551615 with ⟨h1, h2⟩ | ⟨k, t, h1, h2, h3, h4, h5⟩
    · exact .inl ⟨by simp [Rdr.get, Rdr.num, h2], by simp⟩
    · simp [Rdr.get, Rdr.num, h1] at g2 ⊢
      subst g2
      exact .inr ⟨_, h3, by simp [encI, zig_unzig k h5], gp _⟩
  · rcases number_cases R 18446744073709551615 with ⟨h1, h2⟩ | ⟨k, t, h1, h2, h3, h4, h5⟩
    · obtain ⟨Q, o, hp⟩ : ∃ Q o, R.number 18446744073709551615 = (Q, o) := ⟨_, _, rfl⟩
      rw [hp] at h1
      dsimp only at h1
      subst h1
      cases hb : R.bad with
      | true => exact .inl ⟨by simp [Rdr.get, Rdr.text, hb], by simp⟩
      | false => exact .inl ⟨by simp [Rdr.get, Rdr.text, hb, hp, Rdr.spoil], by simp⟩
    · by_cases hc : n < (k : Int) ∨ t.length < k
      · exact .inl ⟨by simp [Rdr.get, Rdr.text, h1, h2, hc, Rdr.spoil], by simp⟩
      · have hT : R.text n = ({ rest := t.drop k, bad := false }, t.take k) := by
          unfold Rdr.text
          rw [h2, h1]
          simp only [Bool.false_eq_true, if_false]
          rw [if_neg hc]
        simp [Rdr.get, hT] at g3 ⊢
        refine .inr ⟨groupsL k ++ t.take k, by rw [h3, List.append_assoc, List.take_append_drop], ?_, by simp [gp]⟩
        have e : text'.size = k := by
          have e1 : text'.size = text'.data.toList.length := rfl
          rw [e1, g3, List.length_take]; omega
        simp [encI, textL, e, g3]
  · rcases number_cases R 4294967295 with ⟨h1, h2⟩ | ⟨k, t, h1, h2, h3, h4, h5⟩
    · exact .inl ⟨by simp [Rdr.get, Rdr.bits, h2], by simp⟩
    · simp [Rdr.get, Rdr.bits, h1] at g2 ⊢
      subst g2
      refine .inr ⟨_, h3, ?_, gp _⟩
      have e : ((k : Int) % 4294967296).toNat = k := by omega
      simp [encI]
      rw [e]
  · cases hb : R.bad with
    | true =>
      simp [Rdr.get, Rdr.flags, hb] at g4 ⊢
      subst g4
      intro _
      simp [encI]
      rfl
    | false =>
      by_cases hc : n < 0 ∨ 65536 < n ∨ R.rest.length < (n.toNat + 7) / 8
      · have hF : R.flags n = (R.spoil, []) := by unfold Rdr.flags; rw [if_neg (by simp [hb]), if_pos hc]
        simp [Rdr.get, hF] at g4 ⊢
        subst g4
        exact .inl ⟨rfl, by intro _; simp [encI]; rfl⟩
      · cases ho : overF R.rest n.toNat ((n.toNat + 7) / 8) with
        | true =>
          have hF : R.flags n = (R.spoil, []) := by unfold Rdr.flags; rw [if_neg (by simp [hb]), if_neg hc, if_pos ho]
          simp [Rdr.get, hF] at g4 ⊢
          subst g4
          exact .inl ⟨rfl, by intro _; simp [encI]; rfl⟩
        | false =>
          have hF : R.flags n = ({ R with rest := R.rest.drop ((n.toNat + 7) / 8) }, flagsOf R.rest n.toNat (8 * ((n.toNat + 7) / 8))) := by unfold Rdr.flags; rw [if_neg (by simp [hb]), if_neg hc, if_neg (by simp [ho])]
          have hE := flags_form R.rest n.toNat _ rfl (by omega) ho
          by_cases hz : n = 0
          · subst hz
            simp [Rdr.get, hF] at g4 ⊢
            subst g4
            simp [encI]
            exact hE
          · simp [Rdr.get, hF] at g4 ⊢
            subst g4
            refine .inr ⟨R.rest.take ((n.toNat + 7) / 8), by rw [List.take_append_drop], by simp [encI, hE], ?_⟩
            intro h
            have := congrArg List.length h
            rw [List.length_take, Nat.min_eq_left (by omega), List.length_nil] at this
            omega

end Go.Proofs.YtgdbpicelnoacaaDoor
