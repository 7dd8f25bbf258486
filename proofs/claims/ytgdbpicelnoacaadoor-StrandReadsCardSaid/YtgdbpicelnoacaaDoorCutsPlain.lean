/- This text says in plain words that of an item that is cut nothing is got. No program. -/
import Derived.Test.YtgdbpicelnoacaaDoorFormsPlain
namespace Go.Proofs.YtgdbpicelnoacaaDoor

theorem number_cut {R : Rdr} (hb : R.bad = false) (n top m : Nat) (hr : R.rest = (groupsL n).take m) (hn : n < 2 ^ 64) (hm : m < (groupsL n).length) : R.number top = (R.spoil, none) := by
  unfold Rdr.number
  rw [hb, hr, parseL_cut n m hn hm]
  rfl

/-- Of an item that is cut nothing is got. -/
theorem get_cut {R : Rdr} {i : It} (hb : R.bad = false) {bs : List UInt8} (he : encI i = some bs) {m : Nat} (hm : m < bs.length) (hr : R.rest = bs.take m) (hk : 1 ≤ i.kind ∧ i.kind ≤ 6) (hn : In64 i.n) (hts : i.text.size ≤ 1000) (hfs : i.fl.length ≤ 1000) :
    R.get i.asked = (R.spoil, 0, [], []) := by
  obtain ⟨kind, n, text, fl, X, c⟩ := i
  dsimp only at hk hn hts hfs
  have hn2 := hn
  obtain ⟨hn0, hn1⟩ := hn2
  have hks : kind = 1 ∨ kind = 2 ∨ kind = 3 ∨ kind = 4 ∨ kind = 5 ∨ kind = 6 := by omega
  rcases hks with rfl | rfl | rfl | rfl | rfl | rfl
  · simp only [encI, if_true] at he
    split at he
    · cases he
    · cases he
      obtain rfl : m = 0 := by simp at hm; omega
      simp [Rdr.get, It.asked, Rdr.byte, hb, hr]
  · simp [encI] at he
    obtain ⟨h, rfl⟩ := he
    have := number_cut hb n.toNat 9223372036854775807 m hr (by omega) hm
    simp [Rdr.get, It.asked, Rdr.count, this]
  · simp [encI] at he
    subst he
    have hz := zig_lt n hn
    have := number_cut hb (zig n) 18446744073709551615 m hr (by omega) hm
    simp [Rdr.get, It.asked, Rdr.num, this, unzig]
  · simp [encI] at he
    subst he
    unfold textL at hr hm
    have hl : text.data.toList.length = text.size := rfl
    by_cases hc : m < (groupsL text.size).length
    · rw [List.take_append_of_le_length (by omega)] at hr
      have := number_cut hb text.size 18446744073709551615 m hr (by omega) hc
      simp [Rdr.get, It.asked, Rdr.text, hb, this]
    · rw [List.take_append, List.take_of_length_le (by omega)] at hr
      have := number_groups hb text.size 18446744073709551615 _ hr (by omega) (by omega)
      have hlt : (text.data.toList.take (m - (groupsL text.size).length)).length < text.size := by
        rw [List.length_take, hl]
        rw [List.length_append, hl] at hm
        omega
      have hT : R.text (text.size : Int) = (R.spoil, []) := by
        unfold Rdr.text
        rw [hb, this]
        simp only [Bool.false_eq_true, if_false]
        rw [if_pos (.inr hlt)]
      simp [Rdr.get, It.asked, hT]
  · simp [encI] at he
    subst he
    have := number_cut hb (n % 4294967296).toNat 4294967295 m hr (by omega) hm
    simp [Rdr.get, It.asked, Rdr.bits, this]
  · simp [encI] at he
    subst he
    rw [flagsL_len] at hm
    have hlen : R.rest.length < (fl.length + 7) / 8 := by rw [hr, List.length_take, flagsL_len]; omega
    have hF : R.flags (fl.length : Int) = (R.spoil, []) := by
      unfold Rdr.flags
      rw [if_neg (by simp [hb]), if_pos (by simp; omega)]
    simp [Rdr.get, It.asked, hF]

/-- Of a reader that is wrong nothing is got. -/
theorem get_bad {R : Rdr} (hb : R.bad = true) (i : It) : R.get i = (R, 0, [], []) := by
  have h1 : ∀ t, R.number t = (R, none) := fun t => by simp [Rdr.number, hb]
  unfold Rdr.get
  repeat' split
  · simp [Rdr.byte, hb]
  · simp [Rdr.count, h1]
  · simp [Rdr.num, h1, unzig]
  · simp [Rdr.text, hb]
  · simp [Rdr.bits, h1]
  · simp [Rdr.flags, hb]
  · rfl

end Go.Proofs.YtgdbpicelnoacaaDoor
