/- This text says in plain words that what was put is got back. No program. -/
import Derived.Test.YtgdbpicelnoacaaDoorItems4
namespace Go.Proofs.YtgdbpicelnoacaaDoor

/-- An item's bytes, where it can be put. -/
def encI (i : It) : Option (List UInt8) :=
  if i.kind = 1 then (if i.n < 0 ∨ 255 < i.n then none else some [UInt8.ofNat i.n.toNat]) else if i.kind = 2 then (if i.n < 0 then none else some (groupsL i.n.toNat)) else if i.kind = 3 then some (groupsL (zig i.n)) else
  if i.kind = 4 then some (textL i.text) else if i.kind = 5 then some (groupsL (i.n % 4294967296).toNat) else if i.kind = 6 then some (flagsL i.fl) else some []

theorem Wri.put_none {W : Wri} {bs : List UInt8} (h : (W.put bs).err = none) : W.err = none ∧ (W.put bs).out = W.out ++ bs ∧ (W.put bs).most = W.most := by
  unfold Wri.put at h ⊢
  split at h
  · rename_i he
    rw [if_pos he] at *
    split at h
    · cases h
    · rename_i hl
      rw [if_neg hl]
      exact ⟨he, rfl, rfl⟩
  · exact absurd h (by assumption)
theorem Wri.refuse_none {W : Wri} (h : W.refuse.err = none) : False := by
  unfold Wri.refuse at h
  split at h
  · cases h
  · exact absurd h (by assumption)
theorem Wri.item_none {W : Wri} {i : It} (h : (W.item i).err = none) : W.err = none ∧ (∃ bs, encI i = some bs ∧ (W.item i).out = W.out ++ bs) ∧ (W.item i).most = W.most := by
  unfold Wri.item at h ⊢
  unfold encI
  by_cases k1 : i.kind = 1
  · rw [if_pos k1] at h ⊢
    rw [if_pos k1]
    unfold Wri.byte at h ⊢
    by_cases hn : i.n < 0 ∨ 255 < i.n
    · rw [if_pos hn] at h; exact (Wri.refuse_none h).elim
    · rw [if_neg hn] at h ⊢
      rw [if_neg hn]
      obtain ⟨a, b, c⟩ := Wri.put_none h
      exact ⟨a, ⟨_, rfl, b⟩, c⟩
  rw [if_neg k1] at h ⊢
  rw [if_neg k1]
  by_cases k2 : i.kind = 2
  · rw [if_pos k2] at h ⊢
    rw [if_pos k2]
    unfold Wri.count at h ⊢
    by_cases hn : i.n < 0
    · rw [if_pos hn] at h; exact (Wri.refuse_none h).elim
    · rw [if_neg hn] at h ⊢
      rw [if_neg hn]
      obtain ⟨a, b, c⟩ := Wri.put_none h
      exact ⟨a, ⟨_, rfl, b⟩, c⟩
  rw [if_neg k2] at h ⊢
  rw [if_neg k2]
  by_cases k3 : i.kind = 3
  · rw [if_pos k3] at h ⊢
    rw [if_pos k3]
    obtain ⟨a, b, c⟩ := Wri.put_none h
    exact ⟨a, ⟨_, rfl, b⟩, c⟩
  rw [if_neg k3] at h ⊢
  rw [if_neg k3]
  by_cases k4 : i.kind = 4
  · rw [if_pos k4] at h ⊢
    rw [if_pos k4]
    obtain ⟨a, b, c⟩ := Wri.put_none h
    exact ⟨a, ⟨_, rfl, b⟩, c⟩
  rw [if_neg k4] at h ⊢
  rw [if_neg k4]
  by_cases k5 : i.kind = 5
  · rw [if_pos k5] at h ⊢
    rw [if_pos k5]
    obtain ⟨a, b, c⟩ := Wri.put_none h
    exact ⟨a, ⟨_, rfl, b⟩, c⟩
  rw [if_neg k5] at h ⊢
  rw [if_neg k5]
  by_cases k6 : i.kind = 6
  · rw [if_pos k6] at h ⊢
    rw [if_pos k6]
    obtain ⟨a, b, c⟩ := Wri.put_none h
    exact ⟨a, ⟨_, rfl, b⟩, c⟩
  rw [if_neg k6] at h ⊢
  rw [if_neg k6]
  exact ⟨h, ⟨[], rfl, by simp⟩, rfl⟩

theorem unzig_zig (n : Int) : unzig (zig n) = n := by
  unfold unzig zig
  by_cases h : n < 0
  · simp only [if_pos h]
    rw [if_pos (by omega)]
    omega
  · simp only [if_neg h]
    rw [if_neg (by omega)]
    omega
theorem zig_lt (n : Int) (h : In64 n) : zig n < 18446744073709551616 := by
  obtain ⟨h1, h2⟩ := h
  unfold zig
  split <;> omega

theorem bitsN_bit : ∀ (l : List Bool) (j : Nat), decide (bitsN l / 2 ^ j % 2 = 1) = l.getD j false
  | [], j => by simp [bitsN]
  | b :: r, 0 => by
    have e : bitsN (b :: r) = (if b then 1 else 0) + 2 * bitsN r := rfl
    rw [e]
    cases b <;> simp <;> omega
  | b :: r, j + 1 => by
    have ih := bitsN_bit r j
    have e : bitsN (b :: r) / 2 ^ (j + 1) = bitsN r / 2 ^ j := by
      rw [Nat.pow_succ, Nat.mul_comm, ← Nat.div_div_eq_div_mul]
      congr 1
      have e0 : bitsN (b :: r) = (if b then 1 else 0) + 2 * bitsN r := rfl
      rw [e0]
      split <;> omega
    rw [e, ih]
    simp
theorem bitOf_flags (l : List Bool) (t : List UInt8) (i : Nat) (hi : i < 8 * ((l.length + 7) / 8)) : bitOf (flagsL l ++ t) i = l.getD i false := by
  have hm : i / 8 < (l.length + 7) / 8 := by omega
  have h1 : (flagsL l ++ t).getD (i / 8) 0 = UInt8.ofNat (bitsN ((l.drop (8 * (i / 8))).take 8)) := by
    rw [List.getD_eq_getElem?_getD, List.getElem?_append_left (by rw [flagsL_len]; exact hm)]
    unfold flagsL
    rw [flagsTo_at _ _ _ hm]
    rfl
  unfold bitOf
  rw [h1, byte_ofNat (take8_lt _), bitsN_bit]
  rw [List.getD_eq_getElem?_getD, List.getD_eq_getElem?_getD, List.getElem?_take_of_lt (by omega), List.getElem?_drop, show 8 * (i / 8) + i % 8 = i by omega]


theorem number_groups {R : Rdr} (hb : R.bad = false) (n top : Nat) (t : List UInt8) (hr : R.rest = groupsL n ++ t) (hn : n < 2 ^ 64) (ht : n ≤ top) : R.number top = ({ rest := t, bad := false }, some n) := by
  unfold Rdr.number
  rw [hb, hr, parseL_groups n t hn]
  simp only [Bool.false_eq_true, if_false]
  rw [if_neg (by omega)]
  simp

/-- What was put is got back. -/
theorem get_put {R : Rdr} {i : It} (hb : R.bad = false) {bs t : List UInt8} (he : encI i = some bs) (hr : R.rest = bs ++ t) (hk : 1 ≤ i.kind ∧ i.kind ≤ 6) (hn : In64 i.n) (hts : i.text.size ≤ 1000) (hfs : i.fl.length ≤ 1000) :
    R.get i.asked = ({ rest := t, bad := false }, i.told.n, i.told.text.data.toList, i.told.fl) := by
  obtain ⟨kind, n, text, fl, X, c⟩ := i
  dsimp only at hk hn hts hfs
  have hn2 := hn
  obtain ⟨hn0, hn1⟩ := hn2
  have hks : kind = 1 ∨ kind = 2 ∨ kind = 3 ∨ kind = 4 ∨ kind = 5 ∨ kind = 6 := by omega
  rcases hks with rfl | rfl | rfl | rfl | rfl | rfl
  · simp only [encI, if_true] at he
    split at he
    · cases he
    · rename_i h
      cases he
      simp [Rdr.get, It.asked, It.told, Rdr.byte, hb, hr]
      omega
  · simp [encI] at he
    obtain ⟨h, rfl⟩ := he
    have := number_groups hb n.toNat 9223372036854775807 t hr (by omega) (by omega)
    simp [Rdr.get, It.asked, It.told, Rdr.count, this]
    omega
  · simp [encI] at he
    subst he
    have hz := zig_lt n hn
    have := number_groups hb (zig n) 18446744073709551615 t hr (by omega) (by omega)
    simp [Rdr.get, It.asked, It.told, Rdr.num, this, unzig_zig]
  · simp [encI] at he
    subst he
    unfold textL at hr
    rw [List.append_assoc] at hr
    have := number_groups hb text.size 18446744073709551615 _ hr (by omega) (by omega)
    have hl : text.data.toList.length = text.size := rfl
    simp only [Rdr.get, It.asked, It.told, Rdr.text, hb, this]
    simp [hl]
    rw [if_neg (by omega)]
    exact ⟨rfl, rfl⟩
  · simp [encI] at he
    subst he
    have := number_groups hb (n % 4294967296).toNat 4294967295 t hr (by omega) (by omega)
    simp [Rdr.get, It.asked, It.told, Rdr.bits, this]
    omega
  · simp [encI] at he
    subst he
    obtain ⟨m, hm⟩ : ∃ m, (fl.length + 7) / 8 = m := ⟨_, rfl⟩
    have hfl : (flagsL fl).length = m := by rw [flagsL_len, hm]
    have hbit : ∀ j, j < 8 * m → bitOf R.rest j = fl.getD j false := fun j hj => by rw [hr]; exact bitOf_flags fl t j (by rw [hm]; exact hj)
    have hov : overF R.rest fl.length m = false := by
      unfold overF
      rw [List.any_eq_false]
      intro j hj
      rw [List.mem_range] at hj
      rw [hbit j hj]
      by_cases h : fl.length ≤ j
      · rw [List.getD_eq_getElem?_getD, List.getElem?_eq_none h]; simp
      · simp [h]
    have hfo : flagsOf R.rest fl.length (8 * m) = fl := by
      apply List.ext_getElem
      · rw [flagsOf_len]
      · intro j h1 h2
        simp only [flagsOf, List.getElem_map, List.getElem_range]
        rw [decide_eq_true (show j < 8 * m by omega), hbit j (by omega), List.getD_eq_getElem?_getD, List.getElem?_eq_getElem h2]
        rfl
    have hlen : ¬ R.rest.length < m := by rw [hr, List.length_append, hfl]; omega
    have hdrop : R.rest.drop m = t := by rw [hr, ← hfl]; simp
    have hF : R.flags (fl.length : Int) = ({ rest := t, bad := false }, fl) := by
      unfold Rdr.flags
      rw [hb]
      simp only [Bool.false_eq_true, if_false, Int.toNat_natCast, hm]
      rw [if_neg (by omega), hov]
      simp only [Bool.false_eq_true, if_false, hfo, hdrop]
    simp [Rdr.get, It.asked, It.told, hF]

end Go.Proofs.YtgdbpicelnoacaaDoor
