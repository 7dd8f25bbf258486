/- This text says in plain words what bytes a packet that can be has, and that they are few enough. No program. -/
import Derived.Test.YtpidjmgapiekaaaGreatDoorEnc2
namespace Go.Proofs.YtpidjmgapiekaaaGreatDoor

/-- A writer of a packet that has not gone wrong. -/
def FitW (W : Wri) (L : List UInt8) : Prop := W.err = none ∧ W.most = 508 ∧ W.out = L
theorem FitW.put {W : Wri} {L : List UInt8} (h : FitW W L) (bs : List UInt8) (hl : L.length + bs.length ≤ 508) : FitW (W.put bs) (L ++ bs) := by
  obtain ⟨h1, h2, h3⟩ := h
  unfold Wri.put
  rw [if_pos h1, if_neg (by rw [h2, h3]; omega)]
  exact ⟨h1, h2, by rw [h3]⟩
theorem FitW.byte {W : Wri} {L : List UInt8} (h : FitW W L) (n : Int) (h0 : 0 ≤ n) (h1 : n ≤ 255) (hl : L.length + 1 ≤ 508) : FitW (W.byte n) (L ++ [UInt8.ofNat n.toNat]) := by
  unfold Wri.byte
  rw [if_neg (by omega)]
  exact h.put _ (by simpa using hl)
theorem FitW.count {W : Wri} {L : List UInt8} (h : FitW W L) (n : Int) (h0 : 0 ≤ n) (hl : L.length + (groupsL n.toNat).length ≤ 508) : FitW (W.count n) (L ++ groupsL n.toNat) := by
  unfold Wri.count
  rw [if_neg (by omega)]
  exact h.put _ hl
/-- The inputs that are others, as bytes. -/
def insL : Int → List Int → List UInt8
  | _, [] => []
  | b, x :: r => (if x != b then [UInt8.ofNat x.toNat] else []) ++ insL x r
theorem insL_len : ∀ (l : List Int) (b : Int), (insL b l).length ≤ l.length
  | [], _ => by simp [insL]
  | x :: r, b => by
    have := insL_len r x
    simp only [insL, List.length_append, List.length_cons]
    split <;> simp <;> omega
theorem FitW.ins : ∀ (l : List Int) {W : Wri} {L : List UInt8} (b : Int), FitW W L → (∀ x ∈ l, 0 ≤ x ∧ x ≤ 255) → L.length + l.length ≤ 508 → FitW (W.ins b l) (L ++ insL b l)
  | [], _, _, _, h, _, _ => by simpa [Wri.ins, insL] using h
  | x :: r, W, L, b, h, hx, hl => by
    rw [List.length_cons] at hl
    obtain ⟨x0, x1⟩ := hx x (by simp)
    unfold Wri.ins insL
    by_cases hb : (x != b) = true
    · rw [if_pos hb, if_pos hb, ← List.append_assoc]
      exact FitW.ins r x (h.byte x x0 x1 (by omega)) (fun y hy => hx y (by simp [hy])) (by simp; omega)
    · rw [if_neg hb, if_neg hb, List.nil_append]
      exact FitW.ins r x h (fun y hy => hx y (by simp [hy])) (by omega)

/-- A packet's bytes behind the first two. -/
def bodyL (p : Par) : List UInt8 :=
  if p.kind = 1 ∨ p.kind = 2 then groupsL p.nonce.toNat else
  if p.kind = 3 then groupsL p.frm.toNat ++ groupsL p.ack.toNat ++ [UInt8.ofNat p.base.toNat] ++ groupsL p.ins.length ++ flagsL (turnsL p.base p.ins) ++ insL p.base p.ins else
  if p.kind = 4 then groupsL p.frm.toNat ++ groupsL (zig (IntKind.i64.wrap p.sum)) else
  if p.kind = 5 then groupsL p.ack.toNat else
  if p.kind = 6 then groupsL p.frm.toNat else []
/-- All of a packet's bytes but its sum's. -/
def bareL (p : Par) : List UInt8 := [80, UInt8.ofNat p.kind.toNat] ++ bodyL p
def Wri.whole (p : Par) : Wri := (((Wri.new 508).byte 80).byte p.kind).page p

theorem wrap_in64' (x : Int) : In64 (IntKind.i64.wrap x) := by
  have e : IntKind.i64.wrap x = if x % 18446744073709551616 ≥ 9223372036854775808 then x % 18446744073709551616 - 18446744073709551616 else x % 18446744073709551616 := by
    simp [IntKind.wrap, IntKind.signed, IntKind.bits]
  rw [e]
  unfold In64
  split
  · constructor <;> omega
  · constructor <;> omega
theorem within_iff {n low high : Int} : within n low high = true ↔ low ≤ n ∧ n ≤ high := by
  unfold within; simp
theorem good_kind {p : Par} (h : p.good = true) : 1 ≤ p.kind ∧ p.kind ≤ 6 := by
  unfold Par.good Par.own at h
  rw [Bool.and_eq_true] at h
  obtain ⟨h, _⟩ := h
  by_cases k1 : p.kind = 1 ∨ p.kind = 2
  · omega
  rw [if_neg k1] at h
  by_cases k4 : p.kind = 4
  · omega
  rw [if_neg k4] at h
  by_cases k6 : p.kind = 6
  · omega
  rw [if_neg k6] at h
  by_cases k3 : p.kind = 3
  · omega
  rw [if_neg k3] at h
  by_cases k5 : p.kind = 5
  · omega
  rw [if_neg k5] at h
  cases h
theorem noIn_false {l : List Int} (h : noIn l = false) : ∀ x ∈ l, 0 ≤ x ∧ x ≤ 255 := fun x hx => by
  unfold noIn at h
  have := List.any_eq_false.1 h x hx
  simp at this
  exact within_iff.1 this
theorem isIn_of {p : Par} (h : p.isIn = true) : (1 ≤ p.ins.length ∧ p.ins.length ≤ 32) ∧ (0 ≤ p.base ∧ p.base ≤ 255) ∧ (1 ≤ p.frm ∧ p.frm ≤ 1073741824) ∧ ∀ x ∈ p.ins, 0 ≤ x ∧ x ≤ 255 := by
  unfold Par.isIn at h
  simp only [Bool.and_eq_true, Bool.not_eq_true'] at h
  obtain ⟨⟨⟨h1, h2⟩, h3⟩, h4⟩ := h
  have := within_iff.1 h1
  exact ⟨by omega, within_iff.1 h2, within_iff.1 h3, noIn_false h4⟩
theorem groups5 (n : Int) (h : n ≤ 4294967295) : (groupsL n.toNat).length ≤ 5 := groupsL_len 4 _ (by omega)

/-- What a packet that can be is written as. -/
theorem whole_fit {p : Par} (h : p.good = true) : FitW (Wri.whole p) (bareL p) ∧ (bareL p).length ≤ 100 := by
  have hk := good_kind h
  have h0 : FitW (Wri.new 508) [] := ⟨rfl, rfl, rfl⟩
  have h1 := h0.byte 80 (by decide) (by decide) (by decide)
  have h2 := h1.byte p.kind (by omega) (by omega) (by simp)
  have e2 : ([] ++ [UInt8.ofNat (80 : Int).toNat] ++ [UInt8.ofNat p.kind.toNat] : List UInt8) = [80, UInt8.ofNat p.kind.toNat] := rfl
  rw [e2] at h2
  unfold Par.good Par.own at h
  rw [Bool.and_eq_true] at h
  obtain ⟨h, hs⟩ := h
  unfold Wri.whole Wri.page bareL bodyL
  by_cases k1 : p.kind = 1 ∨ p.kind = 2
  · rw [if_pos k1] at h ⊢
    rw [if_pos k1]
    obtain ⟨a, b⟩ := within_iff.1 h
    have := groups5 p.nonce b
    exact ⟨h2.count _ a (by simp; omega), by simp; omega⟩
  rw [if_neg k1] at h hs ⊢
  rw [if_neg k1]
  by_cases k3 : p.kind = 3
  · rw [if_neg (by omega), if_neg (by omega), if_pos k3] at h hs
    rw [if_pos k3, if_pos k3]
    by_cases hi : p.isIn = true
    · rw [if_pos hi] at h
      obtain ⟨⟨l0, l1⟩, ⟨b0, b1⟩, ⟨f0, f1⟩, hx⟩ := isIn_of hi
      obtain ⟨a0, a1⟩ := within_iff.1 h
      have g1 := groups5 p.frm (by omega)
      have g2 := groups5 p.ack (by omega)
      have g3 := groups5 (p.ins.length : Int) (by omega)
      have g4 : (flagsL (turnsL p.base p.ins)).length ≤ 4 := by rw [flagsL_len, turnsL_len]; omega
      have g5 := insL_len p.ins p.base
      rw [show ((p.ins.length : Int)).toNat = p.ins.length from rfl] at g3
      have r1 := h2.count p.frm (by omega) (by simp; omega)
      have r2 := r1.count p.ack a0 (by simp; omega)
      have r3 := r2.byte p.base b0 b1 (by simp; omega)
      have r4 := r3.count (p.ins.length : Int) (by omega) (by simp; omega)
      have r5 := r4.put (flagsL (turnsL p.base p.ins)) (by simp; omega)
      have r6 := FitW.ins p.ins p.base r5 hx (by simp; omega)
      rw [show ((p.ins.length : Int)).toNat = p.ins.length from rfl] at r6
      exact ⟨by simpa using r6, by simp; omega⟩
    · rw [if_neg hi] at h; cases h
  rw [if_neg k3, if_neg k3]
  by_cases k4 : p.kind = 4
  · rw [if_pos k4] at h ⊢
    rw [if_pos k4]
    obtain ⟨a, b⟩ := within_iff.1 h
    have g1 := groups5 p.frm (by omega)
    have g2 := groupsL_len10 (zig (IntKind.i64.wrap p.sum)) (zig_lt _ (wrap_in64' p.sum))
    have r1 := h2.count p.frm a (by simp; omega)
    have r2 := r1.put (groupsL (zig (IntKind.i64.wrap p.sum))) (by simp; omega)
    exact ⟨by simpa using r2, by simp; omega⟩
  rw [if_neg k4] at h hs ⊢
  rw [if_neg k4]
  by_cases k5 : p.kind = 5
  · rw [if_neg (by omega), if_neg k3, if_pos k5] at h
    rw [if_pos k5, if_pos k5]
    obtain ⟨a, b⟩ := within_iff.1 h
    have g1 := groups5 p.ack (by omega)
    exact ⟨h2.count _ a (by simp; omega), by simp; omega⟩
  rw [if_neg k5, if_neg k5]
  by_cases k6 : p.kind = 6
  · rw [if_pos k6] at h ⊢
    rw [if_pos k6]
    obtain ⟨a, b⟩ := within_iff.1 h
    have g1 := groups5 p.frm (by omega)
    exact ⟨h2.count _ a (by simp; omega), by simp; omega⟩
  omega

end Go.Proofs.YtpidjmgapiekaaaGreatDoor
