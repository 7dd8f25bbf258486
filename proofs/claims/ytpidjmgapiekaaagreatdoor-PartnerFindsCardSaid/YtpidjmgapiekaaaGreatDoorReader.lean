/- This text proves what the strand's reader parses, over the loaded program. -/
import Derived.Test.YtpidjmgapiekaaaGreatDoorWriter3
namespace Go.Proofs.YtpidjmgapiekaaaGreatDoor
open Go.RowKit Go.WideShapes

theorem or64 (a c k : Nat) (ha : a < 2 ^ k) (hc : a + c * 2 ^ k < 18446744073709551616) : Go.bits .or .u64 (a : Int) ((c * 2 ^ k : Nat) : Int) = ((a + c * 2 ^ k : Nat) : Int) := by
  have e : Go.bits .or .u64 (a : Int) ((c * 2 ^ k : Nat) : Int) = ((BitVec.ofInt 64 (a : Int) ||| BitVec.ofInt 64 ((c * 2 ^ k : Nat) : Int)).toNat : Int) % 18446744073709551616 := rfl
  have h1 : (BitVec.ofInt 64 (a : Int)).toNat = a := by rw [BitVec.toNat_ofInt]; omega
  have h2 : (BitVec.ofInt 64 ((c * 2 ^ k : Nat) : Int)).toNat = c * 2 ^ k := by rw [BitVec.toNat_ofInt]; omega
  have h3 : a ||| c * 2 ^ k = a + c * 2 ^ k := by
    have := Nat.two_pow_add_eq_or_of_lt ha c
    rw [Nat.mul_comm] at this
    rw [Nat.or_comm, ← this, Nat.add_comm]
  rw [e, BitVec.toNat_or, h1, h2, h3]
  omega

theorem wrapU (x : Int) : IntKind.u64.wrap x = x % 18446744073709551616 := by simp [IntKind.wrap, IntKind.signed, IntKind.bits]
theorem pow7 (k : Nat) : 128 ^ k = 2 ^ (7 * k) := by rw [Nat.pow_mul]

/-- What parsing answers. -/
def parsedV (s : List UInt8) : Value := match parseL s with
  | some (n, k) => .tuple #[.int .u64 (n : Int), .int .i64 (k : Int)]
  | none => .tuple #[.int .u64 0, .int .i64 0]

set_option maxRecDepth 100000 in
set_option maxHeartbeats 3200000 in
theorem parse_any (s : ByteArray) (w : World) (hs : s.size ≤ maxLen) : Calls Tryz.prog 162 #[.string s] w fun e w' => e = .returned (parsedV s.data.toList) ∧ w = w' := by
  have hs2 : s.size ≤ maxLen := hs
  simp only [maxLen] at hs2
  clear hs
  have hlen : s.data.toList.length = s.size := rfl
  go_enter Tryz.func162, Tryz.ntmps162
  go_wp2
  go_loop [2, 4] (fun nv iv => ∃ k acc : Nat, k ≤ s.size ∧ k ≤ 10 ∧ iv = .int .i64 k ∧ nv = .int .u64 acc ∧ acc < 2 ^ (7 * k) ∧ parseGo (s.data.toList.drop k) k acc = parseL s.data.toList) (fun _ iv => s.size - (intOf iv).toNat)
  case atStart => exact ⟨0, 0, Nat.zero_le _, by decide, rfl, rfl, by decide, rfl⟩
  case round =>
    obtain ⟨k, acc, hk, hk10, rfl, rfl, hacc, hp⟩ := hrel
    have PH := Lib.hid hp
    have AH := Lib.hid hacc
    have hi1 : (0 : Int) ≤ (k : Int) := by omega
    clear hp hacc
    by_cases hend : s.size ≤ k ∨ 10 ≤ k
    · have hnone : parsedV s.data.toList = .tuple #[.int .u64 0, .int .i64 0] := by
        have : parseL s.data.toList = none := by
          rw [← PH.out]
          rcases hend with h | h
          · rw [List.drop_eq_nil_of_le (by rw [hlen]; exact h)]; rfl
          · cases hd : s.data.toList.drop k with
            | nil => rfl
            | cons b r => unfold parseGo; rw [if_pos h]
        unfold parsedV; rw [this]
      have N := Lib.hid hnone
      clear hnone
      by_cases h1 : s.size ≤ k
      · have q : (s.size : Int) ≤ (k : Int) := by omega
        clear hend h1 hlen
        go_wp2_with fail
        go_ret2
        exact ⟨by rw [N.out]; rfl, rfl⟩
      · have q : (k : Int) < (s.size : Int) := by omega
        have q2 : decide ((k : Int) < (10 : Int)) = false := by simp; omega
        clear hend h1 hlen
        go_wp2_with fail
        go_ret2
        exact ⟨by rw [N.out]; rfl, rfl⟩
    · have hks : k < s.size := by omega
      have hk9 : k < 10 := by omega
      have hkl : k < s.data.toList.length := by rw [hlen]; exact hks
      obtain ⟨b, hb⟩ : ∃ b, s[k]'hks = b := ⟨_, rfl⟩
      have hd : s.data.toList.drop k = b :: s.data.toList.drop (k + 1) := by rw [← hb]; exact (List.getElem_cons_drop hkl).symm
      have P2 := PH.out
      rw [hd] at P2
      unfold parseGo at P2
      rw [if_neg (by omega)] at P2
      have P3 := Lib.hid P2
      have hb256 : (b.toNat : Int) < 256 := by have := b.toNat_lt; omega
      have hb0 : (0 : Int) ≤ (b.toNat : Int) := by omega
      have q : (k : Int) < (s.size : Int) := by omega
      have q2 : (k : Int) < (10 : Int) := by omega
      clear hend hd P2 hlen hkl
      have hw8 : IntKind.u64.wrap ((s[k]'hks).toNat : Int) = (b.toNat : Int) := by rw [hb, wrapU]; omega
      clear hb
      by_cases h9k : k = 9
      · subst h9k
        by_cases h9 : 1 < b.toNat
        · have hnone : parsedV s.data.toList = .tuple #[.int .u64 0, .int .i64 0] := by
            have := P3.out
            rw [if_pos ⟨rfl, h9⟩] at this
            unfold parsedV; rw [← this]
          have N := Lib.hid hnone
          have q3 : (1 : Int) < (b.toNat : Int) := by omega
          clear hnone q2 P3 PH
          go_wp2_with fail
          go_ret2
          exact ⟨by rw [N.out]; rfl, rfl⟩
        · have P4 := P3.out
          rw [if_neg (by omega), if_neg (by omega)] at P4
          by_cases hz : b.toNat = 0
          · rw [if_pos ⟨hz, by decide⟩] at P4
            have hnone : parsedV s.data.toList = .tuple #[.int .u64 0, .int .i64 0] := by
              unfold parsedV; rw [← P4]
            have N := Lib.hid hnone
            rw [hz] at hw8
            clear hnone P4 h9 q2
            go_wp2_with fail
            go_ret2
            exact ⟨by rw [N.out]; rfl, rfl⟩
          · have h1 : b.toNat = 1 := by omega
            rw [h1, if_neg (by decide)] at P4
            have hsome : parsedV s.data.toList = .tuple #[.int .u64 ((acc + 1 * 128 ^ 9 : Nat) : Int), .int .i64 10] := by
              unfold parsedV; rw [← P4]; rfl
            have N := Lib.hid hsome
            rw [h1] at hw8
            have hacc := AH.out
            have hor := or64 acc 1 63 (by omega) (by omega)
            have hwr : IntKind.u64.wrap 9223372036854775808 = 9223372036854775808 := rfl
            clear hsome P4 h9 q2 hz hacc
            go_wp2_with fail
            go_ret2
            refine ⟨?_, rfl⟩
            rw [N.out]
            have e : ((1 * 2 ^ 63 : Nat) : Int) = 9223372036854775808 := by decide
            rw [e] at hor
            have e2 : (1 * 128 ^ 9 : Nat) = 1 * 2 ^ 63 := by decide
            rw [e2, ← hor]
            rfl
      · have q3 : ¬ (k : Int) = 9 := by omega
        have P4 := P3.out
        rw [if_neg (by omega)] at P4
        have hp2 : 2 ^ (7 * k) ≤ 2 ^ 56 := Nat.pow_le_pow_right (by decide) (by omega)
        have hmul : b.toNat % 128 * 2 ^ (7 * k) ≤ 127 * 2 ^ 56 := Nat.mul_le_mul (by omega) hp2
        have hacc := AH.out
        have hor := or64 acc (b.toNat % 128) (7 * k) hacc (by omega)
        have hlt : acc + b.toNat % 128 * 2 ^ (7 * k) < 2 ^ (7 * (k + 1)) := by
          have h1 : b.toNat % 128 * 2 ^ (7 * k) ≤ 127 * 2 ^ (7 * k) := Nat.mul_le_mul_right _ (by omega)
          have h2 : 2 ^ (7 * (k + 1)) = 2 ^ (7 * k) * 128 := by rw [show 7 * (k + 1) = 7 * k + 7 by omega, Nat.pow_add]
          omega
        have hor2 : Go.bits .or .u64 (acc : Int) (IntKind.u64.wrap ((b.toNat : Int) % 128 * 2 ^ (7 * k))) = ((acc + b.toNat % 128 * 2 ^ (7 * k) : Nat) : Int) := by
          rw [← hor]
          congr 1
          have e : (b.toNat : Int) % 128 * 2 ^ (7 * k) = ((b.toNat % 128 * 2 ^ (7 * k) : Nat) : Int) := by push_cast; rfl
          rw [e, wrapU]
          omega
        have OR := Lib.hid hor2
        have LT := Lib.hid hlt
        rw [pow7] at P4
        clear hp2 hmul hacc hor hlt hor2
        by_cases hbig : 128 ≤ b.toNat
        · have q4 : (128 : Int) ≤ (b.toNat : Int) := by omega
          rw [if_pos hbig] at P4
          have P5 := Lib.hid P4
          clear hbig P4
          go_wp2_with fail
          exact ⟨⟨k + 1, _, by omega, by omega, by simp, by rw [OR.out], LT.out, P5.out⟩, by simp [intOf]; omega⟩
        · rw [if_neg hbig] at P4
          have q4 : (b.toNat : Int) < (128 : Int) := by omega
          by_cases hz : b.toNat = 0 ∧ 0 < k
          · rw [if_pos hz] at P4
            have hnone : parsedV s.data.toList = .tuple #[.int .u64 0, .int .i64 0] := by
              unfold parsedV; rw [← P4]
            have N := Lib.hid hnone
            have q5 : (0 : Int) < (k : Int) := by omega
            rw [hz.1] at hw8
            clear hnone P4 hbig hz
            go_wp2_with fail
            go_ret2
            exact ⟨by rw [N.out]; rfl, rfl⟩
          · rw [if_neg hz] at P4
            have hsome : parsedV s.data.toList = .tuple #[.int .u64 ((acc + b.toNat % 128 * 2 ^ (7 * k) : Nat) : Int), .int .i64 ((k + 1 : Nat) : Int)] := by
              unfold parsedV; rw [← P4]
            have N := Lib.hid hsome
            clear hsome P4 hbig
            by_cases hz2 : b.toNat = 0
            · have hk0 : k = 0 := by omega
              subst hk0
              have a0 : acc = 0 := by have := AH.out; omega
              subst a0
              rw [hz2] at hw8 N
              go_wp2_with fail
              go_ret2
              exact ⟨by rw [N.out]; rfl, rfl⟩
            · have q5 : ¬ (b.toNat : Int) = 0 := by omega
              clear hz hz2
              go_wp2_with fail
              go_ret2
              exact ⟨by rw [N.out, ← OR.out]; rfl, rfl⟩

end Go.Proofs.YtpidjmgapiekaaaGreatDoor
