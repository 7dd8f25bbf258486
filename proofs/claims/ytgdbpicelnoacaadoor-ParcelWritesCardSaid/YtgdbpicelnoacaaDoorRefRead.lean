/- This text proves what the strand's reference reads as a number, over the loaded program. -/
import Derived.Test.YtgdbpicelnoacaaDoorRun
namespace Go.Proofs.YtgdbpicelnoacaaDoor
open Go.RowKit Go.WideShapes

set_option maxRecDepth 100000 in
set_option maxHeartbeats 3200000 in
theorem refRead_any (s : ByteArray) (w : World) (hs : s.size ≤ maxLen) : Calls Tryd.prog 60 #[.string s] w fun e w' => e = .returned (parsedV s.data.toList) ∧ w = w' := by
  have hs2 : s.size ≤ maxLen := hs
  simp only [maxLen] at hs2
  clear hs
  have hlen : s.data.toList.length = s.size := rfl
  go_enter Tryd.func60, Tryd.ntmps60
  go_wp2
  go_loop [4, 5] (fun nv iv => ∃ k acc : Nat, k ≤ s.size ∧ k ≤ 10 ∧ iv = .int .i64 k ∧ nv = .int .u64 acc ∧ acc < 2 ^ (7 * k) ∧ parseGo (s.data.toList.drop k) k acc = parseL s.data.toList) (fun _ iv => s.size - (intOf iv).toNat)
  case atStart => exact ⟨0, 0, Nat.zero_le _, by decide, rfl, rfl, by decide, rfl⟩
  case round =>
    obtain ⟨k, acc, hk, hk10, rfl, rfl, hacc, hp⟩ := hrel
    have PH := Lib.hid hp
    have AH := Lib.hid hacc
    have hi1 : (0 : Int) ≤ (k : Int) := by omega
    clear hp hacc
    by_cases hend : s.size ≤ k ∨ 10 ≤ k
    · have hnone : parsedV s.data.toList = .tuple #[.int .u64 0, .int .i64 0] := by
        have : parseL s.data.toList = none := by
          rw [← PH.out]
          rcases hend with h | h
          · rw [List.drop_eq_nil_of_le (by rw [hlen]; exact h)]; rfl
          · cases hd : s.data.toList.drop k with
            | nil => rfl
            | cons b r => unfold parseGo; rw [if_pos h]
        unfold parsedV; rw [this]
      have N := Lib.hid hnone
      clear hnone
      by_cases h1 : s.size ≤ k
      · have q : (s.size : Int) ≤ (k : Int) := by omega
        clear hend h1 hlen
        go_wp2_with fail
        go_ret2
        exact ⟨by rw [N.out]; rfl, rfl⟩
      · have q : (k : Int) < (s.size : Int) := by omega
        have q2 : decide ((k : Int) < (10 : Int)) = false := by simp; omega
        clear hend h1 hlen
        go_wp2_with fail
        go_ret2
        exact ⟨by rw [N.out]; rfl, rfl⟩
    · have hks : k < s.size := by omega
      have hk9 : k < 10 := by omega
      have hkl : k < s.data.toList.length := by rw [hlen]; exact hks
      obtain ⟨b, hb⟩ : ∃ b, s[k]'hks = b := ⟨_, rfl⟩
      have hd : s.data.toList.drop k = b :: s.data.toList.drop (k + 1) := by rw [← hb]; exact (List.getElem_cons_drop hkl).symm
      have P2 := PH.out
      rw [hd] at P2
      unfold parseGo at P2
      rw [if_neg (by omega)] at P2
      have P3 := Lib.hid P2
      have hb256 : (b.toNat : Int) < 256 := by have := b.toNat_lt; omega
      have hb0 : (0 : Int) ≤ (b.toNat : Int) := by omega
      have q : (k : Int) < (s.size : Int) := by omega
      have q2 : (k : Int) < (10 : Int) := by omega
      clear hend hd P2 hlen hkl
      have hw8 : IntKind.u64.wrap ((s[k]'hks).toNat : Int) = (b.toNat : Int) := by rw [hb, wrapU]; omega
      clear hb
      by_cases h9 : k = 9 ∧ 1 < b.toNat
      · have hnone : parsedV s.data.toList = .tuple #[.int .u64 0, .int .i64 0] := by
          have := P3.out
          rw [if_pos h9] at this
          unfold parsedV; rw [← this]
        have N := Lib.hid hnone
        have q3 : ((k : Int) == 9) = true := by rw [h9.1]; rfl
        have q4 : (1 : Int) < (b.toNat : Int) := by omega
        clear hnone P3 PH h9
        go_wp2_with fail
        go_ret2
        exact ⟨by rw [N.out]; rfl, rfl⟩
      · have P4 := P3.out
        rw [if_neg h9] at P4
        have hacc := AH.out
        obtain ⟨p, hp⟩ : ∃ p, b.toNat % 128 * 2 ^ (7 * k) = p := ⟨_, rfl⟩
        have hsum : acc + p < 18446744073709551616 := by
          by_cases h9k : k = 9
          · subst h9k
            have hm : b.toNat % 128 * 2 ^ (7 * 9) ≤ 1 * 2 ^ (7 * 9) := Nat.mul_le_mul_right _ (by omega)
            omega
          · have hp2 : 2 ^ (7 * k) ≤ 2 ^ 56 := Nat.pow_le_pow_right (by decide) (by omega)
            have hmul : b.toNat % 128 * 2 ^ (7 * k) ≤ 127 * 2 ^ 56 := Nat.mul_le_mul (by omega) hp2
            omega
        have hwp : IntKind.u64.wrap ((b.toNat : Int) % 128 * 2 ^ (7 * k)) = (p : Int) := by
          have e : (b.toNat : Int) % 128 * 2 ^ (7 * k) = ((b.toNat % 128 * 2 ^ (7 * k) : Nat) : Int) := by push_cast; rfl
          rw [e, wrapU, hp]
          omega
        have hlt : 128 ≤ b.toNat → acc + p < 2 ^ (7 * (k + 1)) := by
          intro _
          have h1 : b.toNat % 128 * 2 ^ (7 * k) ≤ 127 * 2 ^ (7 * k) := Nat.mul_le_mul_right _ (by omega)
          have h2 : 2 ^ (7 * (k + 1)) = 2 ^ (7 * k) * 128 := by rw [show 7 * (k + 1) = 7 * k + 7 by omega, Nat.pow_add]
          omega
        have LT := Lib.hid hlt
        have hsi : (acc : Int) + (p : Int) < 18446744073709551616 := by omega
        rw [pow7, hp] at P4
        have q3 : (((k : Int) == 9) = true ∧ (b.toNat : Int) ≤ 1) ∨ ((k : Int) == 9) = false := by
          by_cases h9k : k = 9
          · exact .inl ⟨by rw [h9k]; rfl, by omega⟩
          · exact .inr (by simp; omega)
        clear hp hlt hsum h9 hacc
        by_cases hbig : 128 ≤ b.toNat
        · have q4 : ¬ (b.toNat : Int) < (128 : Int) := by omega
          rw [if_pos hbig] at P4
          have P5 := Lib.hid P4
          have L5 := Lib.hid (LT.out hbig)
          have q5 : ((k : Int) == 9) = false := by
            rcases q3 with ⟨_, h⟩ | h
            · omega
            · exact h
          clear hbig P4 q3
          go_wp2_with fail
          exact ⟨⟨k + 1, _, by omega, by omega, by simp, rfl, L5.out, P5.out⟩, by simp [intOf]; omega⟩
        · rw [if_neg hbig] at P4
          have q4 : (b.toNat : Int) < (128 : Int) := by omega
          have hwp2 : IntKind.u64.wrap ((b.toNat : Int) * 2 ^ (7 * k)) = (p : Int) := by
            rw [← hwp, Int.emod_eq_of_lt hb0 q4]
          by_cases hz : b.toNat = 0 ∧ 0 < k
          · rw [if_pos hz] at P4
            have hnone : parsedV s.data.toList = .tuple #[.int .u64 0, .int .i64 0] := by
              unfold parsedV; rw [← P4]
            have N := Lib.hid hnone
            have q5 : (0 : Int) < (k : Int) := by omega
            rw [hz.1] at hw8
            clear hnone P4 hbig hz hsi
            by_cases h9k : k = 9
            · subst h9k
              go_wp2_with fail
              go_ret2
              exact ⟨by rw [N.out]; rfl, rfl⟩
            · have q3c : ¬ (k : Int) = 9 := by omega
              clear q3
              go_wp2_with fail
              go_ret2
              exact ⟨by rw [N.out]; rfl, rfl⟩
          · rw [if_neg hz] at P4
            have hsome : parsedV s.data.toList = .tuple #[.int .u64 ((acc + p : Nat) : Int), .int .i64 ((k + 1 : Nat) : Int)] := by
              unfold parsedV; rw [← P4]
            have N := Lib.hid hsome
            have hsw : IntKind.u64.wrap ((acc : Int) + (p : Int)) = (acc : Int) + (p : Int) := by rw [wrapU]; omega
            clear hsome P4 hbig
            by_cases hz2 : b.toNat = 0
            · have hk0 : k = 0 := by omega
              subst hk0
              have a0 : acc = 0 := by have := AH.out; omega
              subst a0
              have p0 : p = 0 := by
                rw [hz2] at hwp
                have : ((0 : Nat) : Int) % 128 * 2 ^ (7 * 0) = 0 := by simp
                rw [this] at hwp
                have e : IntKind.u64.wrap 0 = 0 := rfl
                rw [e] at hwp
                omega
              rw [hz2] at hw8
              subst p0
              clear hwp hwp2 q3 hsi hsw
              go_wp2_with fail
              go_ret2
              exact ⟨by rw [N.out]; rfl, rfl⟩
            · have q5 : ¬ (b.toNat : Int) = 0 := by omega
              clear hz hz2
              by_cases h9k : k = 9
              · have h1 : (b.toNat : Int) = 1 := by
                  rcases q3 with ⟨_, h⟩ | h
                  · omega
                  · rw [h9k] at h; cases h
                rw [h1] at hw8 hwp
                clear hwp2
                subst h9k
                have hwr : IntKind.u64.wrap 9223372036854775808 = (p : Int) := by rw [← hwp]; rfl
                clear hwp q3 hsi h1
                go_wp2_with fail
                go_ret2
                exact ⟨by rw [N.out]; simp, rfl⟩
              · have q3c : ¬ (k : Int) = 9 := by omega
                clear q3 hsi
                go_wp2_with fail
                go_ret2
                exact ⟨by rw [N.out]; simp, rfl⟩

end Go.Proofs.YtgdbpicelnoacaaDoor
