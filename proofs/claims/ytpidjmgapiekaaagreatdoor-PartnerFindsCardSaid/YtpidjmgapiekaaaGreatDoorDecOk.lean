/- This text says in plain words that what is read out of a packet are numbers of their kinds. No program. -/
import Derived.Test.YtpidjmgapiekaaaGreatDoorDec2
import Derived.Test.YtpidjmgapiekaaaGreatDoorEncPlain
namespace Go.Proofs.YtpidjmgapiekaaaGreatDoor

theorem count_in64 (R : Rdr) : In64 (R.count.2 : Int) := by
  have := R.number_le 9223372036854775807
  unfold Rdr.count In64
  dsimp only
  omega
theorem byte_le (R : Rdr) : R.byte.2 ≤ 255 := by
  unfold Rdr.byte
  split
  · simp
  · split
    · simp
    · rename_i b r _
      have := b.toNat_lt
      dsimp only
      omega
theorem insF_in64 : ∀ (fl : List Bool) (R : Rdr) (b : Int) (acc : List Int), In64 b → (∀ x ∈ acc, In64 x) → ∀ x ∈ (fl.foldl stepF (R, b, acc)).2.2, In64 x
  | [], _, _, _, _, ha => ha
  | t :: r, R, b, acc, hb, ha => by
    rw [List.foldl_cons]
    cases t with
    | false =>
      refine insF_in64 r R b (acc ++ [b]) hb (fun x hx => ?_)
      rcases List.mem_append.1 hx with h | h
      · exact ha x h
      · simp at h; rw [h]; exact hb
    | true =>
      have hv : In64 (if (R.byte.2 : Int) = b then -1 else (R.byte.2 : Int)) := by
        have := byte_le R
        unfold In64
        split <;> omega
      refine insF_in64 r R.byte.1 (if (R.byte.2 : Int) = b then -1 else (R.byte.2 : Int)) (acc ++ [if (R.byte.2 : Int) = b then -1 else (R.byte.2 : Int)]) hv (fun x hx => ?_)
      rcases List.mem_append.1 hx with h | h
      · exact ha x h
      · simp only [List.mem_singleton] at h; rw [h]; exact hv
theorem flags_len33 (R : Rdr) (n : Int) : (R.flags (if 33 < n then 33 else n)).2.length ≤ 33 := by
  unfold Rdr.flags
  repeat' split
  all_goals first | (simp; done) | (rw [flagsOf_len]; omega)
theorem u64_range (x : Int) : 0 ≤ IntKind.u64.wrap x ∧ IntKind.u64.wrap x < 18446744073709551616 := by
  simp [IntKind.wrap, IntKind.signed, IntKind.bits]
  omega
/-- What the reader gives is a packet, good or not. -/
theorem body_in (R : Rdr) (k : Int) : In64 (R.body k).2.nonce ∧ In64 (R.body k).2.frm ∧ In64 (R.body k).2.base ∧ In64 (R.body k).2.ack ∧ (0 ≤ (R.body k).2.sum ∧ (R.body k).2.sum < 18446744073709551616) ∧ (R.body k).2.ins.length ≤ 33 ∧ ∀ x ∈ (R.body k).2.ins, In64 x := by
  have z : In64 0 := ⟨by decide, by decide⟩
  have zs : (0 : Int) ≤ 0 ∧ (0 : Int) < 18446744073709551616 := by decide
  unfold Rdr.body
  repeat' split
  · exact ⟨count_in64 _, z, z, z, zs, by simp, by simp⟩
  · have hb : In64 (R.count.1.count.1.byte.2 : Int) := by have := byte_le R.count.1.count.1; unfold In64; omega
    refine ⟨z, count_in64 _, hb, count_in64 _, zs, ?_, ?_⟩
    · dsimp only
      unfold Rdr.inputs
      dsimp only
      rw [insF_len]
      exact flags_len33 _ _
    · dsimp only
      unfold Rdr.inputs Rdr.insF
      exact insF_in64 _ _ _ [] hb (by simp)
  · exact ⟨z, count_in64 _, z, z, u64_range _, by simp, by simp⟩
  · exact ⟨z, z, z, count_in64 _, zs, by simp, by simp⟩
  · exact ⟨z, count_in64 _, z, z, zs, by simp, by simp⟩
  · exact ⟨z, z, z, z, zs, by simp, by simp⟩

end Go.Proofs.YtpidjmgapiekaaaGreatDoor
