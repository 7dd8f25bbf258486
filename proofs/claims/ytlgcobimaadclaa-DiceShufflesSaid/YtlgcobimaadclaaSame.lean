/- This text proves what the document's comparison of two lists of numbers (pasodobleref04.Same) computes, over the loaded program. -/
import Derived.Test.YtlgcobimaadclaaTally
namespace Go.Proofs.Ytlgcobimaadclaa
open Go.RowKit

def SamePost (w : World) (a b : List Int) (e : Ending) (w' : World) : Prop := e = .returned (.bool (decide (a = b))) ∧ ∃ n, w' = w.drewN n

theorem take_eq_succ {a b : List Int} {k : Nat} (ha : k < a.length) (hb : k < b.length) (h : a.take k = b.take k) (hk : a[k] = b[k]) : a.take (k + 1) = b.take (k + 1) := by
  rw [List.take_succ_eq_append_getElem ha, List.take_succ_eq_append_getElem hb, h]
  rw [hk]

set_option maxHeartbeats 800000 in
theorem same_any (A : Option Addr) (ca : Nat) (a : List Int) (B' : Option Addr) (cb : Nat) (b : List Int) (w : World) (hl : a.length ≤ maxLen) (hl2 : b.length ≤ maxLen)
    (hA : Cells w A (a.map (Value.int .i64))) (hB : Cells w B' (b.map (Value.int .i64))) :
    Calls Try.prog 25 #[.slice A a.length ca, .slice B' b.length cb] w (SamePost w a b) := by
  unfold maxLen at hl hl2
  by_cases hlen : a.length = b.length
  · have t1 : ((a.length : Int) != (b.length : Int)) = false := by simp [hlen]
    have HL := Lib.hid hlen
    clear hlen
    go_enter Try.func25, Try.ntmps25
    go_wp2
    go_loopw [5] (fun i wr => ∃ k n : Nat, k ≤ a.length ∧ i = .int .i64 k ∧ a.take k = b.take k ∧ wr = w.drewN n) (fun i _ => a.length - (intOf i).toNat)
    case atStart => exact ⟨0, 0, Nat.zero_le _, rfl, by simp, rfl⟩
    case round =>
      obtain ⟨k, n, hk, rfl, ht, rfl⟩ := hrel
      have HT := Lib.hid ht
      clear ht
      by_cases hlt : k < a.length
      · have hlb : k < b.length := by have := HL.out; omega
        obtain ⟨ab, ao, rfl, c1⟩ := hA k (.int .i64 a[k]) (by simp [hlt])
        obtain ⟨bb, bo, rfl, c2⟩ := hB k (.int .i64 b[k]) (by simp [hlb])
        have hi1 : (0 : Int) ≤ (k : Int) := by omega
        have hi2 : (k : Int) < (a.length : Int) := by omega
        have hi3 : (k : Int) < (b.length : Int) := by omega
        clear hA hB
        by_cases hne : a[k] = b[k]
        · have t2 : (a[k] != b[k]) = false := by simp [hne]
          have HK := Lib.hid (take_eq_succ hlt hlb HT.out hne)
          clear hne
          go_wp2_with fail
          go_quiet (fail)
          go_wp2
          go_roundw
          case rel => exact ⟨k + 1, n + nq, by omega, by go_num, HK.out, rfl⟩
          case measure => simp [intOf]; omega
        · have t2 : (a[k] != b[k]) = true := by simp [hne]
          have HF := Lib.hid (show decide (a = b) = false by simp; intro e; subst e; exact hne rfl)
          clear hne
          go_wp2_with fail
          go_quiet (fail)
          go_wp2
          go_ret
          exact ⟨by rw [HF.out]; rfl, n + nq, by rw [World.drewN_drewN]⟩
      · have HF := Lib.hid (show decide (a = b) = true by
          have h := HT.out
          rw [List.take_of_length_le (by omega), List.take_of_length_le (by have := HL.out; omega)] at h
          simp [h])
        go_wp2
        go_ret
        exact ⟨by rw [HF.out]; rfl, n, rfl⟩
  · have t1 : ((a.length : Int) != (b.length : Int)) = true := by rw [bne_iff_ne]; omega
    have HF := Lib.hid (show decide (a = b) = false by simp; intro e; subst e; exact hlen rfl)
    clear hlen
    go_enter Try.func25, Try.ntmps25
    go_wp2
    go_ret
    exact ⟨by rw [HF.out]; rfl, 0, rfl⟩

end Go.Proofs.Ytlgcobimaadclaa
