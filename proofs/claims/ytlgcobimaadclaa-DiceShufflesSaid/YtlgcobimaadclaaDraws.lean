/- This text proves, over the loaded program, that the law DiceDraws returns true for every input. -/
import Derived.Test.YtlgcobimaadclaaDice
import Derived.Test.YtlgcobimaadclaaSame
namespace Go.Proofs.Ytlgcobimaadclaa
open Go.RowKit

set_option maxHeartbeats 400000 in
theorem back_any (a : Int) (w : World) :
    Calls Try.prog 27 #[.int .i64 a] w fun e w' => e = .returned (.int .i64 (skipI a (-1))) ∧ w = w' := by
  go_enter Try.func27, Try.ntmps27
  go_wp2_with fail
  refine (skip_any a (-1) _).mono ?_
  rintro e w1 ⟨rfl, rfl⟩
  go_wp2
  go_ret
  exact ⟨rfl, rfl⟩

theorem k_s : nextS 0 = -7046029254386353131 := by decide +kernel
theorem k_n : nextN 0 = 16294208416658607535 := by decide +kernel
theorem k_d : drawN 0 6 = 1 := by decide +kernel
theorem k_b : skipI (-7046029254386353131) (-1) = 0 := by decide +kernel

def Drew (v : Value) (w : World) (e : Ending) (w' : World) : Prop := e = .returned v ∧ ∃ n, w' = w.drewN n

set_option maxHeartbeats 800000 in
theorem awakeD_any (w : World) :
    Calls Try.prog 11 #[] w (Drew (.bool true) w) := by
  go_enter Try.func11, Try.ntmps11
  go_wp2_with fail
  refine (next_any 0 _).mono ?_
  rintro e w1 ⟨rfl, rfl⟩
  rw [k_s, k_n]
  go_wp2_with fail
  refine (draw_any 0 6 _ (by omega)).mono ?_
  rintro e w2 ⟨rfl, n, rfl⟩
  rw [k_s, k_d]
  go_wp2_with fail
  refine (back_any _ _).mono ?_
  rintro e w1 ⟨rfl, rfl⟩
  rw [k_b]
  go_wp2
  go_ret
  exact ⟨rfl, n, rfl⟩

theorem Row3.cells {w : World} {g : Nat} {l : List Int} (h : Row3 w g l) : Cells w (some ⟨g, 0, none⟩) (l.map (Value.int .i64)) := by
  have := cells_block h
  simpa using this

theorem drewN_below (w : World) (n : Nat) (B : Nat) : Below B w (w.drewN n) := ⟨rfl, rfl, rfl, Nat.le_refl _, fun _ _ => rfl⟩

theorem shuf_length (i : Nat) : ∀ (s : Int) (l : List Int), (shuf i s l).2.length = l.length := by
  induction i with
  | zero => intro s l; rfl
  | succ i ih =>
    intro s l
    rw [shuf, ih, swapL_length]

set_option maxHeartbeats 1600000 in
theorem draws_walk (a b n : Int) (w : World) (hb : b ≤ 9223372036854775807) (h : n ≤ 200) :
    Calls Try.prog 6 #[.int .i64 a, .int .i64 b, .int .i64 n] w fun e w' => e = .returned (.bool true) ∧ Below w.heap.size w w' := by
  obtain ⟨m, hm, hn⟩ : ∃ m : Nat, m ≤ 200 ∧ ((n < 0 ∧ m = 0) ∨ n = (m : Int)) := by
    by_cases h0 : n < 0
    · exact ⟨0, by omega, .inl ⟨h0, rfl⟩⟩
    · exact ⟨n.toNat, by omega, .inr (by omega)⟩
  have HN := Lib.hid hn
  have t1 : decide (200 < n) = false := by simp; omega
  clear hn
  go_enter Try.func6, Try.ntmps6
  go_wp2_with fail
  refine (awakeD_any _).mono ?_
  rintro e w1 ⟨rfl, n1, rfl⟩
  go_wp2_with fail
  refine (next_any a _).mono ?_
  rintro e w1 ⟨rfl, rfl⟩
  go_wp2_with fail
  refine (nextR_any a _).mono ?_
  rintro e w1 ⟨rfl, rfl⟩
  go_wp2_with fail
  refine (draw_any a b _ hb).mono ?_
  rintro e w2 ⟨rfl, n2, rfl⟩
  go_wp2_with fail
  refine (drawR_any a b _ hb).mono ?_
  rintro e w2 ⟨rfl, n3, rfl⟩
  go_wp2_with fail
  refine (shuffle_any a n m _ (by omega) HN.out).mono ?_
  rintro e w4 ⟨g, rfl, hR, hB, hg⟩
  have B4 := Lib.hid hB
  have R4 := Lib.hid hR
  clear hB hR
  go_wp2_with fail
  refine (shuffleR_any a n m _ (by omega) HN.out).mono ?_
  rintro e w5 ⟨v, rfl, hO, hB⟩
  obtain ⟨A, c, rfl, hc⟩ := hO.cells
  have hR5 := R4.out.cells.below hB
  have B5 := Lib.hid (B4.out.trans (hB.mono B4.out.size))
  clear hB hO
  obtain ⟨L, hL⟩ : ∃ L, (shuf (m - 1) a (rangeL m)).2 = L := ⟨_, rfl⟩
  rw [hL] at hc hR5
  rw [hL]
  have hl : L.length ≤ maxLen := by rw [← hL, shuf_length]; simp [rangeL, maxLen]; omega
  clear hL
  go_wp2_with fail
  refine (same_any _ _ L _ _ L w5 hl hl hR5 hc).mono ?_
  rintro e w6 ⟨rfl, n6, rfl⟩
  have hd : decide (L = L) = true := by simp
  rw [hd]
  go_wp2
  go_ret
  exact ⟨rfl, B5.out.os, B5.out.tape, B5.out.output, B5.out.size, B5.out.block⟩

set_option maxHeartbeats 1600000 in
theorem draws_long (a b n : Int) (w : World) (hb : b ≤ 9223372036854775807) (h : 200 < n) :
    Calls Try.prog 6 #[.int .i64 a, .int .i64 b, .int .i64 n] w fun e w' => e = .returned (.bool true) ∧ Below w.heap.size w w' := by
  have t1 : decide (200 < n) = true := by simp; omega
  go_enter Try.func6, Try.ntmps6
  go_wp2_with fail
  refine (awakeD_any _).mono ?_
  rintro e w1 ⟨rfl, n1, rfl⟩
  go_wp2_with fail
  refine (next_any a _).mono ?_
  rintro e w1 ⟨rfl, rfl⟩
  go_wp2_with fail
  refine (nextR_any a _).mono ?_
  rintro e w1 ⟨rfl, rfl⟩
  go_wp2_with fail
  refine (draw_any a b _ hb).mono ?_
  rintro e w2 ⟨rfl, n2, rfl⟩
  go_wp2_with fail
  refine (drawR_any a b _ hb).mono ?_
  rintro e w2 ⟨rfl, n3, rfl⟩
  go_wp2
  go_ret
  exact ⟨rfl, drewN_below _ _ _⟩

theorem draws_any (w : World) (a : Int) (_ha : (Lit.int .i64 a).wf = true) (b : Int) (hb : (Lit.int .i64 b).wf = true) (n : Int) (_hn : (Lit.int .i64 n).wf = true) :
    Calls Try.prog 6 #[.int .i64 a, .int .i64 b, .int .i64 n] w fun e w' => e = .returned (.bool true) ∧ Below w.heap.size w w' := by
  have hb' : -9223372036854775808 ≤ b ∧ b ≤ 9223372036854775807 := by simpa [Lit.wf, IntKind.min, IntKind.max, IntKind.signed, IntKind.bits] using hb
  by_cases h : n ≤ 200
  · exact draws_walk a b n w hb'.2 h
  · exact draws_long a b n w hb'.2 (by omega)

end Go.Proofs.Ytlgcobimaadclaa
