/- This text proves what Decode answers where the sum is another one, over the loaded program. -/
import Derived.Test.YtpidjmgapiekaaaGreatDoorDec3
namespace Go.Proofs.YtpidjmgapiekaaaGreatDoor
open Go.RowKit Go.WideShapes
set_option linter.unusedSimpArgs false

/-- Seven cells are stored. -/
theorem stored7 {w : World} {b : Nat} {c0 c1 c2 c3 c4 c5 c6 : Value} (h : w.heap[b]? = some (.cells #[c0, c1, c2, c3, c4, c5, c6] 57 (0, 0))) (v0 v1 v2 v3 v4 v5 v6 : Value) :
    (((((((w.setCell ⟨b, 0, none⟩ v0).setCell ⟨b, 1, none⟩ v1).setCell ⟨b, 2, none⟩ v2).setCell ⟨b, 3, none⟩ v3).setCell ⟨b, 4, none⟩ v4).setCell ⟨b, 5, none⟩ v5).setCell ⟨b, 6, none⟩ v6).heap[b]? = some (.cells #[v0, v1, v2, v3, v4, v5, v6] 57 (0, 0)) ∧ Kept [b] w (((((((w.setCell ⟨b, 0, none⟩ v0).setCell ⟨b, 1, none⟩ v1).setCell ⟨b, 2, none⟩ v2).setCell ⟨b, 3, none⟩ v3).setCell ⟨b, 4, none⟩ v4).setCell ⟨b, 5, none⟩ v5).setCell ⟨b, 6, none⟩ v6) ∧ (((((((w.setCell ⟨b, 0, none⟩ v0).setCell ⟨b, 1, none⟩ v1).setCell ⟨b, 2, none⟩ v2).setCell ⟨b, 3, none⟩ v3).setCell ⟨b, 4, none⟩ v4).setCell ⟨b, 5, none⟩ v5).setCell ⟨b, 6, none⟩ v6).heap.size = w.heap.size := by
  refine ⟨?_, ?_, by simp only [World.size_setCell]⟩
  · have h0 : (w.setCell ⟨b, 0, none⟩ v0).heap[b]? = some (.cells #[v0, c1, c2, c3, c4, c5, c6] 57 (0, 0)) := (heap_setCell_of' h 0 v0).trans rfl
    have h1 : ((w.setCell ⟨b, 0, none⟩ v0).setCell ⟨b, 1, none⟩ v1).heap[b]? = some (.cells #[v0, v1, c2, c3, c4, c5, c6] 57 (0, 0)) := (heap_setCell_of' h0 1 v1).trans rfl
    have h2 : (((w.setCell ⟨b, 0, none⟩ v0).setCell ⟨b, 1, none⟩ v1).setCell ⟨b, 2, none⟩ v2).heap[b]? = some (.cells #[v0, v1, v2, c3, c4, c5, c6] 57 (0, 0)) := (heap_setCell_of' h1 2 v2).trans rfl
    have h3 : ((((w.setCell ⟨b, 0, none⟩ v0).setCell ⟨b, 1, none⟩ v1).setCell ⟨b, 2, none⟩ v2).setCell ⟨b, 3, none⟩ v3).heap[b]? = some (.cells #[v0, v1, v2, v3, c4, c5, c6] 57 (0, 0)) := (heap_setCell_of' h2 3 v3).trans rfl
    have h4 : (((((w.setCell ⟨b, 0, none⟩ v0).setCell ⟨b, 1, none⟩ v1).setCell ⟨b, 2, none⟩ v2).setCell ⟨b, 3, none⟩ v3).setCell ⟨b, 4, none⟩ v4).heap[b]? = some (.cells #[v0, v1, v2, v3, v4, c5, c6] 57 (0, 0)) := (heap_setCell_of' h3 4 v4).trans rfl
    have h5 : ((((((w.setCell ⟨b, 0, none⟩ v0).setCell ⟨b, 1, none⟩ v1).setCell ⟨b, 2, none⟩ v2).setCell ⟨b, 3, none⟩ v3).setCell ⟨b, 4, none⟩ v4).setCell ⟨b, 5, none⟩ v5).heap[b]? = some (.cells #[v0, v1, v2, v3, v4, v5, c6] 57 (0, 0)) := (heap_setCell_of' h4 5 v5).trans rfl
    have h6 : (((((((w.setCell ⟨b, 0, none⟩ v0).setCell ⟨b, 1, none⟩ v1).setCell ⟨b, 2, none⟩ v2).setCell ⟨b, 3, none⟩ v3).setCell ⟨b, 4, none⟩ v4).setCell ⟨b, 5, none⟩ v5).setCell ⟨b, 6, none⟩ v6).heap[b]? = some (.cells #[v0, v1, v2, v3, v4, v5, v6] 57 (0, 0)) := (heap_setCell_of' h5 6 v6).trans rfl
    exact h6
  · repeat (first | (with_reducible exact Kept.refl _ _) | (with_reducible refine kept_set ?_ (by simp)))
/-- .. and a new block lies behind them. -/
theorem end7 {w : World} {b : Nat} {c0 c1 c2 c3 c4 c5 c6 : Value} (h : w.heap[b]? = some (.cells #[c0, c1, c2, c3, c4, c5, c6] 57 (0, 0))) (v0 v1 v2 v3 v4 v5 v6 : Value) (o : Obj) :
    (((((((((w.setCell ⟨b, 0, none⟩ v0).setCell ⟨b, 1, none⟩ v1).setCell ⟨b, 2, none⟩ v2).setCell ⟨b, 3, none⟩ v3).setCell ⟨b, 4, none⟩ v4).setCell ⟨b, 5, none⟩ v5).setCell ⟨b, 6, none⟩ v6).alloc o).cell? ⟨b, 0, none⟩ = some v0 ∧ ((((((((w.setCell ⟨b, 0, none⟩ v0).setCell ⟨b, 1, none⟩ v1).setCell ⟨b, 2, none⟩ v2).setCell ⟨b, 3, none⟩ v3).setCell ⟨b, 4, none⟩ v4).setCell ⟨b, 5, none⟩ v5).setCell ⟨b, 6, none⟩ v6).alloc o).cell? ⟨b, 1, none⟩ = some v1 ∧ ((((((((w.setCell ⟨b, 0, none⟩ v0).setCell ⟨b, 1, none⟩ v1).setCell ⟨b, 2, none⟩ v2).setCell ⟨b, 3, none⟩ v3).setCell ⟨b, 4, none⟩ v4).setCell ⟨b, 5, none⟩ v5).setCell ⟨b, 6, none⟩ v6).alloc o).cell? ⟨b, 2, none⟩ = some v2 ∧ ((((((((w.setCell ⟨b, 0, none⟩ v0).setCell ⟨b, 1, none⟩ v1).setCell ⟨b, 2, none⟩ v2).setCell ⟨b, 3, none⟩ v3).setCell ⟨b, 4, none⟩ v4).setCell ⟨b, 5, none⟩ v5).setCell ⟨b, 6, none⟩ v6).alloc o).cell? ⟨b, 3, none⟩ = some v3 ∧ ((((((((w.setCell ⟨b, 0, none⟩ v0).setCell ⟨b, 1, none⟩ v1).setCell ⟨b, 2, none⟩ v2).setCell ⟨b, 3, none⟩ v3).setCell ⟨b, 4, none⟩ v4).setCell ⟨b, 5, none⟩ v5).setCell ⟨b, 6, none⟩ v6).alloc o).cell? ⟨b, 4, none⟩ = some v4 ∧ ((((((((w.setCell ⟨b, 0, none⟩ v0).setCell ⟨b, 1, none⟩ v1).setCell ⟨b, 2, none⟩ v2).setCell ⟨b, 3, none⟩ v3).setCell ⟨b, 4, none⟩ v4).setCell ⟨b, 5, none⟩ v5).setCell ⟨b, 6, none⟩ v6).alloc o).cell? ⟨b, 5, none⟩ = some v5 ∧ ((((((((w.setCell ⟨b, 0, none⟩ v0).setCell ⟨b, 1, none⟩ v1).setCell ⟨b, 2, none⟩ v2).setCell ⟨b, 3, none⟩ v3).setCell ⟨b, 4, none⟩ v4).setCell ⟨b, 5, none⟩ v5).setCell ⟨b, 6, none⟩ v6).alloc o).cell? ⟨b, 6, none⟩ = some v6) ∧ Kept [b] w ((((((((w.setCell ⟨b, 0, none⟩ v0).setCell ⟨b, 1, none⟩ v1).setCell ⟨b, 2, none⟩ v2).setCell ⟨b, 3, none⟩ v3).setCell ⟨b, 4, none⟩ v4).setCell ⟨b, 5, none⟩ v5).setCell ⟨b, 6, none⟩ v6).alloc o) ∧ ((((((((w.setCell ⟨b, 0, none⟩ v0).setCell ⟨b, 1, none⟩ v1).setCell ⟨b, 2, none⟩ v2).setCell ⟨b, 3, none⟩ v3).setCell ⟨b, 4, none⟩ v4).setCell ⟨b, 5, none⟩ v5).setCell ⟨b, 6, none⟩ v6).alloc o).heap[w.heap.size]? = some o := by
  obtain ⟨h1, h2, h3⟩ := stored7 h v0 v1 v2 v3 v4 v5 v6
  have h4 := (alloc_old _ o b (Array.getElem?_eq_some_iff.1 h1).1).trans h1
  have h5 := heap_alloc_new (((((((w.setCell ⟨b, 0, none⟩ v0).setCell ⟨b, 1, none⟩ v1).setCell ⟨b, 2, none⟩ v2).setCell ⟨b, 3, none⟩ v3).setCell ⟨b, 4, none⟩ v4).setCell ⟨b, 5, none⟩ v5).setCell ⟨b, 6, none⟩ v6) o
  rw [h3] at h5
  refine ⟨⟨?_, ?_, ?_, ?_, ?_, ?_, ?_⟩, h2.trans (Kept.of_below (fp := [b]) ((Below.refl _ _).alloc (Nat.le_refl _) o)) (by simp), h5⟩
  all_goals (simp only [World.cell?, h4]; rfl)
theorem cells7 {w : World} {b : Nat} {c0 c1 c2 c3 c4 c5 c6 : Value} (h : w.heap[b]? = some (.cells #[c0, c1, c2, c3, c4, c5, c6] 57 (0, 0))) : (w.cell? ⟨b, 0, none⟩ = some c0 ∧ w.frozen? ⟨b, 0, none⟩ = false) ∧ (w.cell? ⟨b, 1, none⟩ = some c1 ∧ w.frozen? ⟨b, 1, none⟩ = false) ∧ (w.cell? ⟨b, 2, none⟩ = some c2 ∧ w.frozen? ⟨b, 2, none⟩ = false) ∧ (w.cell? ⟨b, 3, none⟩ = some c3 ∧ w.frozen? ⟨b, 3, none⟩ = false) ∧ (w.cell? ⟨b, 4, none⟩ = some c4 ∧ w.frozen? ⟨b, 4, none⟩ = false) ∧ (w.cell? ⟨b, 5, none⟩ = some c5 ∧ w.frozen? ⟨b, 5, none⟩ = false) ∧ (w.cell? ⟨b, 6, none⟩ = some c6 ∧ w.frozen? ⟨b, 6, none⟩ = false) := by
  refine ⟨⟨?_, ?_⟩, ⟨?_, ?_⟩, ⟨?_, ?_⟩, ⟨?_, ?_⟩, ⟨?_, ?_⟩, ⟨?_, ?_⟩, ⟨?_, ?_⟩⟩
  all_goals first | (simp only [World.cell?, h]; rfl) | (simp only [World.frozen?, h]; rfl)

set_option maxRecDepth 100000 in
set_option maxHeartbeats 6400000 in
theorem dec_sum (A : Nat → Addr) (s : ByteArray) (w : World) (hA : s_Apart 5 w A) (hs : 6 ≤ s.size) (hm : s.size ≤ 512) (h0 : s.data.toList.getD 0 0 = 80) (hd : sum4 (s.data.toList.take (s.size - 4)) ≠ s.data.toList.drop (s.size - 4)) : Calls Tryz.prog 19 #[.string s] w (DecBad A 4 w) := by
  have g4 : w.cell? ⟨5, 0, none⟩ = some (.iface 221 (.pointer (some (A 4)))) := (hA.1 4 (by decide)).1
  have al := (Below.refl w.heap.size w).alloc (Nat.le_refl _) (.cells #[.int .i64 0, .int .i64 0, .int .i64 0, .int .i64 0, .slice none 0 0, .int .i64 0, .int .u64 0] 57)
  obtain ⟨W, hW⟩ : ∃ W, w.alloc (.cells #[.int .i64 0, .int .i64 0, .int .i64 0, .int .i64 0, .slice none 0 0, .int .i64 0, .int .u64 0] 57) = W := ⟨_, rfl⟩
  have bW := heap_alloc_new w (.cells #[.int .i64 0, .int .i64 0, .int .i64 0, .int .i64 0, .slice none 0 0, .int .i64 0, .int .u64 0] 57)
  rw [hW] at al bW
  have GG := Lib.hid ((al.cell (p := ⟨5, 0, none⟩) (World.block_lt_of_cell? w _ g4)).trans g4)
  have BW := Lib.hid bW
  have AL := Lib.hid al
  have EW := Lib.hid hW
  have q : (6 : Int) ≤ (s.size : Int) := by omega
  have q2 : (s.size : Int) ≤ 512 := by omega
  have q1 : 0 < s.size := by omega
  have hlen : s.data.toList.length = s.size := rfl
  have hb : s.data.toList.getD 0 0 = s[0]'q1 := by rw [List.getD_eq_getElem?_getD, List.getElem?_eq_getElem (by rw [hlen]; exact q1)]; rfl
  have q5 : (((s[0]'q1).toNat : Int) != 80) = false := by
    rw [hb] at h0
    rw [h0]; rfl
  have q6 : (0 : Int) < (s.size : Int) := by omega
  obtain ⟨m, hmm⟩ : ∃ m, s.size - 4 = m := ⟨_, rfl⟩
  rw [hmm] at hd
  have q7 : (s.size : Int) - 4 = (m : Int) := by omega
  have q8 : (m : Int) ≤ (s.size : Int) := by omega
  have q9 : (0 : Int) ≤ (m : Int) := by omega
  have PS := Lib.hid (psum_any (s.extract 0 m) W.drew (by simp only [ByteArray.size_extract, maxLen]; omega))
  rw [extract_take] at PS
  have qn : ((strB (sum4 (s.data.toList.take m))).toList == (s.extract m s.size).toList) = false := by
    rw [bytes_eq, decide_eq_false_iff_not]
    intro h
    apply hd
    have := congrArg (fun b : ByteArray => b.data.toList) h
    rw [extract_list] at this
    simpa [strB] using this
  clear hA al hb h0 hd hmm hW bW g4 hlen
  go_enter Tryz.func19, Tryz.ntmps19
  go_wp2_with fail
  rw [EW.out]
  go_region_with ((first | (go_at_call 63; refine PS.out.mono ?_; rintro e w5 ⟨rfl, hbel⟩)))
  have b5 := (hbel.block w.heap.size (Array.getElem?_eq_some_iff.1 BW.out).1).trans BW.out
  have B5 := Lib.hid (AL.out.trans (show Below w.heap.size W w5 from (Below.trans (show Below W.heap.size W W.drew from ⟨rfl, rfl, rfl, Nat.le_refl _, fun _ _ => rfl⟩) hbel).mono AL.out.size))
  have g5 := (hbel.cell (p := ⟨5, 0, none⟩) (World.block_lt_of_cell? W _ GG.out)).trans GG.out
  obtain ⟨⟨d0, fd0⟩, ⟨d1, fd1⟩, ⟨d2, fd2⟩, ⟨d3, fd3⟩, ⟨d4, fd4⟩, ⟨d5, fd5⟩, ⟨d6, fd6⟩⟩ := cells7 b5
  have b6 := (alloc_old w5 (.cells #[.string ⟨#[112, 97, 114, 99, 101, 108]⟩, .iface 221 (.pointer (some (A 4)))] 195) w.heap.size (Array.getElem?_eq_some_iff.1 b5).1).trans b5
  have lt5 : w.heap.size < w5.heap.size := (Array.getElem?_eq_some_iff.1 b5).1
  obtain ⟨⟨e0, fe0⟩, ⟨e1, fe1⟩, ⟨e2, fe2⟩, ⟨e3, fe3⟩, ⟨e4, fe4⟩, ⟨e5, fe5⟩, ⟨e6, fe6⟩⟩ := cells7 b6
  have B5h := Lib.hid (show W.heap.size ≤ w5.heap.size from hbel.size)
  clear hbel
  go_wp2_with fail
  refine (wrongAt_any _ _ _).mono ?_
  rintro e w6 ⟨rfl, rfl⟩
  have E7 := Lib.hid (stored7 b6 (.int .i64 0) (.int .i64 0) (.int .i64 0) (.int .i64 0) (.slice none 0 0) (.int .i64 0) (.int .u64 0))
  have LT := Lib.hid lt5
  clear b5 b6 lt5
  go_wp2_with fail
  obtain ⟨z7, k7, -⟩ := E7.out
  obtain ⟨⟨g0, -⟩, ⟨g1, -⟩, ⟨g2, -⟩, ⟨g3, -⟩, ⟨g4, -⟩, ⟨g5, -⟩, ⟨g6, -⟩⟩ := cells7 z7
  have n7 := (k7.block w5.heap.size (by rw [size_alloc1]; omega) (by have := LT.out; simp; omega)).trans (heap_alloc_new w5 (.cells #[.string ⟨#[112, 97, 114, 99, 101, 108]⟩, .iface 221 (.pointer (some (A 4)))] 195))
  have hB := below_kept (below_one B5.out (.cells #[.string ⟨#[112, 97, 114, 99, 101, 108]⟩, .iface 221 (.pointer (some (A 4)))] 195)) k7 (by simp) (Nat.le_refl _)
  refine bodyPost_ret (v := .tuple #[ZV, .iface 193 (.pointer (some ⟨w5.heap.size, 0, none⟩))]) ?res rfl ?post
  case res => simp [results, Tryz.results19, go_sem, ZV, g0, g1, g2, g3, g4, g5, g6]
  case post => exact ⟨_, rfl, ⟨_, _, rfl, n7, rfl⟩, hB⟩

end Go.Proofs.YtpidjmgapiekaaaGreatDoor
