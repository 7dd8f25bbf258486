/- This text holds small laws that the packets' texts want, over any program. -/
import Derived.Test.YtpidjmgapiekaaaGreatDoorWriter3
import Derived.Test.YtpidjmgapiekaaaGreatDoorReader5
namespace Go.Proofs.YtpidjmgapiekaaaGreatDoor
open Go.RowKit Go.WideShapes

def In64 (n : Int) : Prop := -9223372036854775808 ≤ n ∧ n ≤ 9223372036854775807
theorem size_alloc1 (w : World) (o : Obj) : (w.alloc o).heap.size = w.heap.size + 1 := by
  show (w.heap.push _).size = _
  exact Array.size_push _
theorem below_two (w : World) (a b : Obj) : Below w.heap.size w ((w.alloc a).alloc b) := ((Below.refl w.heap.size w).alloc (Nat.le_refl _) a).alloc (by rw [size_alloc1]; omega) b
theorem alloc_old (w : World) (o : Obj) (b : Nat) (h : b < w.heap.size) : (w.alloc o).heap[b]? = w.heap[b]? := ((Below.refl w.heap.size w).alloc (Nat.le_refl _) o).block b h
theorem below_one {w0 w : World} (h : Below w0.heap.size w0 w) (o : Obj) : Below w0.heap.size w0 (w.alloc o) := h.trans (((Below.refl _ _).alloc (Nat.le_refl _) _).mono h.size)
theorem zig_lt (n : Int) (h : In64 n) : zig n < 18446744073709551616 := by
  obtain ⟨h1, h2⟩ := h
  unfold zig
  split <;> omega
theorem strB_size (a : List UInt8) : (strB a).size = a.length := by simp [strB, ByteArray.size]
theorem strB_append (a b : List UInt8) : strB a ++ strB b = strB (a ++ b) := by
  apply ByteArray.ext
  simp [strB]
theorem small_cat (a b : List UInt8) (h : a.length + b.length ≤ 1000000000) : ¬ 9223372036854775807 < (strB a).size + (strB b).size := by rw [strB_size, strB_size]; omega

end Go.Proofs.YtpidjmgapiekaaaGreatDoor
