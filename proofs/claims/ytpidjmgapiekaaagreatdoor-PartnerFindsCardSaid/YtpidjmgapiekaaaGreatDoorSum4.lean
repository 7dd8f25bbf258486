/- This text proves what the last bytes of a packet are, over the loaded program. -/
import Derived.Test.YtpidjmgapiekaaaGreatDoorTal
namespace Go.Proofs.YtpidjmgapiekaaaGreatDoor
open Go.RowKit Go.WideShapes
set_option linter.unusedSimpArgs false

theorem shortI_range (x : Int) : 0 ≤ Tal.shortI x ∧ Tal.shortI x < 4294967296 := by
  unfold Tal.shortI Go.bits
  simp only [IntKind.wrap, IntKind.signed, IntKind.bits, Bool.false_and, Bool.false_eq_true, if_false]
  omega
/-- A sum's four bytes, the least first. -/
def le4 (n : Nat) : List UInt8 := [UInt8.ofNat (n % 256), UInt8.ofNat (n / 256 % 256), UInt8.ofNat (n / 65536 % 256), UInt8.ofNat (n / 16777216 % 256)]
def sum4 (l : List UInt8) : List UInt8 := le4 (Tal.shortI (Tal.addL 14695981039346656037 l)).toNat

theorem cv4 (w : World) (n : Nat) (hn : n < 4294967296) : (convert 144 9 (.slice (some ⟨w.heap.size, 0, none⟩) 4 4)).run Tryz.prog (w.alloc (.cells #[.int .u8 ((n : Int) % 256), .int .u8 ((n : Int) / 256 % 256), .int .u8 ((n : Int) / 65536 % 256), .int .u8 ((n : Int) / 16777216)] 5)) =
    .ok (.string (strB (le4 n))) (w.alloc (.cells #[.int .u8 ((n : Int) % 256), .int .u8 ((n : Int) / 256 % 256), .int .u8 ((n : Int) / 65536 % 256), .int .u8 ((n : Int) / 16777216)] 5)) := by
  have hb := heap_alloc_new w (.cells #[.int .u8 ((n : Int) % 256), .int .u8 ((n : Int) / 256 % 256), .int .u8 ((n : Int) / 65536 % 256), .int .u8 ((n : Int) / 16777216)] 5)
  refine run_convert_bytes_back _ 144 9 5 ⟨w.heap.size, 0, none⟩ 4 (le4 n) Tryz.underlying144 Tryz.underlying5 Tryz.underlying9 (fun j hj => ?_)
  rw [add_plain]
  simp only [World.cell?, hb]
  simp only [le4, List.length_cons, List.length_nil] at hj
  have hjs : j = 0 ∨ j = 1 ∨ j = 2 ∨ j = 3 := by omega
  rcases hjs with rfl | rfl | rfl | rfl
  all_goals
    simp only [le4, List.getElem_cons_zero, List.getElem_cons_succ]
    rw [byte_ofNat (by omega)]
    simp
    try omega

set_option maxRecDepth 100000 in
set_option maxHeartbeats 3200000 in
theorem psum_any (t : ByteArray) (w : World) (ht : t.size ≤ maxLen) : Calls Tryz.prog 63 #[.string t] w fun e w' => e = .returned (.string (strB (sum4 t.data.toList))) ∧ Below w.heap.size w w' := by
  have SH := Lib.hid (Tal.short_any t w ht)
  obtain ⟨r0, r1⟩ := shortI_range (Tal.addL 14695981039346656037 t.data.toList)
  unfold sum4
  generalize Tal.shortI (Tal.addL 14695981039346656037 t.data.toList) = x at *
  obtain ⟨n, rfl⟩ : ∃ n : Nat, x = n := ⟨x.toNat, by omega⟩
  have hmk : ∀ w : World, (Instr.makeSlice 144 (.int .i64 4) (.int .i64 4)).run Tryz.prog w = .ok (.slice (some ⟨w.heap.size, 0, none⟩) 4 4) (w.alloc (.cells #[.int .u8 0, .int .u8 0, .int .u8 0, .int .u8 0] 5)) := fun w => make_bytes w 4 (by omega)
  go_enter Tryz.func63, Tryz.ntmps63
  go_wp2_with fail
  refine SH.out.mono ?_
  rintro e w1 ⟨rfl, hb1⟩
  have B1 := Lib.hid hb1
  clear hb1
  go_wp2_with fail
  refine wp_loop_rounds 5 ?_
  rw [rounds_succ]
  go_wp2
  rw [rounds_succ]
  go_wp2
  rw [rounds_succ]
  go_wp2
  rw [rounds_succ]
  go_wp2
  rw [rounds_succ]
  have c4 := cv4 w1 n (by omega)
  go_wp2_with fail
  go_ret
  exact ⟨rfl, below_one B1.out _⟩

end Go.Proofs.YtpidjmgapiekaaaGreatDoor
