/- This text proves what Decode answers, over the loaded program. -/
import Derived.Test.YtpidjmgapiekaaaGreatDoorDec2
import Derived.Test.YtpidjmgapiekaaaGreatDoorDecPlain
import Derived.Test.YtpidjmgapiekaaaGreatDoorNum0
namespace Go.Proofs.YtpidjmgapiekaaaGreatDoor
open Go.RowKit Go.WideShapes
set_option linter.unusedSimpArgs false

def ZV : Value := .agg #[.int .i64 0, .int .i64 0, .int .i64 0, .int .i64 0, .slice none 0 0, .int .i64 0, .int .u64 0]
def DecBad (A : Nat → Addr) (j : Nat) (w : World) (e : Ending) (w' : World) : Prop := ∃ v, e = .returned (.tuple #[ZV, v]) ∧ WrapsT w' v (A j) ∧ Below w.heap.size w w'

theorem w2_cell0 (w : World) (cs : Array Value) (b : Obj) (T : TypeId) (j : Nat) : ((w.alloc (.cells cs T)).alloc b).cell? ⟨w.heap.size, j, none⟩ = cs[j]? := by
  have e := (alloc_old (w.alloc (.cells cs T)) b w.heap.size (by rw [size_alloc1]; omega)).trans (heap_alloc_new w (.cells cs T))
  simp only [World.cell?, e]
  rfl
set_option maxRecDepth 100000 in
set_option maxHeartbeats 6400000 in
theorem dec_long (A : Nat → Addr) (s : ByteArray) (w : World) (hA : s_Apart 5 w A) (hs : 512 < s.size) (hm : s.size ≤ 100000) : Calls Tryz.prog 19 #[.string s] w (DecBad A 2 w) := by
  have g2 : w.cell? ⟨3, 0, none⟩ = some (.iface 221 (.pointer (some (A 2)))) := (hA.1 2 (by decide)).1
  have al := (Below.refl w.heap.size w).alloc (Nat.le_refl _) (.cells #[.int .i64 0, .int .i64 0, .int .i64 0, .int .i64 0, .slice none 0 0, .int .i64 0, .int .u64 0] 57)
  have g2' := (al.cell (p := ⟨3, 0, none⟩) (World.block_lt_of_cell? w _ g2)).trans g2
  have q : (512 : Int) < (s.size : Int) := by omega
  have q2 : (s.size : Int) ≤ 100000 := by omega
  have AL := Lib.hid al
  clear hA al
  go_enter Tryz.func19, Tryz.ntmps19
  go_wp2_with fail
  refine (wrongAt_any _ _ _).mono ?_
  rintro e w2 ⟨rfl, rfl⟩
  obtain ⟨W, hW⟩ : ∃ W, w.alloc (.cells #[.int .i64 0, .int .i64 0, .int .i64 0, .int .i64 0, .slice none 0 0, .int .i64 0, .int .u64 0] 57) = W := ⟨_, rfl⟩
  have F : Hid (WrapsT (W.alloc (.cells #[.string ⟨#[112, 97, 114, 99, 101, 108]⟩, .iface 221 (.pointer (some (A 2)))] 195)) (.iface 193 (.pointer (some ⟨W.heap.size, 0, none⟩))) (A 2)) := Lib.hid ⟨_, _, rfl, heap_alloc_new _ _, rfl⟩
  have FB := Lib.hid (below_two w (.cells #[.int .i64 0, .int .i64 0, .int .i64 0, .int .i64 0, .slice none 0 0, .int .i64 0, .int .u64 0] 57) (.cells #[.string ⟨#[112, 97, 114, 99, 101, 108]⟩, .iface 221 (.pointer (some (A 2)))] 195))
  rw [← hW] at F
  clear hW
  go_wp2_with fail
  have F2 := F.out
  rw [size_alloc1] at F2
  have z0 := fun j => w2_cell0 w #[.int .i64 0, .int .i64 0, .int .i64 0, .int .i64 0, .slice none 0 0, .int .i64 0, .int .u64 0] (.cells #[.string ⟨#[112, 97, 114, 99, 101, 108]⟩, .iface 221 (.pointer (some (A 2)))] 195) 61 j
  exact bodyPost_ret (v := .tuple #[ZV, .iface 193 (.pointer (some ⟨w.heap.size + 1, 0, none⟩))]) (by simp [results, Tryz.results19, go_sem, z0, ZV]) rfl ⟨_, rfl, F2, FB.out⟩

set_option maxRecDepth 100000 in
set_option maxHeartbeats 6400000 in
theorem dec_short (A : Nat → Addr) (s : ByteArray) (w : World) (hA : s_Apart 5 w A) (hs : s.size < 6) : Calls Tryz.prog 19 #[.string s] w (DecBad A 0 w) := by
  have g0 : w.cell? ⟨4, 0, none⟩ = some (.iface 221 (.pointer (some (A 0)))) := (hA.1 0 (by decide)).1
  have al := (Below.refl w.heap.size w).alloc (Nat.le_refl _) (.cells #[.int .i64 0, .int .i64 0, .int .i64 0, .int .i64 0, .slice none 0 0, .int .i64 0, .int .u64 0] 57)
  have g0' := (al.cell (p := ⟨4, 0, none⟩) (World.block_lt_of_cell? w _ g0)).trans g0
  have q : (s.size : Int) < 6 := by omega
  have AL := Lib.hid al
  clear hA al
  go_enter Tryz.func19, Tryz.ntmps19
  go_wp2_with fail
  refine (wrongAt_any _ _ _).mono ?_
  rintro e w2 ⟨rfl, rfl⟩
  obtain ⟨W, hW⟩ : ∃ W, w.alloc (.cells #[.int .i64 0, .int .i64 0, .int .i64 0, .int .i64 0, .slice none 0 0, .int .i64 0, .int .u64 0] 57) = W := ⟨_, rfl⟩
  have F : Hid (WrapsT (W.alloc (.cells #[.string ⟨#[112, 97, 114, 99, 101, 108]⟩, .iface 221 (.pointer (some (A 0)))] 195)) (.iface 193 (.pointer (some ⟨W.heap.size, 0, none⟩))) (A 0)) := Lib.hid ⟨_, _, rfl, heap_alloc_new _ _, rfl⟩
  have FB := Lib.hid (below_two w (.cells #[.int .i64 0, .int .i64 0, .int .i64 0, .int .i64 0, .slice none 0 0, .int .i64 0, .int .u64 0] 57) (.cells #[.string ⟨#[112, 97, 114, 99, 101, 108]⟩, .iface 221 (.pointer (some (A 0)))] 195))
  rw [← hW] at F
  clear hW
  go_wp2_with fail
  have F2 := F.out
  rw [size_alloc1] at F2
  have z0 := fun j => w2_cell0 w #[.int .i64 0, .int .i64 0, .int .i64 0, .int .i64 0, .slice none 0 0, .int .i64 0, .int .u64 0] (.cells #[.string ⟨#[112, 97, 114, 99, 101, 108]⟩, .iface 221 (.pointer (some (A 0)))] 195) 61 j
  exact bodyPost_ret (v := .tuple #[ZV, .iface 193 (.pointer (some ⟨w.heap.size + 1, 0, none⟩))]) (by simp [results, Tryz.results19, go_sem, z0, ZV]) rfl ⟨_, rfl, F2, FB.out⟩

set_option maxRecDepth 100000 in
set_option maxHeartbeats 6400000 in
theorem dec_magic (A : Nat → Addr) (s : ByteArray) (w : World) (hA : s_Apart 5 w A) (hs : 6 ≤ s.size) (hm : s.size ≤ 512) (h0 : s.data.toList.getD 0 0 ≠ 80) : Calls Tryz.prog 19 #[.string s] w (DecBad A 0 w) := by
  have g0 : w.cell? ⟨4, 0, none⟩ = some (.iface 221 (.pointer (some (A 0)))) := (hA.1 0 (by decide)).1
  have al := (Below.refl w.heap.size w).alloc (Nat.le_refl _) (.cells #[.int .i64 0, .int .i64 0, .int .i64 0, .int .i64 0, .slice none 0 0, .int .i64 0, .int .u64 0] 57)
  have g0' := (al.cell (p := ⟨4, 0, none⟩) (World.block_lt_of_cell? w _ g0)).trans g0
  have q : (6 : Int) ≤ (s.size : Int) := by omega
  have q2 : (s.size : Int) ≤ 512 := by omega
  have q1 : 0 < s.size := by omega
  have hlen : s.data.toList.length = s.size := rfl
  have hb : s.data.toList.getD 0 0 = s[0]'q1 := by rw [List.getD_eq_getElem?_getD, List.getElem?_eq_getElem (by rw [hlen]; exact q1)]; rfl
  have q5 : (((s[0]'q1).toNat : Int) != 80) = true := by
    rw [hb] at h0
    simp only [bne_iff_ne, ne_eq]
    intro e
    have h80 : (80 : UInt8).toNat = 80 := rfl
    exact h0 (UInt8.toNat_inj.1 (by omega))
  have q6 : (0 : Int) < (s.size : Int) := by omega
  clear hb h0 hlen
  have AL := Lib.hid al
  clear hA al
  go_enter Tryz.func19, Tryz.ntmps19
  go_wp2_with fail
  refine (wrongAt_any _ _ _).mono ?_
  rintro e w2 ⟨rfl, rfl⟩
  obtain ⟨W, hW⟩ : ∃ W, w.alloc (.cells #[.int .i64 0, .int .i64 0, .int .i64 0, .int .i64 0, .slice none 0 0, .int .i64 0, .int .u64 0] 57) = W := ⟨_, rfl⟩
  have F : Hid (WrapsT (W.alloc (.cells #[.string ⟨#[112, 97, 114, 99, 101, 108]⟩, .iface 221 (.pointer (some (A 0)))] 195)) (.iface 193 (.pointer (some ⟨W.heap.size, 0, none⟩))) (A 0)) := Lib.hid ⟨_, _, rfl, heap_alloc_new _ _, rfl⟩
  have FB := Lib.hid (below_two w (.cells #[.int .i64 0, .int .i64 0, .int .i64 0, .int .i64 0, .slice none 0 0, .int .i64 0, .int .u64 0] 57) (.cells #[.string ⟨#[112, 97, 114, 99, 101, 108]⟩, .iface 221 (.pointer (some (A 0)))] 195))
  rw [← hW] at F
  clear hW
  go_wp2_with fail
  have F2 := F.out
  rw [size_alloc1] at F2
  have z0 := fun j => w2_cell0 w #[.int .i64 0, .int .i64 0, .int .i64 0, .int .i64 0, .slice none 0 0, .int .i64 0, .int .u64 0] (.cells #[.string ⟨#[112, 97, 114, 99, 101, 108]⟩, .iface 221 (.pointer (some (A 0)))] 195) 61 j
  exact bodyPost_ret (v := .tuple #[ZV, .iface 193 (.pointer (some ⟨w.heap.size + 1, 0, none⟩))]) (by simp [results, Tryz.results19, go_sem, z0, ZV]) rfl ⟨_, rfl, F2, FB.out⟩

end Go.Proofs.YtpidjmgapiekaaaGreatDoor
