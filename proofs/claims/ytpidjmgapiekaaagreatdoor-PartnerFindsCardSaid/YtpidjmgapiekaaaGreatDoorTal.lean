/- This text proves what the program's sums of bytes (package tally) and the reference's compute, over the loaded program. -/
import Derived.Test.YtpidjmgapiekaaaGreatDoorMisc
namespace Go.Proofs.YtpidjmgapiekaaaGreatDoor.Tal
open Go.RowKit

theorem u64_wrap (x : Int) : IntKind.u64.wrap x = x % 18446744073709551616 := rfl

theorem s_take_snoc (s : ByteArray) (k : Nat) (h : k < s.size) : s.data.toList.take (k + 1) = s.data.toList.take k ++ [s[k]] := by
  rw [List.take_succ_eq_append_getElem (by simpa using h)]; rfl

def stepI (s b : Int) : Int := IntKind.u64.wrap ((Go.bits .xor .u64 s b) * 1099511628211)

def addL (s : Int) (l : List UInt8) : Int := l.foldl (fun s c => stepI s (c.toNat : Int)) s

theorem addL_snoc (s : Int) (l : List UInt8) (c : UInt8) : addL s (l ++ [c]) = stepI (addL s l) (c.toNat : Int) := by simp [addL]

theorem addL_append (s : Int) (l k : List UInt8) : addL s (l ++ k) = addL (addL s l) k := by simp [addL]

def addLs (s : Int) (l : List ByteArray) : Int := l.foldl (fun s t => addL s t.data.toList) s

theorem addLs_take (s : Int) (l : List ByteArray) (k : Nat) (h : k < l.length) : addLs s (l.take (k + 1)) = addL (addLs s (l.take k)) l[k].data.toList := by
  unfold addLs
  rw [List.take_succ_eq_append_getElem h, List.foldl_append]
  rfl

def shortI (x : Int) : Int := Go.bits .xor .u32 (x % 4294967296) ((x / 4294967296) % 4294967296)

def IsT (w : World) (g : Nat) (s : Int) : Prop := w.heap[g]? = some (.cells #[.int .u64 s] 218 (0, 0))

theorem IsT.cell {w : World} {g : Nat} {s : Int} (h : IsT w g s) : w.cell? ⟨g, 0, none⟩ = some (.int .u64 s) := by simp [World.cell?, show w.heap[g]? = _ from h]

theorem IsT.frozen {w : World} {g : Nat} {s : Int} (h : IsT w g s) : w.frozen? ⟨g, 0, none⟩ = false := by simp [World.frozen?, show w.heap[g]? = _ from h]

theorem IsT.set {w : World} {g : Nat} {s : Int} (h : IsT w g s) (x : Int) : IsT (w.setCell ⟨g, 0, none⟩ (.int .u64 x)) g x := by
  have hl := (Array.getElem?_eq_some_iff.1 (show w.heap[g]? = _ from h)).1
  unfold IsT World.setCell
  simp only [Array.getElem?_modify, if_true]
  rw [show w.heap[g]? = _ from h]
  rfl

theorem byte_ge (c : UInt8) : (0 : Int) ≤ (c.toNat : Int) := by omega

theorem byte_le (c : UInt8) : (c.toNat : Int) ≤ 255 := by have := c.toNat_lt; omega

set_option maxRecDepth 100000 in
set_option maxHeartbeats 400000 in
theorem step_any (s b : Int) (w : World) (h0 : 0 ≤ b) (h1 : b ≤ 255) :
    Calls Tryz.prog 170 #[.int .u64 s, .int .u8 b] w fun e w' => e = .returned (.int .u64 (stepI s b)) ∧ w = w' := by
  go_enter Tryz.func170, Tryz.ntmps170
  go_wp2
  go_ret
  exact ⟨rfl, rfl⟩

theorem step_still (s b : Int) (w : World) (h0 : 0 ≤ b) (h1 : b ≤ 255) :
    Calls Tryz.prog 170 #[.int .u64 s, .int .u8 b] w fun e w' => e = .returned (.int .u64 (stepI s b)) ∧ w' = w :=
  (step_any s b w h0 h1).mono fun _ _ h => ⟨h.1, h.2.symm⟩

set_option maxRecDepth 100000 in
set_option maxHeartbeats 400000 in
theorem sum_any (g : Nat) (s : Int) (w : World) (h : IsT w g s) :
    Calls Tryz.prog 161 #[.pointer (some ⟨g, 0, none⟩)] w fun e w' => e = .returned (.int .u64 s) ∧ w = w' := by
  have hc := h.cell
  clear h
  go_enter Tryz.func161, Tryz.ntmps161
  go_wp2
  go_ret
  exact ⟨rfl, rfl⟩

def AddPost (w : World) (g : Nat) (x : Int) (w' : World) : Prop := IsT w' g x ∧ w.grownBy w' (some g)

set_option maxRecDepth 100000 in
set_option maxHeartbeats 400000 in
theorem add_any (g : Nat) (s : Int) (t : ByteArray) (w : World) (h : IsT w g s) (ht : t.size ≤ maxLen) :
    Calls Tryz.prog 160 #[.pointer (some ⟨g, 0, none⟩), .string t] w fun e w' => e = .returned (.tuple #[]) ∧ AddPost w g (addL s t.data.toList) w' := by
  unfold maxLen at ht
  go_enter Tryz.func160, Tryz.ntmps160
  go_wp2
  go_loopw [4, 9] (fun _ i wr => ∃ k : Nat, k ≤ t.size ∧ i = .int .i64 k ∧ IsT wr g (addL s (t.data.toList.take k)) ∧ w.grownBy wr (some g)) (fun _ i _ => t.size - (intOf i).toNat)
  case atStart => exact ⟨0, Nat.zero_le _, rfl, by simpa [addL] using h, grown_refl _ _⟩
  case round =>
    obtain ⟨k, hk, rfl, hT, hG⟩ := hrel
    by_cases hlt : k < t.size
    · have hc := hT.cell
      have hf := hT.frozen
      have hi1 : (0 : Int) ≤ (k : Int) := by omega
      have hi2 : (k : Int) < (t.size : Int) := by omega
      have HT := Lib.hid hT
      clear hT
      go_wp2_with fail
      go_still_tail 11, (by kernel_rfl)
      still_call (step_still _ _ _ (byte_ge _) (byte_le _))
      repeat still_step
      refine wpStill_nil ?_
      change wpList _ _ _ _ _ wr.drew
      go_wp2
      have HG := Lib.hid hG
      clear hG
      go_roundw
      case rel => exact ⟨k + 1, by omega, by go_num, by rw [s_take_snoc _ _ hlt, addL_snoc]; exact HT.out.set _, grown_drew (grown_trans HG.out (grown_set _ _ _ _))⟩
      case measure => simp [intOf]; omega
    · have e : t.data.toList.take k = t.data.toList := List.take_of_length_le (by simp; omega)
      rw [e] at hT
      go_wp2
      go_end0
      exact ⟨rfl, hT, hG⟩

def NewPost (w : World) (e : Ending) (w' : World) : Prop := e = .returned (.pointer (some ⟨w.heap.size, 0, none⟩)) ∧ w' = w.alloc (.cells #[.int .u64 14695981039346656037] 218)

theorem isT_new (w : World) (s : Int) : IsT (w.alloc (.cells #[.int .u64 s] 218)) w.heap.size s := heap_alloc_new w _

set_option maxRecDepth 100000 in
set_option maxHeartbeats 400000 in
theorem s_new_any (w : World) :
    Calls Tryz.prog 159 #[] w (NewPost w) := by
  go_enter Tryz.func159, Tryz.ntmps159
  go_wp2
  go_ret
  exact ⟨rfl, rfl⟩

set_option maxRecDepth 100000 in
set_option maxHeartbeats 800000 in
theorem of_any (A : Option Addr) (c : Nat) (l : List ByteArray) (w : World) (hl : l.length ≤ maxLen) (hs : ∀ t ∈ l, t.size ≤ maxLen) (hA : Cells w A (l.map Value.string)) :
    Calls Tryz.prog 144 #[.slice A l.length c] w fun e w' => e = .returned (.int .u64 (addLs 14695981039346656037 l)) ∧ Below w.heap.size w w' := by
  unfold maxLen at hl
  go_enter Tryz.func144, Tryz.ntmps144
  go_wp2_with (go_at_call 159; refine (s_new_any _).mono ?_; rintro e w1 ⟨rfl, rfl⟩)
  go_loopw [5, 9] (fun _ i wr => ∃ k : Nat, k ≤ l.length ∧ i = .int .i64 k ∧ IsT wr w.heap.size (addLs 14695981039346656037 (l.take k)) ∧ Below w.heap.size w wr) (fun _ i _ => l.length - (intOf i).toNat)
  case atStart => exact ⟨0, Nat.zero_le _, rfl, by simpa [addLs] using isT_new w _, (Below.refl _ _).alloc (Nat.le_refl _) _⟩
  case round =>
    obtain ⟨k, hk, rfl, hT, hB⟩ := hrel
    by_cases hlt : k < l.length
    · obtain ⟨b, o, rfl, hc⟩ := (hA.below hB) k (.string l[k]) (by simp [hlt])
      have hi1 : (0 : Int) ≤ (k : Int) := by omega
      have hi2 : (k : Int) < (l.length : Int) := by omega
      have ht := hs l[k] (List.getElem_mem hlt)
      have HT := Lib.hid hT
      have HB := Lib.hid hB
      clear hT hB hA
      go_wp2_with (go_at_call 160; refine (add_any _ _ _ _ HT.out ht).mono ?_; rintro e w' ⟨rfl, hp⟩)
      go_roundw
      case rel => exact ⟨k + 1, by omega, by go_num, by rw [addLs_take _ _ _ hlt]; exact hp.1, below_grown HB.out hp.2 (Nat.le_refl _)⟩
      case measure => simp [intOf]; omega
    · have e : l.take k = l := List.take_of_length_le (by omega)
      rw [e] at hT
      go_wp2_with (go_at_call 161; refine (sum_any _ _ _ hT).mono ?_; rintro e w' ⟨rfl, rfl⟩)
      go_ret
      exact ⟨rfl, hB⟩

theorem of_one (t : ByteArray) (w : World) (T : TypeId) (g c : Nat) (hg : g = w.heap.size) (ht : t.size ≤ maxLen) :
    Calls Tryz.prog 144 #[.slice (some ⟨g, 0, none⟩) 1 c] (w.alloc (.cells #[.string t] T)) fun e w' => e = .returned (.int .u64 (addL 14695981039346656037 t.data.toList)) ∧ Below w.heap.size w w' := by
  subst hg
  refine (of_any (some ⟨w.heap.size, 0, none⟩) c [t] _ (by simp [maxLen]) (by simpa using ht) (cells_one w _ T)).mono ?_
  rintro e w' ⟨rfl, hb⟩
  exact ⟨by simp [addLs], ((Below.refl _ _).alloc (Nat.le_refl _) _).trans (hb.mono (by simp))⟩

set_option maxRecDepth 100000 in
set_option maxHeartbeats 400000 in
theorem short_any (t : ByteArray) (w : World) (ht : t.size ≤ maxLen) :
    Calls Tryz.prog 116 #[.string t] w fun e w' => e = .returned (.int .u32 (shortI (addL 14695981039346656037 t.data.toList))) ∧ Below w.heap.size w w' := by
  go_enter Tryz.func116, Tryz.ntmps116
  go_wp2_with fail
  refine (of_one t w _ _ _ rfl ht).mono ?_
  rintro e w' ⟨rfl, hb⟩
  go_wp2
  go_ret
  exact ⟨rfl, hb⟩

end Go.Proofs.YtpidjmgapiekaaaGreatDoor.Tal
