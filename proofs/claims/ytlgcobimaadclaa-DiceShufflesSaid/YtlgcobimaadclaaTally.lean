/- This text proves what the program's sums of bytes (package tally) compute, function by function, over the loaded program. -/
import Derived.Test.YtlgcobimaadclaaChecked
import Derived.Test.YtlgcobimaadclaaPlain
import Derived.Test.YtlgcobimaadclaaBase
import Derived.WalkKit
import Derived.WalkLawsBesides
import Derived.WalkSpells
import Derived.IntWalk
import Derived.KernelRfl
import Derived.Lib.Hide
import Derived.BigQuiet
import Derived.StillTailTactics
import Derived.Deep.QuietTactic
import Derived.Deep.LoopGhost
import Derived.Deep.RegionHeld3
import Derived.Lib.ConvBytes
import Derived.Laws.BytesArg
namespace Go.Proofs.Ytlgcobimaadclaa
open Go.RowKit

/-- A sum that goes on lies in block g. -/
def IsT (w : World) (g : Nat) (s : Int) : Prop := w.heap[g]? = some (.cells #[.int .u64 s] 64 (0, 0))

theorem IsT.cell {w : World} {g : Nat} {s : Int} (h : IsT w g s) : w.cell? ⟨g, 0, none⟩ = some (.int .u64 s) := by simp [World.cell?, show w.heap[g]? = _ from h]
theorem IsT.frozen {w : World} {g : Nat} {s : Int} (h : IsT w g s) : w.frozen? ⟨g, 0, none⟩ = false := by simp [World.frozen?, show w.heap[g]? = _ from h]
theorem IsT.set {w : World} {g : Nat} {s : Int} (h : IsT w g s) (x : Int) : IsT (w.setCell ⟨g, 0, none⟩ (.int .u64 x)) g x := by
  have hl := (Array.getElem?_eq_some_iff.1 (show w.heap[g]? = _ from h)).1
  unfold IsT World.setCell
  simp only [Array.getElem?_modify, if_true]
  rw [show w.heap[g]? = _ from h]
  rfl

theorem byte_ge (c : UInt8) : (0 : Int) ≤ (c.toNat : Int) := by omega
theorem byte_le (c : UInt8) : (c.toNat : Int) ≤ 255 := by have := c.toNat_lt; omega

set_option maxHeartbeats 400000 in
theorem step_any (s b : Int) (w : World) (h0 : 0 ≤ b) (h1 : b ≤ 255) :
    Calls Try.prog 36 #[.int .u64 s, .int .u8 b] w fun e w' => e = .returned (.int .u64 (stepI s b)) ∧ w = w' := by
  go_enter Try.func36, Try.ntmps36
  go_wp2
  go_ret
  exact ⟨rfl, rfl⟩

theorem step_still (s b : Int) (w : World) (h0 : 0 ≤ b) (h1 : b ≤ 255) :
    Calls Try.prog 36 #[.int .u64 s, .int .u8 b] w fun e w' => e = .returned (.int .u64 (stepI s b)) ∧ w' = w :=
  (step_any s b w h0 h1).mono fun _ _ h => ⟨h.1, h.2.symm⟩

set_option maxHeartbeats 400000 in
theorem sum_any (g : Nat) (s : Int) (w : World) (h : IsT w g s) :
    Calls Try.prog 18 #[.pointer (some ⟨g, 0, none⟩)] w fun e w' => e = .returned (.int .u64 s) ∧ w = w' := by
  have hc := h.cell
  clear h
  go_enter Try.func18, Try.ntmps18
  go_wp2
  go_ret
  exact ⟨rfl, rfl⟩

theorem sum_nil (w : World) :
    Calls Try.prog 18 #[.pointer none] w fun e w' => e = .returned (.int .u64 14695981039346656037) ∧ w = w' := by
  go_enter Try.func18, Try.ntmps18
  go_wp2
  go_ret
  exact ⟨rfl, rfl⟩

def AddPost (w : World) (g : Nat) (x : Int) (w' : World) : Prop := IsT w' g x ∧ w.grownBy w' (some g)

set_option maxHeartbeats 400000 in
theorem add_any (g : Nat) (s : Int) (t : ByteArray) (w : World) (h : IsT w g s) (ht : t.size ≤ maxLen) :
    Calls Try.prog 17 #[.pointer (some ⟨g, 0, none⟩), .string t] w fun e w' => e = .returned (.tuple #[]) ∧ AddPost w g (addL s t.data.toList) w' := by
  unfold maxLen at ht
  go_enter Try.func17, Try.ntmps17
  go_wp2
  go_loopw [4, 9] (fun _ i wr => ∃ k : Nat, k ≤ t.size ∧ i = .int .i64 k ∧ IsT wr g (addL s (t.data.toList.take k)) ∧ w.grownBy wr (some g)) (fun _ i _ => t.size - (intOf i).toNat)
  case atStart => exact ⟨0, Nat.zero_le _, rfl, by simpa [addL] using h, grown_refl _ _⟩
  case round =>
    obtain ⟨k, hk, rfl, hT, hG⟩ := hrel
    by_cases hlt : k < t.size
    · have hc := hT.cell
      have hf := hT.frozen
      have hi1 : (0 : Int) ≤ (k : Int) := by omega
      have hi2 : (k : Int) < (t.size : Int) := by omega
      have HT := Lib.hid hT
      clear hT
      go_wp2_with fail
      go_still_tail 11, (by kernel_rfl)
      still_call (step_still _ _ _ (byte_ge _) (byte_le _))
      repeat still_step
      refine wpStill_nil ?_
      change wpList _ _ _ _ _ wr.drew
      go_wp2
      have HG := Lib.hid hG
      clear hG
      go_roundw
      case rel => exact ⟨k + 1, by omega, by go_num, by rw [take_snoc _ _ hlt, addL_snoc]; exact HT.out.set _, grown_drew (grown_trans HG.out (grown_set _ _ _ _))⟩
      case measure => simp [intOf]; omega
    · have e : t.data.toList.take k = t.data.toList := List.take_of_length_le (by simp; omega)
      rw [e] at hT
      go_wp2
      go_end0
      exact ⟨rfl, hT, hG⟩

theorem add_nil (t : ByteArray) (w : World) :
    Calls Try.prog 17 #[.pointer none, .string t] w fun e w' => e = .returned (.tuple #[]) ∧ w = w' := by
  go_enter Try.func17, Try.ntmps17
  go_wp2
  refine bodyPost_ret (results_none rfl _ _ _) rfl ?_
  exact ⟨rfl, rfl⟩

set_option maxHeartbeats 400000 in
theorem raw_any (g : Nat) (s n : Int) (w : World) (h : IsT w g s) :
    Calls Try.prog 40 #[.pointer (some ⟨g, 0, none⟩), .int .u64 n] w fun e w' => e = .returned (.tuple #[]) ∧ AddPost w g (addL s (numL n 8)) w' := by
  go_enter Try.func40, Try.ntmps40
  go_wp2
  go_loopw [4, 5] (fun _ i wr => ∃ k : Nat, k ≤ 8 ∧ i = .int .i64 k ∧ IsT wr g (addL s (numL n k)) ∧ w.grownBy wr (some g)) (fun _ i _ => 8 - (intOf i).toNat)
  case atStart => exact ⟨0, Nat.zero_le _, rfl, by simpa [addL, numL] using h, grown_refl _ _⟩
  case round =>
    obtain ⟨k, hk, rfl, hT, hG⟩ := hrel
    by_cases hlt : k < 8
    · have hc := hT.cell
      have hf := hT.frozen
      have hi1 : (0 : Int) ≤ (k : Int) := by omega
      have hi2 : (k : Int) < 8 := by omega
      have HT := Lib.hid hT
      clear hT
      go_wp2_with fail
      have hw : IntKind.i64.wrap (8 * (k : Int)) = 8 * (k : Int) := IntWalk.i64_in _ (by omega)
      have hb1 : (0 : Int) ≤ 8 * (k : Int) := by omega
      have hb2 : 8 * (k : Int) ≤ 64 := by omega
      have ht : (8 * (k : Int)).toNat = 8 * k := by omega
      go_still_tail 13, (by kernel_rfl)
      still_call (step_still _ _ _ (u8_ge _) (u8_le _))
      repeat still_step
      refine wpStill_nil ?_
      change wpList _ _ _ _ _ wr.drew
      clear hw ht
      go_wp2
      have HG := Lib.hid hG
      clear hG
      go_roundw
      case rel => exact ⟨k + 1, by omega, by go_num, by rw [numL_succ, addL_snoc, u8_of]; exact HT.out.set _, grown_drew (grown_trans HG.out (grown_set _ _ _ _))⟩
      case measure => simp [intOf]; omega
    · obtain rfl : k = 8 := by omega
      go_wp2
      go_end0
      exact ⟨rfl, hT, hG⟩

def NewPost (w : World) (e : Ending) (w' : World) : Prop := e = .returned (.pointer (some ⟨w.heap.size, 0, none⟩)) ∧ w' = w.alloc (.cells #[.int .u64 14695981039346656037] 64)

theorem isT_new (w : World) (s : Int) : IsT (w.alloc (.cells #[.int .u64 s] 64)) w.heap.size s := heap_alloc_new w _

set_option maxHeartbeats 400000 in
theorem new_any (w : World) :
    Calls Try.prog 16 #[] w (NewPost w) := by
  go_enter Try.func16, Try.ntmps16
  go_wp2
  go_ret
  exact ⟨rfl, rfl⟩

set_option maxHeartbeats 400000 in
theorem num_any (g : Nat) (s n : Int) (w : World) (h : IsT w g s) :
    Calls Try.prog 29 #[.pointer (some ⟨g, 0, none⟩), .int .i64 n] w fun e w' => e = .returned (.tuple #[]) ∧ AddPost w g (addL s (numL (IntKind.u64.wrap n) 8)) w' := by
  go_enter Try.func29, Try.ntmps29
  go_wp2_with (go_at_call 40; refine (raw_any g s (IntKind.u64.wrap n) _ h).mono ?_; rintro e w' ⟨rfl, hp⟩)
  go_end0
  exact ⟨rfl, hp⟩

theorem num_nil (n : Int) (w : World) :
    Calls Try.prog 29 #[.pointer none, .int .i64 n] w fun e w' => e = .returned (.tuple #[]) ∧ w = w' := by
  go_enter Try.func29, Try.ntmps29
  go_wp2
  refine bodyPost_ret (results_none rfl _ _ _) rfl ?_
  exact ⟨rfl, rfl⟩

set_option maxHeartbeats 800000 in
theorem of_any (A : Option Addr) (c : Nat) (l : List ByteArray) (w : World) (hl : l.length ≤ maxLen) (hs : ∀ t ∈ l, t.size ≤ maxLen) (hA : Cells w A (l.map Value.string)) :
    Calls Try.prog 19 #[.slice A l.length c] w fun e w' => e = .returned (.int .u64 (addLs 14695981039346656037 l)) ∧ Below w.heap.size w w' := by
  unfold maxLen at hl
  go_enter Try.func19, Try.ntmps19
  go_wp2_with (go_at_call 16; refine (new_any _).mono ?_; rintro e w1 ⟨rfl, rfl⟩)
  go_loopw [5, 9] (fun _ i wr => ∃ k : Nat, k ≤ l.length ∧ i = .int .i64 k ∧ IsT wr w.heap.size (addLs 14695981039346656037 (l.take k)) ∧ Below w.heap.size w wr) (fun _ i _ => l.length - (intOf i).toNat)
  case atStart => exact ⟨0, Nat.zero_le _, rfl, by simpa [addLs] using isT_new w _, (Below.refl _ _).alloc (Nat.le_refl _) _⟩
  case round =>
    obtain ⟨k, hk, rfl, hT, hB⟩ := hrel
    by_cases hlt : k < l.length
    · obtain ⟨b, o, rfl, hc⟩ := (hA.below hB) k (.string l[k]) (by simp [hlt])
      have hi1 : (0 : Int) ≤ (k : Int) := by omega
      have hi2 : (k : Int) < (l.length : Int) := by omega
      have ht := hs l[k] (List.getElem_mem hlt)
      have HT := Lib.hid hT
      have HB := Lib.hid hB
      clear hT hB hA
      go_wp2_with (go_at_call 17; refine (add_any _ _ _ _ HT.out ht).mono ?_; rintro e w' ⟨rfl, hp⟩)
      go_roundw
      case rel => exact ⟨k + 1, by omega, by go_num, by rw [addLs_take _ _ _ hlt]; exact hp.1, below_grown HB.out hp.2 (Nat.le_refl _)⟩
      case measure => simp [intOf]; omega
    · have e : l.take k = l := List.take_of_length_le (by omega)
      rw [e] at hT
      go_wp2_with (go_at_call 18; refine (sum_any _ _ _ hT).mono ?_; rintro e w' ⟨rfl, rfl⟩)
      go_ret
      exact ⟨rfl, hB⟩

/-- A text's sum, by one call. -/
theorem of_one (t : ByteArray) (w : World) (T : TypeId) (g c : Nat) (hg : g = w.heap.size) (ht : t.size ≤ maxLen) :
    Calls Try.prog 19 #[.slice (some ⟨g, 0, none⟩) 1 c] (w.alloc (.cells #[.string t] T)) fun e w' => e = .returned (.int .u64 (addL 14695981039346656037 t.data.toList)) ∧ Below w.heap.size w w' := by
  subst hg
  refine (of_any (some ⟨w.heap.size, 0, none⟩) c [t] _ (by simp [maxLen]) (by simpa using ht) (cells_one w _ T)).mono ?_
  rintro e w' ⟨rfl, hb⟩
  exact ⟨by simp [addLs], ((Below.refl _ _).alloc (Nat.le_refl _) _).trans (hb.mono (by simp))⟩

set_option maxHeartbeats 400000 in
theorem short_any (t : ByteArray) (w : World) (ht : t.size ≤ maxLen) :
    Calls Try.prog 32 #[.string t] w fun e w' => e = .returned (.int .u32 (shortI (addL 14695981039346656037 t.data.toList))) ∧ Below w.heap.size w w' := by
  go_enter Try.func32, Try.ntmps32
  go_wp2_with fail
  refine (of_one t w _ _ _ rfl ht).mono ?_
  rintro e w' ⟨rfl, hb⟩
  go_wp2
  go_ret
  exact ⟨rfl, hb⟩

set_option maxHeartbeats 800000 in
theorem mix_any (A : Option Addr) (c : Nat) (l : List Int) (w : World) (hl : l.length ≤ maxLen) (hA : Cells w A (l.map (Value.int .u64))) :
    Calls Try.prog 28 #[.slice A l.length c] w fun e w' => e = .returned (.int .u64 (mixL l)) ∧ Below w.heap.size w w' := by
  unfold maxLen at hl
  go_enter Try.func28, Try.ntmps28
  go_wp2
  go_loopw [2, 4, 5, 8] (fun s _ _ i wr => ∃ k : Nat, k ≤ l.length ∧ i = .int .i64 k ∧ s = .int .u64 (mixL (l.take k)) ∧ Below w.heap.size w wr) (fun _ _ _ i _ => l.length - (intOf i).toNat)
  case atStart => exact ⟨0, Nat.zero_le _, rfl, rfl, Below.refl _ _⟩
  case round =>
    obtain ⟨k, hk, rfl, rfl, hB⟩ := hrel
    by_cases hlt : k < l.length
    · obtain ⟨b, o, rfl, hc⟩ := (hA.below hB) k (.int .u64 l[k]) (by simp [hlt])
      have hi1 : (0 : Int) ≤ (k : Int) := by omega
      have hi2 : (k : Int) < (l.length : Int) := by omega
      have HB := Lib.hid hB
      clear hB hA
      go_wp2_with fail
      refine (new_any _).mono ?_
      rintro e w1 ⟨rfl, rfl⟩
      go_wp2_with fail
      refine (raw_any _ _ _ _ (isT_new _ _)).mono ?_
      rintro e w2 ⟨rfl, hp⟩
      have HP := Lib.hid hp
      clear hp
      go_wp2_with fail
      refine (sum_any _ _ _ HP.out.1).mono ?_
      rintro e w3 ⟨rfl, rfl⟩
      go_wp2
      go_roundw
      case rel => exact ⟨k + 1, by omega, by go_num, by rw [mixL_take _ _ hlt], HB.out.trans ((below_grown ((Below.refl _ _).alloc (Nat.le_refl _) _) HP.out.2 (Nat.le_refl _)).mono HB.out.size)⟩
      case measure => simp [intOf]; omega
    · have e : l.take k = l := List.take_of_length_le (by omega)
      rw [e]
      go_wp2
      go_ret
      exact ⟨rfl, hB⟩


theorem sum_a : addL 14695981039346656037 (ByteArray.mk #[97]).data.toList = 12638187200555641996 := by decide +kernel
theorem short_a : shortI (addL 14695981039346656037 (ByteArray.mk #[97]).data.toList) = 694300864 := by decide +kernel

theorem of_a (w : World) (T : TypeId) (c : Nat) :
    Calls Try.prog 19 #[.slice (some ⟨w.heap.size, 0, none⟩) 1 c] (w.alloc (.cells #[.string ⟨#[97]⟩] T)) fun e w' => e = .returned (.int .u64 12638187200555641996) ∧ Below w.heap.size w w' := by
  rw [← sum_a]
  exact of_one _ w T _ c rfl (by decide)

theorem of_none (w : World) :
    Calls Try.prog 19 #[.slice none 0 0] w fun e w' => e = .returned (.int .u64 14695981039346656037) ∧ Below w.heap.size w w' :=
  of_any none 0 [] w (by decide) (by simp) (fun i v h => by simp at h)

theorem short_a_any (w : World) :
    Calls Try.prog 32 #[.string ⟨#[97]⟩] w fun e w' => e = .returned (.int .u32 694300864) ∧ Below w.heap.size w w' := by
  rw [← short_a]
  exact short_any _ w (by decide)

set_option maxHeartbeats 800000 in
theorem awake_any (w : World) :
    Calls Try.prog 14 #[] w fun e w' => e = .returned (.bool true) ∧ Below w.heap.size w w' := by
  go_enter Try.func14, Try.ntmps14
  go_wp2_with fail
  refine (of_a w _ _).mono ?_
  rintro e w1 ⟨rfl, hb1⟩
  have B1 := Lib.hid hb1
  clear hb1
  go_wp2_with fail
  refine (of_none w1).mono ?_
  rintro e w2 ⟨rfl, hb2⟩
  have B2 := Lib.hid (B1.out.trans (hb2.mono B1.out.size))
  clear hb2
  go_wp2_with fail
  refine (short_a_any w2).mono ?_
  rintro e w3 ⟨rfl, hb3⟩
  have B3 := Lib.hid (B2.out.trans (hb3.mono B2.out.size))
  clear hb3
  go_wp2_with fail
  refine (new_any w3).mono ?_
  rintro e w4 ⟨rfl, rfl⟩
  go_wp2_with fail
  refine (sum_any _ _ _ (isT_new _ _)).mono ?_
  rintro e w5 ⟨rfl, rfl⟩
  have B4 := Lib.hid (B3.out.alloc B3.out.size (.cells #[.int .u64 14695981039346656037] 64))
  go_wp2_with fail
  refine (of_one ⟨#[]⟩ _ _ _ _ (by simp) (by decide)).mono ?_
  rintro e w6 ⟨rfl, hb6⟩
  have B6 := Lib.hid (B4.out.trans (hb6.mono B4.out.size))
  clear hb6
  go_wp2
  go_ret
  exact ⟨rfl, B6.out⟩

/-- A row of bytes that may be written. -/
def ByteRow (w : World) (g : Nat) (l : List UInt8) : Prop := (∀ j, j < l.length → w.cell? ⟨g, j, none⟩ = some (.int .u8 (l.getD j 0).toNat)) ∧ ∀ j, j < l.length → w.frozen? ⟨g, j, none⟩ = false

theorem conv_bytes (w : World) (s : ByteArray) : ∃ g c w2, (convert 9 37 (.string s)).run Try.prog w = .ok (.slice (some ⟨g, 0, none⟩) s.size c) w2 ∧ ByteRow w2 g s.data.toList ∧ Below w.heap.size w w2 ∧ w.heap.size ≤ g := by
  refine ⟨_, _, _, Lib.run_convert_string_bytes w 9 37 5 s Try.underlying9 Try.underlying37 Try.underlying5, ⟨fun j hj => Lib.bytesWorld_cell w 5 s j (by simpa using hj), fun j hj => ?_⟩, ⟨rfl, rfl, rfl, ?_, fun k hk => Lib.bytesWorld_at_old w 5 s k hk⟩, Nat.le_refl _⟩
  · have hl : j < (Lib.bytesCells w 5 s).size := by simp [Lib.bytesCells] at hj ⊢; omega
    simp only [World.frozen?, Lib.bytesWorld_at_new]
    simp; omega
  · rw [Lib.bytesWorld_size]; omega


theorem conv_back (w : World) (g n c : Nat) (l : List UInt8) (k : Nat) (hk : k < l.length) (hn : l.length = n) (h : ByteRow w g l) (x : Int) :
    (convert 37 9 (.slice (some ⟨g, 0, none⟩) n c)).run Try.prog (w.setCell ⟨g, k, none⟩ (.int .u8 x)) = .ok (.string (strOfNums ((l.map fun b => (b.toNat : Int)).set k x))) (w.setCell ⟨g, k, none⟩ (.int .u8 x)) := by
  refine run_convert_bytes_arg _ 37 5 Try.underlying37 Try.underlying5 g 0 n c _ (by simp [hn]) (fun i hi => ?_) 9 Try.underlying9
  rw [Nat.zero_add]
  by_cases e : i = k
  · subst e
    rw [World.cell?_setCell_same (w := w) (a := ⟨g, i, none⟩) (v := .int .u8 x) (h := h.1 i (by omega))]
    simp [hk]
  · rw [World.cell?_setCell_other (w := w) (a := ⟨g, k, none⟩) (b := ⟨g, i, none⟩) (v := .int .u8 x) (h := fun e2 => e (by cases e2; rfl)), h.1 i (by omega)]
    simp [Ne.symm e, show i < l.length by omega]

theorem set_split {α : Type} (l : List α) (k : Nat) (x : α) (h : k < l.length) : l.set k x = l.take k ++ x :: l.drop (k + 1) := by
  rw [List.set_eq_take_append_cons_drop, if_pos h]

theorem nums_data (l : List UInt8) (k : Nat) (x : Int) : (strOfNums ((l.map fun b => (b.toNat : Int)).set k x)).data.toList = l.set k (UInt8.ofNat x.toNat) := by
  rw [strOfNums_data, List.map_set, List.map_map]
  congr 1
  conv => rhs; rw [← List.map_id l]
  apply List.map_congr_left
  intro b _
  simp

theorem tells_plain (s : ByteArray) (k m : Nat) (hk : k < s.size) (hm : (m : Int) < 255) :
    (addL 14695981039346656037 (strOfNums ((s.data.toList.map fun b => (b.toNat : Int)).set k (Go.bits .xor .u8 ((s.data[k]?.getD 0).toNat : Int) (1 + (m : Int))))).data.toList != addL 14695981039346656037 s.data.toList) = true := by
  have hl : k < s.data.toList.length := by simpa using hk
  have hg : s.data[k]?.getD 0 = s.data.toList[k] := by rw [Array.getElem?_eq_getElem (show k < s.data.size from hk)]; simp
  rw [bne_iff_ne, nums_data, set_split _ _ _ hl]
  have e : s.data.toList = s.data.toList.take k ++ s.data.toList[k] :: s.data.toList.drop (k + 1) := by rw [← List.drop_eq_getElem_cons hl, List.take_append_drop]
  conv => rhs; rw [e]
  rw [hg]
  exact addL_tells _ _ _ _ (xor_other _ _ (by omega) (by omega))

set_option maxHeartbeats 800000 in
theorem tells_walk (s : ByteArray) (at_ mask : Int) (w : World) (h1 : 0 < s.size) (h2 : s.size ≤ 4096) :
    Calls Try.prog 5 #[.string s, .int .i64 at_, .int .i64 mask] w fun e w' => e = .returned (.bool true) ∧ Below w.heap.size w w' := by
  have t1 : ((s.size : Int) == 0) = false := by rw [beq_eq_false_iff_ne]; omega
  have t2 : decide (4096 < (s.size : Int)) = false := by simp; omega
  obtain ⟨k, hk, hk2⟩ := index_of at_ s.size (by omega) (by omega)
  obtain ⟨m, hm, hm2⟩ := index_of mask 255 (by omega) (by omega)
  have hk0 : (0 : Int) ≤ (k : Int) := by omega
  have HP := Lib.hid (tells_plain s k m (by omega) hm2)
  go_enter Try.func5, Try.ntmps5
  go_wp2_with fail
  refine (awake_any _).mono ?_
  rintro e w1 ⟨rfl, hb1⟩
  have B1 := Lib.hid hb1
  clear hb1
  obtain ⟨g, c, w2, hcv, hrow, hb2, hg⟩ := conv_bytes w1 s
  have hc := hrow.1 k (by simp; omega)
  have hf := hrow.2 k (by simp; omega)
  have hcb := conv_back w2 g s.size c _ k (by simp; omega) (by simp) hrow
  have B2 := Lib.hid (B1.out.trans (hb2.mono B1.out.size))
  have hg2 := Nat.le_trans B1.out.size hg
  clear hrow hb2
  go_wp2_with fail
  clear hk hm hcv hc hf
  refine (of_one _ _ _ _ _ (by simp) ?sz).mono ?_
  case sz => rw [strOfNums_size]; simp [maxLen]; omega
  rintro e w3 ⟨rfl, hb3⟩
  have B3 := Lib.hid ((B2.out.setCell (p := ⟨g, k, none⟩) hg2 _).trans (hb3.mono (by simp; exact B2.out.size)))
  clear hb3 hcb
  go_wp2_with fail
  refine (of_one s _ _ _ _ (by simp) (by simp [maxLen]; omega)).mono ?_
  rintro e w4 ⟨rfl, hb4⟩
  have B4 := Lib.hid (B3.out.trans (hb4.mono B3.out.size))
  clear hb4
  have hp := HP.out
  go_wp2
  go_ret
  exact ⟨rfl, B4.out⟩

set_option maxHeartbeats 400000 in
theorem tells_short (s : ByteArray) (at_ mask : Int) (w : World) (h : s.size = 0) :
    Calls Try.prog 5 #[.string s, .int .i64 at_, .int .i64 mask] w fun e w' => e = .returned (.bool true) ∧ Below w.heap.size w w' := by
  have t1 : ((s.size : Int) == 0) = true := by rw [beq_iff_eq]; omega
  clear h
  go_enter Try.func5, Try.ntmps5
  go_wp2_with fail
  refine (awake_any _).mono ?_
  rintro e w1 ⟨rfl, hb1⟩
  go_wp2
  go_ret
  exact ⟨rfl, hb1⟩

set_option maxHeartbeats 400000 in
theorem tells_long (s : ByteArray) (at_ mask : Int) (w : World) (h : 4096 < s.size) :
    Calls Try.prog 5 #[.string s, .int .i64 at_, .int .i64 mask] w fun e w' => e = .returned (.bool true) ∧ Below w.heap.size w w' := by
  have t1 : ((s.size : Int) == 0) = false := by rw [beq_eq_false_iff_ne]; omega
  have t2 : decide (4096 < (s.size : Int)) = true := by simp; omega
  go_enter Try.func5, Try.ntmps5
  go_wp2_with fail
  refine (awake_any _).mono ?_
  rintro e w1 ⟨rfl, hb1⟩
  go_wp2
  go_ret
  exact ⟨rfl, hb1⟩

theorem tells_any (w : World) (s : ByteArray) (_hs : s.size ≤ 140737488351232) (at_ : Int) (_ha : (Lit.int .i64 at_).wf = true) (mask : Int) (_hm : (Lit.int .i64 mask).wf = true) :
    Calls Try.prog 5 #[.string s, .int .i64 at_, .int .i64 mask] w fun e w' => e = .returned (.bool true) ∧ Below w.heap.size w w' := by
  by_cases h1 : s.size = 0
  · exact tells_short s at_ mask w h1
  · by_cases h2 : 4096 < s.size
    · exact tells_long s at_ mask w h2
    · exact tells_walk s at_ mask w (by omega) (by omega)

end Go.Proofs.Ytlgcobimaadclaa
