/- This text proves what the strand's writer computes, over the loaded program: flags. -/
import Derived.Test.YtpidjmgapiekaaaGreatDoorWriter2
namespace Go.Proofs.YtpidjmgapiekaaaGreatDoor
open Go.RowKit Go.WideShapes

/-- Flags as a number. -/
def bitsN : List Bool → Nat
  | [] => 0
  | b :: r => (if b then 1 else 0) + 2 * bitsN r
theorem bitsN_lt : ∀ l : List Bool, bitsN l < 2 ^ l.length
  | [] => by simp [bitsN]
  | b :: r => by
    have := bitsN_lt r
    rw [List.length_cons, Nat.pow_succ]
    unfold bitsN
    split <;> omega
theorem bitsN_snoc : ∀ (l : List Bool) (b : Bool), bitsN (l ++ [b]) = bitsN l + (if b then 2 ^ l.length else 0)
  | [], b => by cases b <;> rfl
  | c :: r, b => by
    show (if c then 1 else 0) + 2 * bitsN (r ++ [b]) = (if c then 1 else 0) + 2 * bitsN r + _
    rw [bitsN_snoc r b, List.length_cons, Nat.pow_succ]
    cases b <;> simp <;> omega

/-- Flags as so many bytes. -/
def flagsTo (m : Nat) (l : List Bool) : List UInt8 := (List.range m).map fun j => UInt8.ofNat (bitsN ((l.drop (8 * j)).take 8))
def flagsL (l : List Bool) : List UInt8 := flagsTo ((l.length + 7) / 8) l
theorem flagsTo_len (m : Nat) (l : List Bool) : (flagsTo m l).length = m := by simp [flagsTo]
theorem flagsL_len (l : List Bool) : (flagsL l).length = (l.length + 7) / 8 := flagsTo_len _ _
theorem flagsTo_nil (m : Nat) : flagsTo m [] = List.replicate m 0 := by
  apply List.ext_getElem
  · simp [flagsTo]
  · intro i h1 h2
    simp [flagsTo, bitsN]
theorem flagsTo_at (m : Nat) (l : List Bool) (j : Nat) (h : j < m) : (flagsTo m l)[j]? = some (UInt8.ofNat (bitsN ((l.drop (8 * j)).take 8))) := by simp [flagsTo, h]
theorem byte_ofNat {n : Nat} (h : n < 256) : (UInt8.ofNat n).toNat = n := by rw [UInt8.toNat_ofNat']; omega
theorem take8_lt (l : List Bool) : bitsN (l.take 8) < 256 := by
  have h := bitsN_lt (l.take 8)
  have h2 : (l.take 8).length ≤ 8 := by simp; omega
  have : 2 ^ (l.take 8).length ≤ 2 ^ 8 := Nat.pow_le_pow_right (by decide) h2
  omega

theorem flagsTo_false (m : Nat) (l : List Bool) : flagsTo m (l ++ [false]) = flagsTo m l := by
  apply List.ext_getElem
  · simp [flagsTo]
  · intro j h1 h2
    simp only [flagsTo, List.getElem_map, List.getElem_range]
    congr 1
    by_cases hj : 8 * j ≤ l.length
    · rw [List.drop_append_of_le_length hj, List.take_append]
      by_cases h8 : (l.drop (8 * j)).length < 8
      · rw [List.take_of_length_le (l := [false]) (by simp; simp at h8; omega), bitsN_snoc]; simp
      · rw [show 8 - (l.drop (8 * j)).length = 0 by omega]; simp
    · have e1 : (l ++ [false]).drop (8 * j) = [] := List.drop_eq_nil_of_le (by simp; omega)
      have e2 : l.drop (8 * j) = [] := List.drop_eq_nil_of_le (by omega)
      rw [e1, e2]
theorem flagsTo_true (m : Nat) (l : List Bool) :
    flagsTo m (l ++ [true]) = (flagsTo m l).set (l.length / 8) (UInt8.ofNat (bitsN ((l.drop (8 * (l.length / 8))).take 8) + 2 ^ (l.length % 8))) ∧ bitsN ((l.drop (8 * (l.length / 8))).take 8) < 2 ^ (l.length % 8) := by
  have hd : (l.drop (8 * (l.length / 8))).length = l.length % 8 := by simp; omega
  have ht : (l.drop (8 * (l.length / 8))).take 8 = l.drop (8 * (l.length / 8)) := List.take_of_length_le (by omega)
  refine ⟨?_, by rw [ht, ← hd]; exact bitsN_lt _⟩
  apply List.ext_getElem
  · simp [flagsTo]
  · intro j h1 h2
    rw [List.getElem_set]
    simp only [flagsTo, List.getElem_map, List.getElem_range]
    by_cases hj : l.length / 8 = j
    · subst hj
      rw [if_pos rfl, List.drop_append_of_le_length (by omega), List.take_append, hd, ht]
      rw [List.take_of_length_le (l := [true]) (by simp; omega), bitsN_snoc, hd]
      simp
    · rw [if_neg hj]
      congr 1
      by_cases hle : 8 * j ≤ l.length
      · rw [List.drop_append_of_le_length hle, List.take_append]
        have : 8 ≤ (l.drop (8 * j)).length := by simp; omega
        rw [show 8 - (l.drop (8 * j)).length = 0 by omega]; simp
      · have e1 : (l ++ [true]).drop (8 * j) = [] := List.drop_eq_nil_of_le (by simp; omega)
        have e2 : l.drop (8 * j) = [] := List.drop_eq_nil_of_le (by omega)
        rw [e1, e2]

theorem make_bytes (w : World) (m : Nat) (hm : m ≤ 1000000) : (Instr.makeSlice 144 (.int .i64 (m : Int)) (.int .i64 (m : Int))).run Tryz.prog w = .ok (.slice (some ⟨w.heap.size, 0, none⟩) m m) (w.alloc (.cells (bv (List.replicate m 0)).toArray 5)) := by
  obtain ⟨i0, hi, hz0, hz1, hz2⟩ := info_parts info5
  have h := run_make (P := Tryz.prog) w 144 5 i0 (.int .u8 0) Tryz.underlying144 hi hz0 .i64 .i64 (m : Int) (m : Int) (by omega) (Int.le_refl _) (by rw [hz2]; omega) (by omega)
  rw [h]
  simp only [Int.toNat_natCast, hz1, Nat.mul_one]
  have e : madeCells (Value.int .u8 0).cells m = (bv (List.replicate m 0)).toArray := by
    apply Array.ext'
    show (madeCells #[Value.int .u8 0] m).toList = _
    rw [toList_madeCells_one]
    simp [bv]
  rw [e]

/-- A block of bytes of the call's own. -/
def BlkB (w : World) (b : Nat) (l : List UInt8) : Prop := w.heap[b]? = some (.cells (bv l).toArray 5 (0, 0))
theorem BlkB.cell {w : World} {b : Nat} {l : List UInt8} (h : BlkB w b l) (i : Nat) (x : UInt8) (hi : l[i]? = some x) : w.cell? ⟨b, i, none⟩ = some (.int .u8 (x.toNat : Int)) ∧ w.frozen? ⟨b, i, none⟩ = false := by
  simp [World.cell?, World.frozen?, show w.heap[b]? = _ from h, bv, hi]
theorem heap_setCell_of' {w : World} {b : Nat} {cs : Array Value} {T : TypeId} (h : w.heap[b]? = some (.cells cs T (0, 0))) (i : Nat) (v : Value) : (w.setCell ⟨b, i, none⟩ v).heap[b]? = some (.cells (cs.setIfInBounds i v) T (0, 0)) := by
  unfold World.setCell
  simp [Array.getElem?_modify, h]
theorem BlkB.set {w : World} {b : Nat} {l : List UInt8} (h : BlkB w b l) (i : Nat) (x : UInt8) : BlkB (w.setCell ⟨b, i, none⟩ (.int .u8 (x.toNat : Int))) b (l.set i x) := by
  unfold BlkB
  rw [heap_setCell_of' h]
  simp [bv, List.map_set]
theorem BlkB.lt {w : World} {b : Nat} {l : List UInt8} (h : BlkB w b l) : b < w.heap.size := (Array.getElem?_eq_some_iff.1 (show w.heap[b]? = _ from h)).1
theorem BlkB.cells {w : World} {b : Nat} {l : List UInt8} (h : BlkB w b l) : Cells w (some ⟨b, 0, none⟩) (bv l) := by
  have := cells_block (w := w) (g := b) (cs := (bv l).toArray) (T := 5) (fr := (0, 0)) h
  simpa using this

theorem or_pow (x k : Nat) (hk : k < 8) (hx : x < 2 ^ k) : Go.bits .or .u8 (x : Int) ((2 ^ k : Nat) : Int) = ((x + 2 ^ k : Nat) : Int) := by
  have : ∀ k : Fin 8, ∀ x : Fin (2 ^ k.val), Go.bits .or .u8 ((x.val : Nat) : Int) ((2 ^ k.val : Nat) : Int) = ((x.val + 2 ^ k.val : Nat) : Int) := by decide +kernel
  exact this ⟨k, hk⟩ ⟨x, hx⟩

section
variable {A : Nat → Addr} {w : World} {wb : Nat} {gp : List Nat} {W : Wri}

set_option maxRecDepth 100000 in
set_option maxHeartbeats 3200000 in
theorem flags_any (h : WAt A w wb gp W) (hok : W.ok) (hG : s_Glob w A) (X : Option Addr) (c : Nat) (l : List Bool) (hC : Cells w X (l.map Value.bool)) (hl : l.length ≤ 100000) :
    Calls Tryz.prog 153 #[.pointer (some ⟨wb, 0, none⟩), .slice X l.length c] w (WDone A w wb gp (W.put (flagsL l))) := by
  obtain ⟨len, hlen⟩ : ∃ len, l.length = len := ⟨_, rfl⟩
  obtain ⟨m, hm⟩ : ∃ m, (len + 7) / 8 = m := ⟨_, rfl⟩
  have hFL : flagsL l = flagsTo m l := by unfold flagsL; rw [hlen, hm]
  rw [hlen] at hl ⊢
  rw [hFL]
  have LEN := Lib.hid hlen
  have H := Lib.hid h
  have HG := Lib.hid hG
  have CH := Lib.hid hC
  have MM := Lib.hid hm
  have hdiv : ((len : Int) + 8 - 1) / 8 = (m : Int) := by omega
  have hmk := make_bytes w m (by omega)
  have b1 : (0 : Int) ≤ (len : Int) := by omega
  have b2 : (len : Int) ≤ 100000 := by omega
  have B0 : Hid (BlkB (w.alloc (.cells (bv (List.replicate m 0)).toArray 5)) w.heap.size (flagsTo m (l.take 0))) := Lib.hid (by rw [List.take_zero, flagsTo_nil]; exact heap_alloc_new w _)
  clear h hG hC hlen hm hFL
  go_enter Tryz.func153, Tryz.ntmps153
  go_wp2_with fail
  clear hdiv hmk
  go_loopw [15] (fun iv wr => ∃ k : Nat, k ≤ len ∧ iv = .int .i64 k ∧ BlkB wr w.heap.size (flagsTo m (l.take k)) ∧ Below w.heap.size w wr) (fun iv _ => len - (intOf iv).toNat)
  case atStart => exact ⟨0, Nat.zero_le _, rfl, B0.out, (Below.refl _ _).alloc (Nat.le_refl _) _⟩
  case round =>
    obtain ⟨k, hk, rfl, hBk, hB⟩ := hrel
    have BK := Lib.hid hBk
    have BB := Lib.hid hB
    clear hBk hB
    by_cases hlt : k < len
    · have hkl : k < l.length := by rw [LEN.out]; exact hlt
      obtain ⟨b, hb⟩ : ∃ b, l[k]? = some b := ⟨l[k], by simp [hkl]⟩
      obtain ⟨xb, xo, rfl, hc⟩ := (CH.out.below BB.out) k (.bool b) (by simp [hb])
      have hi1 : (0 : Int) ≤ (k : Int) := by omega
      have hi2 : (k : Int) < (len : Int) := by omega
      have hts : l.take (k + 1) = l.take k ++ [b] := by
        rw [List.take_succ_eq_append_getElem hkl]
        rw [List.getElem?_eq_getElem hkl] at hb
        cases hb; rfl
      have TS := Lib.hid hts
      clear hb hts
      cases b
      · go_wp2_with fail
        exact ⟨⟨k + 1, by omega, by go_num, by rw [TS.out, flagsTo_false]; exact BK.out, BB.out⟩, by simp [intOf]; omega⟩
      · have hlk : (l.take k).length = k := by rw [List.length_take]; omega
        have hft := flagsTo_true m (l.take k)
        rw [hlk] at hft
        obtain ⟨f1, f2⟩ := hft
        obtain ⟨y, hy⟩ : ∃ y, bitsN (((l.take k).drop (8 * (k / 8))).take 8) = y := ⟨_, rfl⟩
        rw [hy] at f1 f2
        have hkm : k / 8 < m := by have := MM.out; omega
        have hy8 : y < 256 := by rw [← hy]; exact take8_lt _
        obtain ⟨c0, f0⟩ := BK.out.cell (k / 8) _ (by rw [flagsTo_at m _ _ hkm, hy])
        rw [byte_ofNat hy8] at c0
        obtain ⟨q, hq⟩ : ∃ q, k / 8 = q := ⟨_, rfl⟩
        obtain ⟨r, hr⟩ : ∃ r, k % 8 = r := ⟨_, rfl⟩
        have hi3 : (k : Int) / 8 = (q : Int) := by omega
        have hi6 : (k : Int) % 8 = (r : Int) := by omega
        have hi3t : (k : Int).tdiv 8 = (q : Int) := by rw [Int.tdiv_eq_ediv_of_nonneg (by omega)]; exact hi3
        have hi6t : (k : Int).tmod 8 = (r : Int) := by rw [Int.tmod_eq_emod_of_nonneg (by omega)]; exact hi6
        rw [hq] at hy hkm c0 f0 f1
        rw [hr] at f1 f2
        have hi4 : (q : Int) < (m : Int) := by omega
        have hi5 : (0 : Int) ≤ (q : Int) := by omega
        have hr8 : (r : Int) < 8 := by omega
        have hr0 : (0 : Int) ≤ (r : Int) := by omega
        have hw1 : IntKind.i64.wrap (q : Int) = (q : Int) := IntWalk.i64_in _ (by omega)
        have hw2 : IntKind.i64.wrap (r : Int) = (r : Int) := IntWalk.i64_in _ (by omega)
        have F1 := Lib.hid f1
        have F2 := Lib.hid f2
        clear f1 f2 hy hlk hkl hq hr
        go_wp2_with fail
        go_still_tail 10, (by kernel_rfl)
        have hE : Go.bits .or .u8 (y : Int) (IntKind.u8.wrap (2 ^ r)) = ((UInt8.ofNat (y + 2 ^ r)).toNat : Int) := by
          have hy2 := F2.out
          have h2 : (2 : Nat) ^ r ≤ 2 ^ 7 := Nat.pow_le_pow_right (by decide) (by omega)
          have hw : IntKind.u8.wrap (2 ^ r) = ((2 ^ r : Nat) : Int) := by
            have e : ∀ x, IntKind.u8.wrap x = x % 256 := fun x => by simp [IntKind.wrap, IntKind.signed, IntKind.bits]
            have e2 : ((2 : Int) ^ r) = ((2 ^ r : Nat) : Int) := by simp
            rw [e, e2]; omega
          rw [hw, or_pow y r (by omega) hy2, byte_ofNat (by omega)]
        have hset := BK.out.set q (UInt8.ofNat (y + 2 ^ r))
        rw [← hE, ← F1.out, ← TS.out] at hset
        have S1 := Lib.hid hset
        have S2 : Hid (Below w.heap.size w (wr.setCell ⟨w.heap.size, q, none⟩ (.int .u8 (Go.bits .or .u8 (y : Int) (IntKind.u8.wrap (2 ^ r)))))) := Lib.hid (below_kept BB.out (Kept.setCell wr w.heap.size q _) (by intro x hx; simp at hx; omega) (Nat.le_refl _))
        clear hset hE hi3t hi6t hw1 hw2 hi3 hi6
        go_wp2_with fail
        exact ⟨⟨k + 1, by omega, by go_num, S1.out, S2.out.trans ⟨rfl, rfl, rfl, Nat.le_refl _, fun _ _ => rfl⟩⟩, by simp [intOf]; omega⟩
    · obtain rfl : k = len := by omega
      have hk0 := BK.out
      rw [List.take_of_length_le (by rw [LEN.out]; exact Nat.le_refl _)] at hk0
      have R := Lib.hid (write_any (H.out.below BB.out) hok (HG.out.below BB.out) (.slice (some ⟨w.heap.size, 0, none⟩) m m) (flagsTo m l) ⟨_, _, by rw [flagsTo_len], hk0.cells⟩ (by rw [flagsTo_len]; have := MM.out; omega))
      clear hk0
      go_wp2_with fail
      refine R.out.mono ?_
      rintro e w2 ⟨rfl, hl⟩
      have F := Lib.hid (WLeft.ahead BB.out hl)
      clear hl
      go_wp2
      go_end0
      exact ⟨rfl, F.out⟩
end

end Go.Proofs.YtpidjmgapiekaaaGreatDoor
