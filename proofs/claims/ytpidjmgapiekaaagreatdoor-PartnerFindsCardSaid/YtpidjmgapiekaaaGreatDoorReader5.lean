/- This text proves what the strand's reader computes, over the loaded program: flags. -/
import Derived.Test.YtpidjmgapiekaaaGreatDoorReader4
import Derived.Laws.BitsAllLaws
namespace Go.Proofs.YtpidjmgapiekaaaGreatDoor
open Go.RowKit Go.WideShapes

theorem info4 : (Tryz.prog.info? 4).map (fun i => (i.zero, i.size, i.bytes)) = some (some (.bool false), 1, 1) := by kernel_rfl

/-- The i-th flag of bytes. -/
def bitOf (l : List UInt8) (i : Nat) : Bool := decide ((l.getD (i / 8) 0).toNat / 2 ^ (i % 8) % 2 = 1)
def flagsOf (l : List UInt8) (n k : Nat) : List Bool := (List.range n).map fun i => decide (i < k) && bitOf l i
theorem flagsOf_len (l : List UInt8) (n k : Nat) : (flagsOf l n k).length = n := by simp [flagsOf]
theorem flagsOf_zero (l : List UInt8) (n : Nat) : flagsOf l n 0 = List.replicate n false := by
  apply List.ext_getElem <;> simp [flagsOf]
theorem flagsOf_succ (l : List UInt8) (n k : Nat) : flagsOf l n (k + 1) = (flagsOf l n k).set k (bitOf l k) := by
  apply List.ext_getElem
  · simp [flagsOf]
  · intro i h1 h2
    rw [List.getElem_set]
    simp only [flagsOf, List.getElem_map, List.getElem_range]
    by_cases h : k = i
    · subst h; simp
    · rw [if_neg h]
      have : (i < k + 1) ↔ (i < k) := by omega
      simp [this]
theorem flagsOf_big (l : List UInt8) (n k : Nat) (h : n ≤ k) : flagsOf l n (k + 1) = flagsOf l n k := by
  apply List.ext_getElem
  · simp [flagsOf]
  · intro i h1 h2
    simp only [flagsOf, List.getElem_map, List.getElem_range]
    simp [flagsOf] at h1
    have e1 : i < k + 1 := by omega
    have e2 : i < k := by omega
    simp [e1, e2]
theorem flagsOf_at (l : List UInt8) (n k i : Nat) (h : i < n) : (flagsOf l n k)[i]? = some (decide (i < k) && bitOf l i) := by simp [flagsOf, h]

/-- A flag stands past the n-th. -/
def overF (l : List UInt8) (n m : Nat) : Bool := (List.range (8 * m)).any fun i => decide (n ≤ i) && bitOf l i

/-- Flags. -/
def Rdr.flags (R : Rdr) (n : Int) : Rdr × List Bool :=
  if R.bad then (R, []) else
  if n < 0 ∨ 65536 < n ∨ R.rest.length < (n.toNat + 7) / 8 then (R.spoil, []) else
  if overF R.rest n.toNat ((n.toNat + 7) / 8) then (R.spoil, []) else
  ({ R with rest := R.rest.drop ((n.toNat + 7) / 8) }, flagsOf R.rest n.toNat (8 * ((n.toNat + 7) / 8)))

theorem make_flags (w : World) (m : Nat) (hm : m ≤ 1000000) : (Instr.makeSlice 146 (.int .i64 (m : Int)) (.int .i64 (m : Int))).run Tryz.prog w = .ok (.slice (some ⟨w.heap.size, 0, none⟩) m m) (w.alloc (.cells ((List.replicate m false).map Value.bool).toArray 4)) := by
  obtain ⟨i0, hi, hz0, hz1, hz2⟩ := info_parts info4
  have h := run_make (P := Tryz.prog) w 146 4 i0 (.bool false) Tryz.underlying146 hi hz0 .i64 .i64 (m : Int) (m : Int) (by omega) (Int.le_refl _) (by rw [hz2]; omega) (by omega)
  rw [h]
  simp only [Int.toNat_natCast, hz1, Nat.mul_one]
  have e : madeCells (Value.bool false).cells m = ((List.replicate m false).map Value.bool).toArray := by
    apply Array.ext'
    show (madeCells #[Value.bool false] m).toList = _
    rw [toList_madeCells_one]
    simp
  rw [e]

/-- A block of flags of the call's own. -/
def BlkF (w : World) (b : Nat) (l : List Bool) : Prop := w.heap[b]? = some (.cells (l.map Value.bool).toArray 4 (0, 0))
theorem BlkF.cell {w : World} {b : Nat} {l : List Bool} (h : BlkF w b l) (i : Nat) (x : Bool) (hi : l[i]? = some x) : w.cell? ⟨b, i, none⟩ = some (.bool x) ∧ w.frozen? ⟨b, i, none⟩ = false := by
  simp [World.cell?, World.frozen?, show w.heap[b]? = _ from h, hi]
theorem BlkF.set {w : World} {b : Nat} {l : List Bool} (h : BlkF w b l) (i : Nat) (x : Bool) : BlkF (w.setCell ⟨b, i, none⟩ (.bool x)) b (l.set i x) := by
  unfold BlkF
  rw [heap_setCell_of' h]
  simp [List.map_set]
theorem BlkF.cells {w : World} {b : Nat} {l : List Bool} (h : BlkF w b l) : Cells w (some ⟨b, 0, none⟩) (l.map Value.bool) := by
  have := cells_block (w := w) (g := b) (cs := (l.map Value.bool).toArray) (T := 4) (fr := (0, 0)) h
  simpa using this

/-- What a call hands back that makes flags. -/
def GotF (w : World) (l : List Bool) (e : Ending) (w' : World) : Prop := ∃ X c, e = .returned (.slice X l.length c) ∧ Cells w' X (l.map Value.bool) ∧ (∀ a, X = some a → w.heap.size ≤ a.block ∧ a.block < w'.heap.size)
theorem GotF.nil (w w' : World) : GotF w [] (.returned (.slice none 0 0)) w' := ⟨none, 0, rfl, fun i v hv => by simp at hv, fun a h => by cases h⟩

theorem bit_byte (x r : Nat) (hx : x < 256) : Go.bits .and .u8 ((x : Int) / 2 ^ r) 1 = ((x / 2 ^ r % 2 : Nat) : Int) := by
  have e : ((x : Int) / 2 ^ r) = ((x / 2 ^ r : Nat) : Int) := by
    have : (2 : Int) ^ r = ((2 ^ r : Nat) : Int) := by simp
    rw [this]; rfl
  have h2 : x / 2 ^ r ≤ x := Nat.div_le_self _ _
  have h := Go.u8_and_nat (x / 2 ^ r) 1 (by omega) (by decide)
  rw [e]
  have h1 : ((1 : Nat) : Int) = 1 := rfl
  rw [← h1, h, Nat.and_one_is_mod]

section
variable {A : Nat → Addr} {w w' : World} {rb : Nat} {R R' : Rdr}

set_option maxRecDepth 100000 in
set_option maxHeartbeats 3200000 in
theorem rflags_any (h : RdAt w rb R) (n : Int) (hn1 : -9223372036854775808 ≤ n) (hn2 : n ≤ 9223372036854775807) :
    Calls Tryz.prog 146 #[.pointer (some ⟨rb, 0, none⟩), .int .i64 n] w fun e w' => GotF w (R.flags n).2 e w' ∧ RLeft w rb (R.flags n).1 w' := by
  have RT := Lib.hid (s_right_any h)
  have H := Lib.hid h
  have hlt := h.lt
  obtain ⟨S, h2, h3, h4⟩ := h
  have c0 : w.cell? ⟨rb, 0, none⟩ = some (.string S) := by simp [World.cell?, h4]
  have c1 : w.cell? ⟨rb, 1, none⟩ = some (.bool R.bad) := by simp [World.cell?, h4]
  have f0 : w.frozen? ⟨rb, 0, none⟩ = false := by simp [World.frozen?, h4]
  have f1 : w.frozen? ⟨rb, 1, none⟩ = false := by simp [World.frozen?, h4]
  have hsz : R.rest.length = S.size := by rw [← h2]; rfl
  cases hb : R.bad with
  | true =>
    have N : Hid (R.flags n = (R, [])) := Lib.hid (by simp [Rdr.flags, hb])
    rw [hb] at RT c1
    clear h2 h3 h4 hsz hb hn1 hn2 hlt
    go_enter Tryz.func146, Tryz.ntmps146
    go_wp2_with fail
    refine RT.out.mono ?_
    rintro e w1 ⟨rfl, rfl⟩
    go_wp2_with fail
    go_ret
    rw [N.out]
    exact ⟨GotF.nil _ _, RLeft.same H.out⟩
  | false =>
    rw [hb] at RT c1
    by_cases hbad : n < 0 ∨ 65536 < n
    · have N : Hid (R.flags n = (R.spoil, [])) := Lib.hid (by unfold Rdr.flags; rw [if_neg (by simp [hb]), if_pos (by omega)])
      clear h2 h3 h4 hsz hb hlt
      have hsplit : n < 0 ∨ (0 ≤ n ∧ ¬ n < 0 ∧ 65536 < n) := by omega
      clear hbad hn1 hn2
      rcases hsplit with q | ⟨q, q2, q3⟩
      · go_enter Tryz.func146, Tryz.ntmps146
        go_wp2_with fail
        refine RT.out.mono ?_
        rintro e w1 ⟨rfl, rfl⟩
        go_wp2_with fail
        go_ret
        rw [N.out]
        exact ⟨GotF.nil _ _, H.out.spoiled⟩
      · go_enter Tryz.func146, Tryz.ntmps146
        go_wp2_with fail
        refine RT.out.mono ?_
        rintro e w1 ⟨rfl, rfl⟩
        go_wp2_with fail
        go_ret
        rw [N.out]
        exact ⟨GotF.nil _ _, H.out.spoiled⟩
    · obtain ⟨k, rfl⟩ : ∃ k : Nat, n = k := ⟨n.toNat, by omega⟩
      have hk : k ≤ 65536 := by omega
      obtain ⟨m, hm⟩ : ∃ m, (k + 7) / 8 = m := ⟨_, rfl⟩
      have hdiv : ((k : Int) + 8 - 1) / 8 = (m : Int) := by omega
      have k1 : (k : Int) ≤ 65536 := by omega
      have k0 : (0 : Int) ≤ (k : Int) := by omega
      by_cases hcut : S.size < m
      · have N : Hid (R.flags k = (R.spoil, [])) := Lib.hid (by unfold Rdr.flags; rw [if_neg (by simp [hb]), if_pos (by simp; omega)])
        clear h2 h3 h4 hsz hb hlt hbad hn1 hn2 hm
        go_enter Tryz.func146, Tryz.ntmps146
        go_wp2_with fail
        refine RT.out.mono ?_
        rintro e w1 ⟨rfl, rfl⟩
        go_wp2_with fail
        go_ret
        rw [N.out]
        exact ⟨GotF.nil _ _, H.out.spoiled⟩
      · have hcut2 : m ≤ S.size := by omega
        have q1 : decide (S.size < m) = false := by simpa using hcut
        have N0 : Hid (R.flags k = if overF R.rest k m then (R.spoil, []) else ({ R with rest := R.rest.drop m }, flagsOf R.rest k (8 * m))) := Lib.hid (by unfold Rdr.flags; rw [if_neg (by simp [hb]), if_neg (by simp; omega)]; simp only [Int.toNat_natCast, hm])
        have hmk := make_flags w k (by omega)
        have HS := Lib.hid h2
        have H3 := Lib.hid h3
        have MM := Lib.hid hm
        have m1 : (0 : Int) ≤ (m : Int) := by omega
        have m2 : (m : Int) ≤ 8193 := by omega
        have B0 : Hid (BlkF (w.alloc (.cells (Array.replicate k (Value.bool false)) 4)) w.heap.size (flagsOf R.rest k 0)) := Lib.hid (by
          have e : ((List.replicate k false).map Value.bool).toArray = Array.replicate k (Value.bool false) := by simp
          rw [flagsOf_zero, ← e]; exact heap_alloc_new w _)
        clear h2 h3 h4 hsz hb hbad hn1 hn2 hm hcut
        go_enter Tryz.func146, Tryz.ntmps146
        go_wp2_with fail
        refine RT.out.mono ?_
        rintro e w1 ⟨rfl, rfl⟩
        go_wp2_with fail
        clear hdiv hmk q1
        go_loopw [44] (fun iv wr => ∃ i : Nat, i ≤ 8 * m ∧ iv = .int .i64 i ∧ BlkF wr w.heap.size (flagsOf R.rest k i) ∧ Below w.heap.size w wr ∧ ∀ j, k ≤ j → j < i → bitOf R.rest j = false) (fun iv _ => 8 * m - (intOf iv).toNat)
        case atStart => exact ⟨0, Nat.zero_le _, rfl, B0.out, (Below.refl _ _).alloc (Nat.le_refl _) _, fun j h1 h2 => by omega⟩
        case round =>
          obtain ⟨i, hi, rfl, hBk, hB, hz⟩ := hrel
          have BK := Lib.hid hBk
          have BB := Lib.hid hB
          have ZZ := Lib.hid hz
          have c0' : wr.cell? ⟨rb, 0, none⟩ = some (.string S) := (hB.cell hlt).trans c0
          have f0' : wr.frozen? ⟨rb, 0, none⟩ = false := by
            have := hB.block rb hlt
            simp only [World.frozen?] at f0 ⊢
            rw [this]; exact f0
          have c1' : wr.cell? ⟨rb, 1, none⟩ = some (.bool false) := (hB.cell hlt).trans c1
          have f1' : wr.frozen? ⟨rb, 1, none⟩ = false := by
            have := hB.block rb hlt
            simp only [World.frozen?] at f1 ⊢
            rw [this]; exact f1
          clear hBk hB hz c0 f0 c1 f1
          have i0 : (0 : Int) ≤ (i : Int) := by omega
          by_cases hend : i = 8 * m
          · subst hend
            have hov : overF R.rest k m = false := by
              unfold overF
              rw [List.any_eq_false]
              intro j hj
              rw [List.mem_range] at hj
              by_cases hkj : k ≤ j
              · rw [ZZ.out j hkj hj]; simp
              · simp [hkj]
            have N : Hid (R.flags k = ({ R with rest := R.rest.drop m }, flagsOf R.rest k (8 * m))) := Lib.hid (by rw [N0.out, hov]; rfl)
            clear hov
            have m3 : (m : Int) ≤ (S.size : Int) := by omega
            go_wp2_with fail
            go_ret
            rw [N.out]
            have hd := (H.out.below BB.out).dropped (S := S.extract m S.size) (by have := H3.out; simp only [ByteArray.size_extract]; omega)
            rw [extract_list, HS.out] at hd
            have hfb : w.heap.size < wr.heap.size := (Array.getElem?_eq_some_iff.1 (show wr.heap[w.heap.size]? = _ from BK.out)).1
            refine ⟨⟨some ⟨w.heap.size, 0, none⟩, k, by rw [flagsOf_len]; rfl, ?_, ?_⟩, hd.1, (Kept.of_below BB.out).trans hd.2 (by simp)⟩
            · exact BlkF.cells ((hd.2.block _ hfb (by simp; omega)).trans BK.out)
            · rintro a ha
              cases ha
              exact ⟨Nat.le_refl _, by rw [World.size_setCell]; exact hfb⟩
          · have q2 : (i : Int) < 8 * (m : Int) := by omega
            have i8 : i < 8 * m := by omega
            obtain ⟨q, hq⟩ : ∃ q, i / 8 = q := ⟨_, rfl⟩
            obtain ⟨r, hr⟩ : ∃ r, i % 8 = r := ⟨_, rfl⟩
            have hi3 : (i : Int) / 8 = (q : Int) := by omega
            have hi6 : (i : Int) % 8 = (r : Int) := by omega
            have hqs : q < S.size := by omega
            have hqi : (q : Int) < (S.size : Int) := by omega
            obtain ⟨x, hx⟩ : ∃ x, (S[q]'hqs) = x := ⟨_, rfl⟩
            obtain ⟨bt, hbt⟩ : ∃ bt, bitOf R.rest i = bt := ⟨_, rfl⟩
            have hbit : ((x.toNat : Int) / 2 ^ r % 2 == 1) = bt := by
              have e : ((x.toNat : Int) / 2 ^ r % 2) = ((x.toNat / 2 ^ r % 2 : Nat) : Int) := by push_cast; rfl
              have e2 : R.rest.getD (i / 8) 0 = x := by
                rw [hq, ← hx, ← HS.out, List.getD_eq_getElem?_getD, List.getElem?_eq_getElem (show q < S.data.toList.length from hqs)]; rfl
              rw [e, ← hbt, bitOf, e2, hr]
              by_cases h1 : x.toNat / 2 ^ r % 2 = 1
              · rw [h1]; rfl
              · rw [decide_eq_false h1]
                simp only [beq_eq_false_iff_ne, ne_eq]
                omega
            have hx256 : (x.toNat : Int) < 256 := by have := x.toNat_lt; omega
            have hand := bit_byte x.toNat r (by omega)
            have BT := Lib.hid hbt
            clear hq hr hbt hend
            by_cases hik : i < k
            · obtain ⟨cc, ff⟩ := BK.out.cell i _ (flagsOf_at R.rest k i i hik)
              rw [decide_eq_false (Nat.lt_irrefl i), Bool.false_and] at cc
              have hset := BK.out.set i bt
              rw [← BT.out, ← flagsOf_succ] at hset
              rw [BT.out] at hset
              have S1 := Lib.hid hset
              have S2 : Hid (Below w.heap.size w (wr.setCell ⟨w.heap.size, i, none⟩ (.bool bt))) := Lib.hid (below_kept BB.out (Kept.setCell wr w.heap.size i _) (by intro x hx; simp at hx; omega) (Nat.le_refl _))
              have S3 : Hid (∀ j, k ≤ j → j < i + 1 → bitOf R.rest j = false) := Lib.hid (fun j h1 h2 => by omega)
              clear hset
              go_wp2_with fail
              exact ⟨⟨i + 1, by omega, by go_num, S1.out, S2.out, S3.out⟩, by simp [intOf]; omega⟩
            · cases bt with
              | true =>
                have hov : overF R.rest k m = true := by
                  unfold overF
                  rw [List.any_eq_true]
                  exact ⟨i, List.mem_range.2 i8, by rw [BT.out]; simp; omega⟩
                have N : Hid (R.flags k = (R.spoil, [])) := Lib.hid (by rw [N0.out, hov]; rfl)
                clear hov
                go_wp2_with fail
                go_ret
                rw [N.out]
                have hs := (H.out.below BB.out).spoiled
                exact ⟨GotF.nil _ _, hs.1, (Kept.of_below BB.out).trans hs.2 (by simp)⟩
              | false =>
                have S3 : Hid (∀ j, k ≤ j → j < i + 1 → bitOf R.rest j = false) := Lib.hid (fun j h1 h2 => by
                  by_cases h : j = i
                  · subst h; exact BT.out
                  · exact ZZ.out j h1 (by omega))
                have S1 : Hid (BlkF wr w.heap.size (flagsOf R.rest k (i + 1))) := Lib.hid (by rw [flagsOf_big _ _ _ (by omega)]; exact BK.out)
                go_wp2_with fail
                exact ⟨⟨i + 1, by omega, by go_num, S1.out, BB.out, S3.out⟩, by simp [intOf]; omega⟩
end

end Go.Proofs.YtpidjmgapiekaaaGreatDoor
