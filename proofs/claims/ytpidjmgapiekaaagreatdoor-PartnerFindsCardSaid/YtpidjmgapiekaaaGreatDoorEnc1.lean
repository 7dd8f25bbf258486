/- This text proves which inputs of a packet are others than those ahead of them, over the loaded program. -/
import Derived.Test.YtpidjmgapiekaaaGreatDoorPar4
namespace Go.Proofs.YtpidjmgapiekaaaGreatDoor
open Go.RowKit Go.WideShapes
set_option linter.unusedSimpArgs false

/-- Which inputs are others than those ahead of them. -/
def turnsL : Int → List Int → List Bool
  | _, [] => []
  | b, x :: r => (x != b) :: turnsL x r
theorem turnsL_len : ∀ (l : List Int) (b : Int), (turnsL b l).length = l.length
  | [], _ => rfl
  | x :: r, b => by simp [turnsL, turnsL_len r x]
/-- The input ahead of the k-th. -/
def aheadL (b : Int) (l : List Int) (k : Nat) : Int := if k = 0 then b else l.getD (k - 1) 0
theorem turnsL_at : ∀ (l : List Int) (b : Int) (k : Nat) (x : Int), l[k]? = some x → (turnsL b l)[k]? = some (x != aheadL b l k)
  | [], _, k, x, h => by simp at h
  | y :: r, b, 0, x, h => by
    simp at h
    subst h
    simp [turnsL, aheadL]
  | y :: r, b, k + 1, x, h => by
    rw [List.getElem?_cons_succ] at h
    have := turnsL_at r y k x h
    rw [turnsL, List.getElem?_cons_succ, this]
    unfold aheadL
    cases k with
    | zero => simp
    | succ k => simp

set_option maxRecDepth 100000 in
set_option maxHeartbeats 3200000 in
theorem turns_any (b : Int) (X : Option Addr) (l : List Int) (c : Nat) (w : World) (ha : Cells w X (iv l)) (hl : l.length ≤ 100000) : Calls Tryz.prog 152 #[.int .i64 b, .slice X l.length c] w fun e w' => e = .returned (.slice (some ⟨w.heap.size, 0, none⟩) l.length l.length) ∧ BlkF w' w.heap.size (turnsL b l) ∧ Below w.heap.size w w' := by
  obtain ⟨len, hlen⟩ : ∃ len, l.length = len := ⟨_, rfl⟩
  rw [hlen] at hl ⊢
  have CA := Lib.hid ha
  have LN := Lib.hid hlen
  have hmk := make_flags w len (by omega)
  have B0 : Hid (BlkF (w.alloc (.cells (Array.replicate len (Value.bool false)) 4)) w.heap.size ((turnsL b l).take 0 ++ List.replicate len false)) := Lib.hid (by
    have e : ((List.replicate len false).map Value.bool).toArray = Array.replicate len (Value.bool false) := by simp
    rw [List.take_zero, List.nil_append]
    unfold BlkF
    rw [e]
    exact heap_alloc_new w _)
  have b1 : (len : Int) ≤ 100000 := by omega
  have b0 : (0 : Int) ≤ (len : Int) := by omega
  clear ha hlen
  go_enter Tryz.func152, Tryz.ntmps152
  go_wp2_with fail
  clear hmk
  go_loopw [0, 13] (fun pv kv wr => ∃ k : Nat, k ≤ len ∧ kv = .int .i64 k ∧ pv = .int .i64 (aheadL b l k) ∧ BlkF wr w.heap.size ((turnsL b l).take k ++ List.replicate (len - k) false) ∧ Below w.heap.size w wr) (fun _ kv _ => len - (intOf kv).toNat)
  case atStart => exact ⟨0, Nat.zero_le _, rfl, rfl, B0.out, (Below.refl _ _).alloc (Nat.le_refl _) _⟩
  case round =>
    obtain ⟨k, hk, rfl, rfl, hF, hB⟩ := hrel
    have HF := Lib.hid hF
    have BB := Lib.hid hB
    clear hF hB
    have htl := turnsL_len l b
    by_cases hlt : k < len
    · obtain ⟨x, hx⟩ : ∃ x, l[k]? = some x := ⟨l[k]'(by rw [LN.out]; exact hlt), by simp [show k < l.length by rw [LN.out]; exact hlt]⟩
      obtain ⟨xb, xo, rfl, hc⟩ := (CA.out.below BB.out) k (.int .i64 x) (by simp [iv, hx])
      have hta := turnsL_at l b k x hx
      have hnx : aheadL b l (k + 1) = x := by unfold aheadL; rw [if_neg (by omega), Nat.add_sub_cancel, List.getD_eq_getElem?_getD, hx]; rfl
      obtain ⟨y, hy⟩ : ∃ y, aheadL b l k = y := ⟨_, rfl⟩
      rw [hy] at hta ⊢
      obtain ⟨t, ht⟩ : ∃ t, (x != y) = t := ⟨_, rfl⟩
      rw [ht] at hta
      have htk : k < (turnsL b l).length := by rw [htl, LN.out]; exact hlt
      have hts : (turnsL b l).take (k + 1) = (turnsL b l).take k ++ [t] := by
        rw [List.take_succ_eq_append_getElem htk]
        rw [List.getElem?_eq_getElem htk] at hta
        cases hta; rfl
      have htkl : ((turnsL b l).take k).length = k := by rw [List.length_take]; omega
      have hget : ((turnsL b l).take k ++ List.replicate (len - k) false)[k]? = some false := by
        rw [List.getElem?_append_right (by omega), htkl, Nat.sub_self, List.getElem?_replicate, if_pos (by omega)]
      obtain ⟨c0, f0⟩ := HF.out.cell k false hget
      have hset := HF.out.set k t
      have e3 : ((turnsL b l).take k ++ List.replicate (len - k) false).set k t = (turnsL b l).take (k + 1) ++ List.replicate (len - (k + 1)) false := by
        rw [List.set_append_right _ _ (by omega), htkl, Nat.sub_self, hts]
        rw [show len - k = (len - (k + 1)) + 1 by omega, List.replicate_succ]
        simp
      rw [e3] at hset
      have SET := Lib.hid hset
      have NX := Lib.hid hnx
      have i0 : (0 : Int) ≤ (k : Int) := by omega
      have i1 : (k : Int) < (len : Int) := by omega
      have SB : Hid (Below w.heap.size w (wr.setCell ⟨w.heap.size, k, none⟩ (.bool t))) := Lib.hid (below_kept BB.out (Kept.setCell wr w.heap.size k _) (by simp) (Nat.le_refl _))
      clear hx hta hnx hy hts htkl hget hset e3 htk htl
      go_wp2_with fail
      exact ⟨⟨k + 1, by omega, by go_num, by rw [NX.out], SET.out, SB.out⟩, by simp [intOf]; omega⟩
    · obtain rfl : k = len := by omega
      have FIN : Hid (BlkF wr w.heap.size (turnsL b l)) := Lib.hid (by
        have h := HF.out
        rw [List.take_of_length_le (by rw [htl, LN.out]; exact Nat.le_refl _), Nat.sub_self, List.replicate_zero, List.append_nil] at h
        exact h)
      clear htl
      go_wp2_with fail
      go_ret
      exact ⟨rfl, FIN.out, BB.out⟩

end Go.Proofs.YtpidjmgapiekaaaGreatDoor
