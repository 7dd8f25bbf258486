/- This text proves what the strand's reader computes, over the loaded program: numbers, bytes, counts. -/
import Derived.Test.YtpidjmgapiekaaaGreatDoorReader
namespace Go.Proofs.YtpidjmgapiekaaaGreatDoor
open Go.RowKit Go.WideShapes

/-- What a reader holds: what is left, and whether something was wrong. -/
structure Rdr where
  rest : List UInt8
  bad : Bool

/-- Block rb is a reader. -/
def RdAt (w : World) (rb : Nat) (R : Rdr) : Prop := ∃ S : ByteArray, S.data.toList = R.rest ∧ S.size ≤ maxLen ∧ w.heap[rb]? = some (.cells #[.string S, .bool R.bad] 167 (0, 0))
def RLeft (w : World) (rb : Nat) (R' : Rdr) (w' : World) : Prop := RdAt w' rb R' ∧ Kept [rb] w w'

section
variable {w w' : World} {rb : Nat} {R R' : Rdr}
theorem RdAt.lt (h : RdAt w rb R) : rb < w.heap.size := by
  obtain ⟨S, _, _, h⟩ := h
  exact (Array.getElem?_eq_some_iff.1 h).1
theorem RdAt.kept {fp : List Nat} (h : RdAt w rb R) (hk : Kept fp w w') (h1 : rb ∉ fp) : RdAt w' rb R := by
  have hl := h.lt
  obtain ⟨S, h2, h3, h4⟩ := h
  exact ⟨S, h2, h3, (hk.block rb hl h1).trans h4⟩
theorem RdAt.below (h : RdAt w rb R) (hb : Below w.heap.size w w') : RdAt w' rb R := h.kept (Kept.of_below (fp := []) hb) (by simp)
theorem RLeft.same (h : RdAt w rb R) : RLeft w rb R w := ⟨h, Kept.refl _ _⟩

theorem extract_list (S : ByteArray) (k : Nat) : (S.extract k S.size).data.toList = S.data.toList.drop k := by
  have h : (S.extract k S.size).data = S.data.extract k S.size := by simp
  rw [h, Array.toList_extract, List.extract_eq_take_drop]
  have e : S.size = S.data.toList.length := rfl
  rw [e, List.take_of_length_le (by simp)]
theorem extract_take (S : ByteArray) (k : Nat) : (S.extract 0 k).data.toList = S.data.toList.take k := by
  have h : (S.extract 0 k).data = S.data.extract 0 k := by simp
  rw [h, Array.toList_extract, List.extract_eq_take_drop]
  simp

/-- right. -/
theorem s_right_any (h : RdAt w rb R) : Calls Tryz.prog 120 #[.pointer (some ⟨rb, 0, none⟩)] w fun e w' => e = .returned (.bool (!R.bad)) ∧ w = w' := by
  obtain ⟨S, h2, h3, h4⟩ := h
  have c1 : w.cell? ⟨rb, 1, none⟩ = some (.bool R.bad) := by simp [World.cell?, h4]
  clear h2 h3 h4
  go_enter Tryz.func120, Tryz.ntmps120
  go_wp2
  all_goals go_ret
  all_goals exact ⟨rfl, rfl⟩
theorem right_nil (w : World) : Calls Tryz.prog 120 #[.pointer none] w fun e w' => e = .returned (.bool false) ∧ w = w' := by
  go_enter Tryz.func120, Tryz.ntmps120
  go_wp2
  go_ret
  exact ⟨rfl, rfl⟩

/-- What is left once a field is laid. -/
theorem RdAt.spoiled (h : RdAt w rb R) : RLeft w rb { R with bad := true } (w.setCell ⟨rb, 1, none⟩ (.bool true)) := by
  obtain ⟨S, h2, h3, h4⟩ := h
  exact ⟨⟨S, h2, h3, by rw [heap_setCell_of h4]; rfl⟩, Kept.setCell w rb 1 _⟩
theorem RdAt.dropped {S : ByteArray} (h : RdAt w rb R) (h2 : S.size ≤ maxLen) : RLeft w rb { R with rest := S.data.toList } (w.setCell ⟨rb, 0, none⟩ (.string S)) := by
  obtain ⟨S', _, _, h4⟩ := h
  exact ⟨⟨S, rfl, h2, by rw [heap_setCell_of h4]; rfl⟩, Kept.setCell w rb 0 _⟩

/-- number. -/
def Rdr.spoil (R : Rdr) : Rdr := { R with bad := true }
def Rdr.number (R : Rdr) (top : Nat) : Rdr × Option Nat :=
  if R.bad then (R, none) else
    match parseL R.rest with
    | none => (R.spoil, none)
    | some (n, k) => if top < n then (R.spoil, none) else ({ R with rest := R.rest.drop k }, some n)
def numV : Option Nat → Value
  | none => .tuple #[.int .u64 0, .bool false]
  | some n => .tuple #[.int .u64 (n : Int), .bool true]

set_option maxRecDepth 100000 in
set_option maxHeartbeats 3200000 in
theorem number_any (h : RdAt w rb R) (top : Nat) : Calls Tryz.prog 145 #[.pointer (some ⟨rb, 0, none⟩), .int .u64 (top : Int)] w fun e w' => e = .returned (numV (R.number top).2) ∧ RLeft w rb (R.number top).1 w' := by
  have RT := Lib.hid (s_right_any h)
  have H := Lib.hid h
  obtain ⟨S, h2, h3, h4⟩ := h
  have c0 : w.cell? ⟨rb, 0, none⟩ = some (.string S) := by simp [World.cell?, h4]
  have c1 : w.cell? ⟨rb, 1, none⟩ = some (.bool R.bad) := by simp [World.cell?, h4]
  have f0 : w.frozen? ⟨rb, 0, none⟩ = false := by simp [World.frozen?, h4]
  have f1 : w.frozen? ⟨rb, 1, none⟩ = false := by simp [World.frozen?, h4]
  have PA := Lib.hid (parse_any S w h3)
  cases hb : R.bad with
  | true =>
    have N : Hid (R.number top = (R, none)) := Lib.hid (by simp [Rdr.number, hb])
    rw [hb] at RT c1
    clear h2 h3 h4 PA hb
    go_enter Tryz.func145, Tryz.ntmps145
    go_wp2_with fail
    refine RT.out.mono ?_
    rintro e w1 ⟨rfl, rfl⟩
    go_wp2_with fail
    go_ret2
    exact ⟨by rw [N.out]; rfl, by rw [N.out]; exact RLeft.same H.out⟩
  | false =>
    rw [hb] at RT c1
    cases hp : parseL R.rest with
    | none =>
      have N : Hid (R.number top = (R.spoil, none)) := Lib.hid (by simp [Rdr.number, hb, hp])
      have hps : parsedV S.data.toList = .tuple #[.int .u64 0, .int .i64 0] := by unfold parsedV; rw [h2, hp]
      rw [hps] at PA
      have H2 := Lib.hid (And.intro h2 h3)
      clear h2 h3 h4 hb hps hp
      go_enter Tryz.func145, Tryz.ntmps145
      go_wp2_with fail
      refine RT.out.mono ?_
      rintro e w1 ⟨rfl, rfl⟩
      go_wp2_with fail
      refine PA.out.mono ?_
      rintro e w1 ⟨rfl, rfl⟩
      go_wp2_with fail
      go_ret2
      exact ⟨by rw [N.out]; rfl, by rw [N.out]; exact H.out.spoiled⟩
    | some nk =>
      obtain ⟨n, k⟩ := nk
      have hps : parsedV S.data.toList = .tuple #[.int .u64 (n : Int), .int .i64 (k : Int)] := by unfold parsedV; rw [h2, hp]
      rw [hps] at PA
      have F := parseL_form hp
      have hk : k ≤ S.size := by have : S.size = R.rest.length := by rw [← h2]; rfl
                                 omega
      have k0 : ¬ (k : Int) = 0 := by omega
      have k1 : (k : Int) ≤ (S.size : Int) := by omega
      have H2 := Lib.hid (And.intro h2 h3)
      by_cases ht : top < n
      · have N : Hid (R.number top = (R.spoil, none)) := Lib.hid (by simp [Rdr.number, hb, hp, ht])
        have q : (top : Int) < (n : Int) := by omega
        clear h2 h3 h4 hb hps hp F ht hk
        go_enter Tryz.func145, Tryz.ntmps145
        go_wp2_with fail
        refine RT.out.mono ?_
        rintro e w1 ⟨rfl, rfl⟩
        go_wp2_with fail
        refine PA.out.mono ?_
        rintro e w1 ⟨rfl, rfl⟩
        go_wp2_with fail
        go_ret2
        exact ⟨by rw [N.out]; rfl, by rw [N.out]; exact H.out.spoiled⟩
      · have N : Hid (R.number top = ({ R with rest := R.rest.drop k }, some n)) := Lib.hid (by simp [Rdr.number, hb, hp, ht])
        have qd : decide (top < n) = false := by simpa using ht
        have qk : ((k : Int) == 0) = false := by simpa using k0
        clear h2 h3 h4 hb hps hp F ht hk
        go_enter Tryz.func145, Tryz.ntmps145
        go_wp2_with fail
        refine RT.out.mono ?_
        rintro e w1 ⟨rfl, rfl⟩
        go_wp2_with fail
        refine PA.out.mono ?_
        rintro e w1 ⟨rfl, rfl⟩
        go_wp2_with fail
        go_ret2
        refine ⟨by rw [N.out]; rfl, ?_⟩
        rw [N.out]
        have hs : (S.extract k S.size).data.toList = R.rest.drop k := by rw [← H2.out.1]; exact extract_list S k
        have hd := H.out.dropped (S := S.extract k S.size) (by have := H2.out.2; simp only [ByteArray.size_extract]; omega)
        rw [hs] at hd
        exact hd
end
end Go.Proofs.YtpidjmgapiekaaaGreatDoor
