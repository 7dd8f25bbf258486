/- This text proves what the strand's reader computes, over the loaded program: a byte, counts, numbers, sets, what is left, the end. -/
import Derived.Test.YtpidjmgapiekaaaGreatDoorReader2
import Derived.Lib.Zigzag
namespace Go.Proofs.YtpidjmgapiekaaaGreatDoor
open Go.RowKit Go.WideShapes

theorem bytes_none (S : ByteArray) : S.toList.isEmpty = S.data.toList.isEmpty := by rw [ByteArray.toList_eq]

section
variable {w w' : World} {rb : Nat} {R R' : Rdr}

def Rdr.byte (R : Rdr) : Rdr × Nat := if R.bad then (R, 0) else match R.rest with
  | [] => (R.spoil, 0)
  | b :: r => ({ R with rest := r }, b.toNat)

set_option maxRecDepth 100000 in
set_option maxHeartbeats 3200000 in
/-- Byte. -/
theorem rbyte_any (h : RdAt w rb R) : Calls Tryz.prog 66 #[.pointer (some ⟨rb, 0, none⟩)] w fun e w' => e = .returned (.int .i64 (R.byte.2 : Int)) ∧ RLeft w rb R.byte.1 w' := by
  have RT := Lib.hid (s_right_any h)
  have H := Lib.hid h
  obtain ⟨S, h2, h3, h4⟩ := h
  have c0 : w.cell? ⟨rb, 0, none⟩ = some (.string S) := by simp [World.cell?, h4]
  have c1 : w.cell? ⟨rb, 1, none⟩ = some (.bool R.bad) := by simp [World.cell?, h4]
  have f0 : w.frozen? ⟨rb, 0, none⟩ = false := by simp [World.frozen?, h4]
  have f1 : w.frozen? ⟨rb, 1, none⟩ = false := by simp [World.frozen?, h4]
  cases hb : R.bad with
  | true =>
    have N : Hid (R.byte = (R, 0)) := Lib.hid (by simp [Rdr.byte, hb])
    rw [hb] at RT c1
    clear h2 h3 h4 hb
    go_enter Tryz.func66, Tryz.ntmps66
    go_wp2_with fail
    refine RT.out.mono ?_
    rintro e w1 ⟨rfl, rfl⟩
    go_wp2_with fail
    go_ret
    exact ⟨by rw [N.out]; rfl, by rw [N.out]; exact RLeft.same H.out⟩
  | false =>
    rw [hb] at RT c1
    cases hr : R.rest with
    | nil =>
      have N : Hid (R.byte = (R.spoil, 0)) := Lib.hid (by simp [Rdr.byte, hb, hr])
      obtain rfl : S = ⟨#[]⟩ := by
        rw [hr] at h2
        cases S with
        | mk d => congr 1; exact Array.toList_inj.1 h2
      clear h2 h3 h4 hb hr
      go_enter Tryz.func66, Tryz.ntmps66
      go_wp2_with fail
      refine RT.out.mono ?_
      rintro e w1 ⟨rfl, rfl⟩
      go_wp2_with fail
      go_ret
      exact ⟨by rw [N.out]; rfl, by rw [N.out]; exact H.out.spoiled⟩
    | cons b r =>
      have N : Hid (R.byte = ({ R with rest := r }, b.toNat)) := Lib.hid (by simp [Rdr.byte, hb, hr])
      have H2 := Lib.hid (And.intro h2 h3)
      have hsz : S.size = r.length + 1 := by
        have : S.size = S.data.toList.length := rfl
        rw [this, h2, hr]; rfl
      have s0 : 0 < S.size := by omega
      have s1 : (0 : Int) < (S.size : Int) := by omega
      have s2 : (1 : Int) ≤ (S.size : Int) := by omega
      have e0 : S[0]'s0 = b := by
        have : S[0]'s0 = S.data.toList[0]'s0 := rfl
        rw [this]
        simp only [h2, hr]
        rfl
      have g0 : IntKind.i64.wrap ((S[0]'s0).toNat : Int) = (b.toNat : Int) := by rw [e0]; exact IntWalk.i64_in _ (by have := b.toNat_lt; omega)
      have e1 : S.toList.isEmpty = false := by rw [bytes_none, h2, hr]; rfl
      have hx : (S.extract 1 S.size).data.toList = r := by rw [extract_list, h2, hr]; rfl
      clear e0
      clear h2 h3 h4 hb hr hsz
      go_enter Tryz.func66, Tryz.ntmps66
      go_wp2_with fail
      refine RT.out.mono ?_
      rintro e w1 ⟨rfl, rfl⟩
      go_wp2_with fail
      go_ret
      refine ⟨by rw [N.out]; rfl, ?_⟩
      rw [N.out]
      have hd := H.out.dropped (S := S.extract 1 S.size) (by have := H2.out.2; simp only [ByteArray.size_extract]; omega)
      rw [hx] at hd
      exact hd

/-- A number is within its bound. -/
theorem Rdr.number_le (R : Rdr) (top : Nat) : (R.number top).2.getD 0 ≤ top := by
  unfold Rdr.number
  split
  · simp
  · split
    · simp
    · split
      · simp
      · simp; omega
theorem numV_getD (o : Option Nat) : numV o = .tuple #[.int .u64 ((o.getD 0 : Nat) : Int), .bool o.isSome] := by cases o <;> rfl

/-- Count. -/
def Rdr.count (R : Rdr) : Rdr × Nat := ((R.number 9223372036854775807).1, (R.number 9223372036854775807).2.getD 0)
theorem rcount_any (h : RdAt w rb R) : Calls Tryz.prog 117 #[.pointer (some ⟨rb, 0, none⟩)] w fun e w' => e = .returned (.int .i64 (R.count.2 : Int)) ∧ RLeft w rb R.count.1 w' := by
  have T := Lib.hid (number_any h 9223372036854775807)
  rw [numV_getD] at T
  have hle := R.number_le 9223372036854775807
  unfold Rdr.count
  generalize R.number 9223372036854775807 = p at *
  obtain ⟨R1, o⟩ := p
  dsimp only at *
  generalize o.isSome = ok at *
  generalize o.getD 0 = n at *
  have hw : IntKind.i64.wrap (n : Int) = (n : Int) := IntWalk.i64_in _ (by omega)
  clear hle h
  go_enter Tryz.func117, Tryz.ntmps117
  go_wp2_with fail
  refine T.out.mono ?_
  rintro e w1 ⟨rfl, hl⟩
  have L := Lib.hid hl
  clear hl
  go_wp2_with fail
  go_ret
  exact ⟨rfl, L.out⟩

/-- Bits. -/
def Rdr.bits (R : Rdr) : Rdr × Nat := ((R.number 4294967295).1, (R.number 4294967295).2.getD 0)
/-- Num. -/
def unzig (n : Nat) : Int := if n % 2 = 1 then -((n / 2 : Nat) : Int) - 1 else ((n / 2 : Nat) : Int)
def Rdr.num (R : Rdr) : Rdr × Int := ((R.number 18446744073709551615).1, unzig ((R.number 18446744073709551615).2.getD 0))
theorem rnum_any (h : RdAt w rb R) : Calls Tryz.prog 119 #[.pointer (some ⟨rb, 0, none⟩)] w fun e w' => e = .returned (.int .i64 R.num.2) ∧ RLeft w rb R.num.1 w' := by
  have T := Lib.hid (number_any h 18446744073709551615)
  rw [numV_getD] at T
  have hle := R.number_le 18446744073709551615
  unfold Rdr.num
  generalize R.number 18446744073709551615 = p at *
  obtain ⟨R1, o⟩ := p
  dsimp only at *
  generalize o.isSome = ok at *
  generalize o.getD 0 = n at *
  have ha := Go.Lib.u64_and1 (n : Int) (by omega) (by omega)
  have hx := Go.Lib.i64_not (n / 2) (by omega)
  have hx2 : Go.bits .xor .i64 (-1) ((n : Int) / 2) = -((n / 2 : Nat) : Int) - 1 := by rw [← hx]; rfl
  clear h hx
  by_cases h1 : n % 2 = 1
  · have hu : unzig n = -((n / 2 : Nat) : Int) - 1 := by unfold unzig; rw [if_pos h1]
    have q : (n : Int) % 2 = 1 := by omega
    have X := Lib.hid hx2
    rw [q] at ha
    rw [hu]
    clear h1 hx2 hu q
    go_enter Tryz.func119, Tryz.ntmps119
    go_wp2_with fail
    refine T.out.mono ?_
    rintro e w1 ⟨rfl, hl⟩
    have L := Lib.hid hl
    clear hl
    go_wp2_with fail
    go_ret
    exact ⟨by rw [X.out]; rfl, L.out⟩
  · have hu : unzig n = ((n / 2 : Nat) : Int) := by unfold unzig; rw [if_neg h1]
    have q : (n : Int) % 2 = 0 := by omega
    rw [q] at ha
    rw [hu]
    clear h1 hx2 hu q
    go_enter Tryz.func119, Tryz.ntmps119
    go_wp2_with fail
    refine T.out.mono ?_
    rintro e w1 ⟨rfl, hl⟩
    have L := Lib.hid hl
    clear hl
    go_wp2_with fail
    go_ret
    exact ⟨rfl, L.out⟩

end

/-- NewReader. -/
theorem rnew_any (S : ByteArray) (hs : S.size ≤ maxLen) (w : World) : Calls Tryz.prog 64 #[.string S] w fun e w' => e = .returned (.pointer (some ⟨w.heap.size, 0, none⟩)) ∧ RdAt w' w.heap.size { rest := S.data.toList, bad := false } ∧ Below w.heap.size w w' := by
  have hs2 := Lib.hid hs
  clear hs
  go_enter Tryz.func64, Tryz.ntmps64
  go_wp2
  go_ret
  exact ⟨rfl, ⟨S, rfl, hs2.out, heap_alloc_new _ _⟩, (Below.refl _ _).alloc (Nat.le_refl _) _⟩

end Go.Proofs.YtpidjmgapiekaaaGreatDoor
