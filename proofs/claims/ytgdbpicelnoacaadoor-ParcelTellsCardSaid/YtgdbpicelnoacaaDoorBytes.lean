/- This text turns texts into rows of bytes and back, over the loaded program, and picks places and bytes. -/
import Derived.Test.YtgdbpicelnoacaaDoorTal
import Derived.Lib.ConvBytes
namespace Go.Proofs.YtgdbpicelnoacaaDoor
open Go.RowKit Go.WideShapes

theorem index_of (x n : Int) (h : 0 < n) (hn : n < 4611686018427387904) : ∃ k : Nat, wrap64 ((IntKind.u64.wrap x).tmod n) = (k : Int) ∧ (k : Int) < n := by
  refine ⟨((x % 18446744073709551616) % n).toNat, ?_⟩
  rw [show IntKind.u64.wrap x = x % 18446744073709551616 from rfl, Int.tmod_eq_emod_of_nonneg (by omega)]
  have a := Int.emod_nonneg (x % 18446744073709551616) (show n ≠ 0 by omega)
  have b := Int.emod_lt_of_pos (x % 18446744073709551616) h
  generalize (x % 18446744073709551616) % n = y at *
  unfold wrap64
  omega
theorem xor_other (c : UInt8) (m : Int) (h0 : 1 ≤ m) (h1 : m ≤ 255) : UInt8.ofNat (Go.bits .xor .u8 (c.toNat : Int) m).toNat ≠ c := by
  obtain ⟨d, rfl⟩ : ∃ d : UInt8, m = (d.toNat : Int) := ⟨UInt8.ofNat m.toNat, by rw [UInt8.toNat_ofNat']; omega⟩
  have hx : Go.bits .xor .u8 (c.toNat : Int) (d.toNat : Int) = ((c ^^^ d).toNat : Int) := by
    have e : Go.bits .xor .u8 (c.toNat : Int) (d.toNat : Int) = ((BitVec.ofInt 8 (c.toNat : Int) ^^^ BitVec.ofInt 8 (d.toNat : Int)).toNat : Int) % 256 := rfl
    have ec : BitVec.ofInt 8 (c.toNat : Int) = c.toBitVec := by apply BitVec.eq_of_toNat_eq; have := c.toNat_lt; simp
    have ed : BitVec.ofInt 8 (d.toNat : Int) = d.toBitVec := by apply BitVec.eq_of_toNat_eq; have := d.toNat_lt; simp
    rw [e, ec, ed]
    have : (c.toBitVec ^^^ d.toBitVec).toNat = (c ^^^ d).toNat := rfl
    rw [this]
    have := (c ^^^ d).toNat_lt
    omega
  rw [hx]
  simp only [Int.toNat_natCast, UInt8.ofNat_toNat]
  intro h
  have h2 : d = 0 := by
    have : c ^^^ (c ^^^ d) = c ^^^ c := by rw [h]
    rwa [← UInt8.xor_assoc, UInt8.xor_self, UInt8.zero_xor] at this
  subst h2
  simp at h0

/-- A row of bytes that may be written. -/
def RowB (w : World) (g : Nat) (l : List Int) : Prop := ∀ j, j < l.length → w.cell? ⟨g, j, none⟩ = some (.int .u8 (l.getD j 0)) ∧ w.frozen? ⟨g, j, none⟩ = false
def ints (l : List UInt8) : List Int := l.map fun b => (b.toNat : Int)
theorem ints_len (l : List UInt8) : (ints l).length = l.length := by simp [ints]

theorem conv_bytes (w : World) (s : ByteArray) : ∃ g c w2, (convert 9 67 (.string s)).run Tryd.prog w = .ok (.slice (some ⟨g, 0, none⟩) s.size c) w2 ∧ RowB w2 g (ints s.data.toList) ∧ Below w.heap.size w w2 ∧ w.heap.size ≤ g := by
  refine ⟨_, _, _, Lib.run_convert_string_bytes w 9 67 5 s Tryd.underlying9 Tryd.underlying67 Tryd.underlying5, fun j hj => ⟨?_, ?_⟩, ⟨rfl, rfl, rfl, ?_, fun k hk => Lib.bytesWorld_at_old w 5 s k hk⟩, Nat.le_refl _⟩
  · rw [ints_len] at hj
    have h := Lib.bytesWorld_cell w 5 s j (by simpa using hj)
    rw [h]
    have hj' : j < s.data.toList.length := hj
    simp [ints, List.getD_eq_getElem?_getD]
    rw [Array.getElem?_eq_getElem (by simpa using hj')]
    simp
  · rw [ints_len] at hj
    have hl : j < (Lib.bytesCells w 5 s).size := by simp [Lib.bytesCells] at hj ⊢; omega
    simp only [World.frozen?, Lib.bytesWorld_at_new]
    simp; omega
  · rw [Lib.bytesWorld_size]; omega

theorem RowB.below {w w' : World} {g : Nat} {l : List Int} (h : RowB w g l) (hb : Below w.heap.size w w') : RowB w' g l := fun j hj => by
  obtain ⟨h1, h2⟩ := h j hj
  have hlt : g < w.heap.size := World.block_lt_of_cell? w _ h1
  have e := hb.block g hlt
  exact ⟨by simp only [World.cell?, e] at h1 ⊢; exact h1, by simp only [World.frozen?, e] at h2 ⊢; exact h2⟩
theorem RowB.set {w : World} {g k : Nat} {l : List Int} (h : RowB w g l) (x : Int) (hk : k < l.length) : RowB (w.setCell ⟨g, k, none⟩ (.int .u8 x)) g (l.set k x) := fun j hj => by
  rw [List.length_set] at hj
  obtain ⟨h1, h2⟩ := h j hj
  obtain ⟨hk1, _⟩ := h k hk
  refine ⟨?_, ?_⟩
  · by_cases e : j = k
    · subst e
      rw [World.cell?_setCell_same (w := w) (a := ⟨g, j, none⟩) (v := .int .u8 x) (h := hk1)]
      simp [hk]
    · rw [World.cell?_setCell_other (w := w) (a := ⟨g, k, none⟩) (b := ⟨g, j, none⟩) (v := .int .u8 x) (h := fun e2 => e (by cases e2; rfl)), h1]
      simp [Ne.symm e, List.getD_eq_getElem?_getD]
  · simpa using h2
theorem RowB.back {w : World} {g n c : Nat} {l : List Int} (h : RowB w g l) (hn : l.length = n) : (convert 67 9 (.slice (some ⟨g, 0, none⟩) n c)).run Tryd.prog w = .ok (.string (strOfNums l)) w :=
  run_convert_bytes_arg w 67 5 Tryd.underlying67 Tryd.underlying5 g 0 n c l hn (fun i hi => by rw [Nat.zero_add]; exact (h i (by omega)).1) 9 Tryd.underlying9

theorem nums_data (l : List UInt8) (k : Nat) (x : Int) : (strOfNums ((ints l).set k x)).data.toList = l.set k (UInt8.ofNat x.toNat) := by
  rw [strOfNums_data, ints, List.map_set, List.map_map]
  congr 1
  conv => rhs; rw [← List.map_id l]
  apply List.map_congr_left
  intro b _
  simp

end Go.Proofs.YtgdbpicelnoacaaDoor
