/- This text defines what the program's sums of bytes compute, as functions over whole numbers and lists, and proves the plain laws on them: a byte that is another one gives another sum; parts add up; mixing goes in any order. -/
import Derived.WalkKit
import Derived.Laws.BytesArg
namespace Go.Proofs.Ytlgcobimaadclaa
open Go.RowKit

theorem u64_wrap (x : Int) : IntKind.u64.wrap x = x % 18446744073709551616 := rfl
theorem u64_ge (x : Int) : 0 ≤ IntKind.u64.wrap x := by rw [u64_wrap]; omega
theorem u64_lt (x : Int) : IntKind.u64.wrap x < 18446744073709551616 := by rw [u64_wrap]; omega
theorem u8_wrap (x : Int) : IntKind.u8.wrap x = x % 256 := rfl
theorem u8_ge (x : Int) : 0 ≤ IntKind.u8.wrap x := by rw [u8_wrap]; omega
theorem u8_le (x : Int) : IntKind.u8.wrap x ≤ 255 := by rw [u8_wrap]; omega
theorem u8_of (x : Int) : ((UInt8.ofNat (x % 256).toNat).toNat : Int) = IntKind.u8.wrap x := by
  rw [u8_wrap, UInt8.toNat_ofNat']
  omega

/-- One byte more. -/
def stepI (s b : Int) : Int := IntKind.u64.wrap ((Go.bits .xor .u64 s b) * 1099511628211)

/-- The bytes of a list, added one by one. -/
def addL (s : Int) (l : List UInt8) : Int := l.foldl (fun s c => stepI s (c.toNat : Int)) s

theorem addL_snoc (s : Int) (l : List UInt8) (c : UInt8) : addL s (l ++ [c]) = stepI (addL s l) (c.toNat : Int) := by simp [addL]
theorem addL_append (s : Int) (l k : List UInt8) : addL s (l ++ k) = addL (addL s l) k := by simp [addL]
theorem addL_cons (s : Int) (c : UInt8) (l : List UInt8) : addL s (c :: l) = addL (stepI s (c.toNat : Int)) l := rfl

/-- A number's bytes, the least first. -/
def numL (n : Int) (k : Nat) : List UInt8 := (List.range k).map fun i => UInt8.ofNat (n / 2 ^ (8 * i) % 256).toNat

theorem numL_succ (n : Int) (k : Nat) : numL n (k + 1) = numL n k ++ [UInt8.ofNat (n / 2 ^ (8 * k) % 256).toNat] := by
  simp [numL, List.range_succ]

/-- The bytes of texts, one text behind the other. -/
def addLs (s : Int) (l : List ByteArray) : Int := l.foldl (fun s t => addL s t.data.toList) s

theorem addLs_take (s : Int) (l : List ByteArray) (k : Nat) (h : k < l.length) : addLs s (l.take (k + 1)) = addL (addLs s (l.take k)) l[k].data.toList := by
  unfold addLs
  rw [List.take_succ_eq_append_getElem h, List.foldl_append]
  rfl

def shortI (x : Int) : Int := Go.bits .xor .u32 (x % 4294967296) ((x / 4294967296) % 4294967296)

/-- Sums, mixed. -/
def mixL (l : List Int) : Int := l.foldl (fun s n => IntKind.u64.wrap (s + addL 14695981039346656037 (numL n 8))) 0

theorem mixL_take (l : List Int) (k : Nat) (h : k < l.length) : mixL (l.take (k + 1)) = IntKind.u64.wrap (mixL (l.take k) + addL 14695981039346656037 (numL l[k] 8)) := by
  unfold mixL
  rw [List.take_succ_eq_append_getElem h, List.foldl_append]
  rfl

theorem index_of (x n : Int) (h : 0 < n) (hn : n < 4611686018427387904) : ∃ k : Nat, wrap64 ((IntKind.u64.wrap x).tmod n) = (k : Int) ∧ (k : Int) < n := by
  refine ⟨((x % 18446744073709551616) % n).toNat, ?_⟩
  rw [u64_wrap, Int.tmod_eq_emod_of_nonneg (by omega)]
  have a := Int.emod_nonneg (x % 18446744073709551616) (show n ≠ 0 by omega)
  have b := Int.emod_lt_of_pos (x % 18446744073709551616) h
  generalize (x % 18446744073709551616) % n = y at *
  unfold wrap64
  omega

/-! ### Numbers as bits -/
def B (x : Int) : BitVec 64 := BitVec.ofInt 64 x
def N (b : BitVec 64) : Int := (b.toNat : Int)

theorem B_N (b : BitVec 64) : B (N b) = b := by
  unfold B N
  apply BitVec.eq_of_toNat_eq
  simp

theorem N_B {x : Int} (h : 0 ≤ x) (h' : x < 18446744073709551616) : N (B x) = x := by
  unfold B N
  rw [BitVec.toNat_ofInt]
  omega

theorem N_bd (b : BitVec 64) : 0 ≤ N b ∧ N b < 18446744073709551616 := by
  unfold N
  have := b.isLt
  omega

theorem N_inj {a b : BitVec 64} (h : N a = N b) : a = b := by rw [← B_N a, ← B_N b, h]

theorem xor_N (a b : BitVec 64) : Go.bits .xor .u64 (N a) (N b) = N (a ^^^ b) := by
  have h : Go.bits .xor .u64 (N a) (N b) = ((B (N a) ^^^ B (N b)).toNat : Int) % 18446744073709551616 := rfl
  rw [h, B_N, B_N]
  have := (a ^^^ b).isLt
  unfold N
  omega

theorem mul_N (a : BitVec 64) (c : Int) (h : 0 ≤ c) (h' : c < 18446744073709551616) : IntKind.u64.wrap (N a * c) = N (a * B c) := by
  rw [u64_wrap]
  unfold N
  rw [BitVec.toNat_mul]
  have e : ((B c).toNat : Int) = c := N_B h h'
  simp [e]

def stepB (s b : BitVec 64) : BitVec 64 := (s ^^^ b) * B 1099511628211

theorem stepI_N (s b : BitVec 64) : stepI (N s) (N b) = N (stepB s b) := by
  unfold stepI stepB
  rw [xor_N, mul_N _ _ (by decide) (by decide)]

theorem prime_back : B 1099511628211 * B 14886173955864302971 = 1#64 := by decide +kernel

theorem stepB_inj {s b s' b' : BitVec 64} (h : stepB s b = stepB s' b') : s ^^^ b = s' ^^^ b' := by
  have e : stepB s b * B 14886173955864302971 = stepB s' b' * B 14886173955864302971 := by rw [h]
  unfold stepB at e
  rwa [BitVec.mul_assoc, BitVec.mul_assoc, prime_back, BitVec.mul_one, BitVec.mul_one] at e

theorem xor_cancel (a b : BitVec 64) : a ^^^ b ^^^ b = a := by
  rw [BitVec.xor_assoc, BitVec.xor_self, BitVec.xor_zero]

/-- The bytes' way through bits. -/
def addB (s : BitVec 64) (l : List UInt8) : BitVec 64 := l.foldl (fun s c => stepB s (B (c.toNat : Int))) s

theorem N_byte (c : UInt8) : N (B (c.toNat : Int)) = (c.toNat : Int) := N_B (by omega) (by have := c.toNat_lt; omega)

theorem addL_N (l : List UInt8) : ∀ s, addL (N s) l = N (addB s l) := by
  induction l with
  | nil => intro s; rfl
  | cons c l ih =>
    intro s
    rw [addL_cons, ← N_byte c, stepI_N, ih]
    rfl

theorem addB_inj (l : List UInt8) : ∀ {s s' : BitVec 64}, addB s l = addB s' l → s = s' := by
  induction l with
  | nil => intro s s' h; exact h
  | cons c l ih =>
    intro s s' h
    have h1 := stepB_inj (ih h)
    rw [← xor_cancel s (B (c.toNat : Int)), h1, xor_cancel]

theorem addB_append (s : BitVec 64) (l k : List UInt8) : addB s (l ++ k) = addB (addB s l) k := by simp [addB]

theorem addB_tells (s : BitVec 64) (l k : List UInt8) (c c' : UInt8) (h : addB s (l ++ c :: k) = addB s (l ++ c' :: k)) : c = c' := by
  rw [addB_append, addB_append] at h
  have h1 := stepB_inj (addB_inj k (s := stepB (addB s l) (B (c.toNat : Int))) (s' := stepB (addB s l) (B (c'.toNat : Int))) h)
  have h2 : B (c.toNat : Int) = B (c'.toNat : Int) := by
    rw [BitVec.xor_comm _ (B (c.toNat : Int)), BitVec.xor_comm _ (B (c'.toNat : Int))] at h1
    rw [← xor_cancel (B (c.toNat : Int)) (addB s l), h1, xor_cancel]
  have h3 : (c.toNat : Int) = (c'.toNat : Int) := by rw [← N_byte c, h2, N_byte]
  exact UInt8.toNat_inj.1 (by omega)

theorem start_N : (14695981039346656037 : Int) = N (B 14695981039346656037) := (N_B (by decide) (by decide)).symm

/-- A byte that is another one gives another sum. -/
theorem addL_tells (l k : List UInt8) (c c' : UInt8) (hne : c ≠ c') : addL 14695981039346656037 (l ++ c :: k) ≠ addL 14695981039346656037 (l ++ c' :: k) := by
  rw [start_N, addL_N, addL_N]
  intro h
  exact hne (addB_tells _ l k c c' (N_inj h))

/-- A byte, exclusive or'ed with a number from 1 to 255, is another one. -/
theorem xor_other (c : UInt8) (m : Int) (h0 : 1 ≤ m) (h1 : m ≤ 255) : UInt8.ofNat (Go.bits .xor .u8 (c.toNat : Int) m).toNat ≠ c := by
  obtain ⟨d, rfl⟩ : ∃ d : UInt8, m = (d.toNat : Int) := ⟨UInt8.ofNat m.toNat, by rw [UInt8.toNat_ofNat']; omega⟩
  have hx : Go.bits .xor .u8 (c.toNat : Int) (d.toNat : Int) = ((c ^^^ d).toNat : Int) := by
    have e : Go.bits .xor .u8 (c.toNat : Int) (d.toNat : Int) = ((BitVec.ofInt 8 (c.toNat : Int) ^^^ BitVec.ofInt 8 (d.toNat : Int)).toNat : Int) % 256 := rfl
    have ec : BitVec.ofInt 8 (c.toNat : Int) = c.toBitVec := by apply BitVec.eq_of_toNat_eq; have := c.toNat_lt; simp
    have ed : BitVec.ofInt 8 (d.toNat : Int) = d.toBitVec := by apply BitVec.eq_of_toNat_eq; have := d.toNat_lt; simp
    rw [e, ec, ed]
    have : (c.toBitVec ^^^ d.toBitVec).toNat = (c ^^^ d).toNat := rfl
    rw [this]
    have := (c ^^^ d).toNat_lt
    omega
  rw [hx]
  simp only [Int.toNat_natCast, UInt8.ofNat_toNat]
  intro h
  have h2 : d = 0 := by
    have : c ^^^ (c ^^^ d) = c ^^^ c := by rw [h]
    rwa [← UInt8.xor_assoc, UInt8.xor_self, UInt8.zero_xor] at this
  subst h2
  simp at h0

end Go.Proofs.Ytlgcobimaadclaa
