/- This text proves what the program's dice (package dice) and the document's answer for them compute, over the loaded program. -/
import Derived.Test.YtlgcobimaadclaaTally
import Derived.Test.YtlgcobimaadclaaAppend
import Derived.BigRegion
import Derived.Laws.OwnMore
namespace Go.Proofs.Ytlgcobimaadclaa
open Go.RowKit

theorem max2_int (k k' : IntKind) (x y : Int) : Builtin.max2 (.int k x) (.int k' y) = pure (.int k (if x < y then y else x)) := by simp only [Builtin.max2, gt_iff_lt]
theorem min2_int (k k' : IntKind) (x y : Int) : Builtin.min2 (.int k x) (.int k' y) = pure (.int k (if y < x then y else x)) := by simp only [Builtin.min2]
theorem max_two (ats : Array TypeId) (ty : TypeId) (a b : Value) : Builtin.max_ ats ty #[a, b] = (Builtin.max2 a b >>= fun s => pure s) := by simp only [Builtin.max_, List.foldlM_cons, List.foldlM_nil]
theorem min_two (ats : Array TypeId) (ty : TypeId) (a b : Value) : Builtin.min_ ats ty #[a, b] = (Builtin.min2 a b >>= fun s => pure s) := by simp only [Builtin.min_, List.foldlM_cons, List.foldlM_nil]
attribute [local go_sem] max2_int min2_int max_two min_two

/-- The seed behind so many draws. -/
def skipI (a m : Int) : Int := wrap64 (IntKind.u64.wrap (IntKind.u64.wrap a + IntKind.u64.wrap (IntKind.u64.wrap m * 11400714819323198485)))

theorem skipI_is (a m : Int) : skipI a m = wrap64 (a + m * 11400714819323198485) := by
  unfold skipI wrap64
  simp only [u64_wrap]
  omega

def mixI (z : Int) : Int :=
  Go.bits .xor .u64 (IntKind.u64.wrap (Go.bits .xor .u64 (IntKind.u64.wrap (Go.bits .xor .u64 z (z / 1073741824) * 13787848793156543929)) (IntKind.u64.wrap (Go.bits .xor .u64 z (z / 1073741824) * 13787848793156543929) / 134217728) * 10723151780598845931))
    (IntKind.u64.wrap (Go.bits .xor .u64 (IntKind.u64.wrap (Go.bits .xor .u64 z (z / 1073741824) * 13787848793156543929)) (IntKind.u64.wrap (Go.bits .xor .u64 z (z / 1073741824) * 13787848793156543929) / 134217728) * 10723151780598845931) / 2147483648)

theorem bits_range (x y : Int) : 0 ≤ Go.bits .xor .u64 x y ∧ Go.bits .xor .u64 x y < 18446744073709551616 := by
  unfold Go.bits
  exact ⟨u64_ge _, u64_lt _⟩

theorem mixI_range (z : Int) : 0 ≤ mixI z ∧ mixI z < 18446744073709551616 := bits_range _ _

set_option maxHeartbeats 400000 in
theorem skip_any (a m : Int) (w : World) :
    Calls Try.prog 13 #[.int .i64 a, .int .i64 m] w fun e w' => e = .returned (.int .i64 (skipI a m)) ∧ w = w' := by
  go_enter Try.func13, Try.ntmps13
  go_wp2
  go_ret
  exact ⟨rfl, rfl⟩

set_option maxHeartbeats 400000 in
theorem mixD_any (z : Int) (w : World) :
    Calls Try.prog 35 #[.int .u64 z] w fun e w' => e = .returned (.int .u64 (mixI z)) ∧ w = w' := by
  go_enter Try.func35, Try.ntmps35
  go_wp2
  go_ret
  exact ⟨rfl, rfl⟩

set_option maxHeartbeats 400000 in
theorem mixDR_any (z : Int) (w : World) :
    Calls Try.prog 38 #[.int .u64 z] w fun e w' => e = .returned (.int .u64 (mixI z)) ∧ w = w' := by
  go_enter Try.func38, Try.ntmps38
  go_wp2
  go_ret
  exact ⟨rfl, rfl⟩

def nextS (a : Int) : Int := skipI a 1
def nextN (a : Int) : Int := mixI (IntKind.u64.wrap (nextS a))

theorem nextS_is (a : Int) : nextS a = wrap64 (a + 11400714819323198485) := by
  unfold nextS
  rw [skipI_is, Int.one_mul]

set_option maxHeartbeats 400000 in
theorem next_any (a : Int) (w : World) :
    Calls Try.prog 12 #[.int .i64 a] w fun e w' => e = .returned (.tuple #[.int .i64 (nextS a), .int .u64 (nextN a)]) ∧ w = w' := by
  go_enter Try.func12, Try.ntmps12
  go_wp2_with fail
  refine (skip_any a 1 _).mono ?_
  rintro e w1 ⟨rfl, rfl⟩
  go_wp2_with fail
  refine (mixD_any _ _).mono ?_
  rintro e w1 ⟨rfl, rfl⟩
  go_wp2
  go_ret2
  exact ⟨rfl, rfl⟩

set_option maxHeartbeats 400000 in
theorem stepR_any (a : Int) (w : World) :
    Calls Try.prog 37 #[.int .i64 a] w fun e w' => e = .returned (.int .i64 (nextS a)) ∧ w = w' := by
  have H := Lib.hid (show nextS a = wrap64 (IntKind.u64.wrap (IntKind.u64.wrap a + 11400714819323198485)) by rw [nextS_is]; unfold wrap64; simp only [u64_wrap]; omega)
  go_enter Try.func37, Try.ntmps37
  go_wp2
  go_ret
  rw [H.out]
  exact ⟨rfl, rfl⟩

set_option maxHeartbeats 400000 in
theorem nextR_any (a : Int) (w : World) :
    Calls Try.prog 20 #[.int .i64 a] w fun e w' => e = .returned (.tuple #[.int .i64 (nextS a), .int .u64 (nextN a)]) ∧ w = w' := by
  go_enter Try.func20, Try.ntmps20
  go_wp2_with fail
  refine (stepR_any a _).mono ?_
  rintro e w1 ⟨rfl, rfl⟩
  go_wp2_with fail
  refine (stepR_any a _).mono ?_
  rintro e w1 ⟨rfl, rfl⟩
  go_wp2_with fail
  refine (mixDR_any _ _).mono ?_
  rintro e w1 ⟨rfl, rfl⟩
  go_wp2
  go_ret2
  exact ⟨rfl, rfl⟩

def drawN (a b : Int) : Int := if b ≤ 0 then 0 else nextN a % b

theorem nextN_range (a : Int) : 0 ≤ nextN a ∧ nextN a < 18446744073709551616 := mixI_range _

theorem drawN_range (a b : Int) : 0 ≤ drawN a b ∧ (0 < b → drawN a b < b) := by
  unfold drawN
  split
  · exact ⟨Int.le_refl _, fun h => by omega⟩
  · exact ⟨Int.emod_nonneg _ (by omega), fun h => Int.emod_lt_of_pos _ h⟩

def Two (a b : Value) (w : World) (e : Ending) (w' : World) : Prop := e = .returned (.tuple #[a, b]) ∧ ∃ n, w' = w.drewN n

set_option maxHeartbeats 800000 in
theorem draw_any (a b : Int) (w : World) (hb : b ≤ 9223372036854775807) :
    Calls Try.prog 21 #[.int .i64 a, .int .i64 b] w (Two (.int .i64 (nextS a)) (.int .i64 (drawN a b)) w) := by
  by_cases h : b ≤ 0
  · have HD := Lib.hid (show drawN a b = 0 by simp [drawN, h])
    rw [HD.out]
    go_enter Try.func21, Try.ntmps21
    go_wp2_with fail
    refine (next_any a _).mono ?_
    rintro e w1 ⟨rfl, rfl⟩
    go_wp2
    go_ret2
    exact ⟨rfl, 0, rfl⟩
  · have hr := nextN_range a
    have ht1 : decide (b ≤ 0) = false := by simp; omega
    have hq := Lib.hid (show wrap64 (nextN a % b) = drawN a b by
      have h2 := Int.emod_nonneg (nextN a) (show b ≠ 0 by omega)
      have h3 := Int.emod_lt_of_pos (nextN a) (show 0 < b by omega)
      unfold drawN
      rw [if_neg h]
      unfold wrap64
      omega)
    have hw : ¬ (IntKind.u64.wrap b = 0) := by rw [u64_wrap]; omega
    go_enter Try.func21, Try.ntmps21
    go_wp2_with fail
    refine (next_any a _).mono ?_
    rintro e w1 ⟨rfl, rfl⟩
    go_wp2_with fail
    go_quiet (fail)
    go_wp2
    go_ret2
    rw [hq.out]
    exact ⟨rfl, nq, rfl⟩

set_option maxHeartbeats 800000 in
theorem drawR_any (a b : Int) (w : World) (hb : b ≤ 9223372036854775807) :
    Calls Try.prog 22 #[.int .i64 a, .int .i64 b] w (Two (.int .i64 (nextS a)) (.int .i64 (drawN a b)) w) := by
  by_cases h : b ≤ 0
  · have HD := Lib.hid (show drawN a b = 0 by simp [drawN, h])
    rw [HD.out]
    go_enter Try.func22, Try.ntmps22
    go_wp2_with fail
    refine (nextR_any a _).mono ?_
    rintro e w1 ⟨rfl, rfl⟩
    go_wp2
    go_ret2
    exact ⟨rfl, 0, rfl⟩
  · have hr := nextN_range a
    have ht1 : decide (b ≤ 0) = false := by simp; omega
    have hq := Lib.hid (show wrap64 (nextN a % b) = drawN a b by
      have h2 := Int.emod_nonneg (nextN a) (show b ≠ 0 by omega)
      have h3 := Int.emod_lt_of_pos (nextN a) (show 0 < b by omega)
      unfold drawN
      rw [if_neg h]
      unfold wrap64
      omega)
    have hw : ¬ (IntKind.u64.wrap b = 0) := by rw [u64_wrap]; omega
    go_enter Try.func22, Try.ntmps22
    go_wp2_with fail
    refine (nextR_any a _).mono ?_
    rintro e w1 ⟨rfl, rfl⟩
    go_wp2_with fail
    go_quiet (fail)
    go_wp2
    go_ret2
    rw [hq.out]
    exact ⟨rfl, nq, rfl⟩

/-- Whole numbers that lie in a block of just so many. -/
def Row3 (w : World) (g : Nat) (l : List Int) : Prop := w.heap[g]? = some (.cells (l.map (Value.int .i64)).toArray 3 (0, 0))

theorem Row3.cell {w : World} {g : Nat} {l : List Int} (h : Row3 w g l) (i : Nat) (hi : i < l.length) : w.cell? ⟨g, i, none⟩ = some (.int .i64 (l.getD i 0)) := by
  simp [World.cell?, show w.heap[g]? = _ from h, hi]
theorem Row3.frozen {w : World} {g : Nat} {l : List Int} (h : Row3 w g l) (i : Nat) : w.frozen? ⟨g, i, none⟩ = false := by
  simp [World.frozen?, show w.heap[g]? = _ from h]
theorem Row3.set {w : World} {g : Nat} {l : List Int} (h : Row3 w g l) (i : Nat) (x : Int) : Row3 (w.setCell ⟨g, i, none⟩ (.int .i64 x)) g (l.set i x) := by
  unfold Row3 World.setCell
  simp only [Array.getElem?_modify, if_true]
  rw [show w.heap[g]? = _ from h]
  simp [List.map_set]

/-- Two numbers change places. -/
def swapL (l : List Int) (i k : Nat) : List Int := (l.set i (l.getD k 0)).set k (l.getD i 0)

theorem swapL_length (l : List Int) (i k : Nat) : (swapL l i k).length = l.length := by simp [swapL]

/-- What is left of a shuffle from a place on, downward. -/
def shuf : Nat → Int → List Int → Int × List Int
  | 0, s, l => (s, l)
  | i + 1, s, l => shuf i (nextS s) (swapL l (i + 1) (drawN s ((i : Int) + 2)).toNat)

def rangeL (m : Nat) : List Int := (List.range m).map fun (i : Nat) => (i : Int)
def partL (k m : Nat) : List Int := rangeL k ++ List.replicate (m - k) 0

theorem partL_set (k m : Nat) (h : k < m) : (partL k m).set k (k : Int) = partL (k + 1) m := by
  have e : m - k = (m - (k + 1)) + 1 := by omega
  unfold partL
  rw [e, List.replicate_succ]
  have hl : (rangeL k).length = k := by simp [rangeL]
  rw [List.set_append_right _ _ (by omega), hl, Nat.sub_self]
  simp [rangeL, List.range_succ]

theorem partL_length (k m : Nat) (h : k ≤ m) : (partL k m).length = m := by simp [partL, rangeL]; omega
theorem partL_full (m : Nat) : partL m m = rangeL m := by simp [partL]

theorem info3 : (Try.prog.info? 3).map (fun i => (i.zero, i.size, i.bytes)) = some (some (.int .i64 0), 1, 8) := by kernel_rfl

theorem make_ints (w : World) (m : Nat) (hm : m ≤ 4096) : (Instr.makeSlice 41 (.int .i64 (m : Int)) (.int .i64 (m : Int))).run Try.prog w = .ok (.slice (some ⟨w.heap.size, 0, none⟩) m m) (w.alloc (.cells ((partL 0 m).map (Value.int .i64)).toArray 3)) := by
  obtain ⟨i0, hi, hz0, hz1, hz2⟩ := info_parts info3
  have h := run_make (P := Try.prog) w 41 3 i0 (.int .i64 0) Try.underlying41 hi hz0 .i64 .i64 (m : Int) (m : Int) (by omega) (Int.le_refl _) (by rw [hz2]; omega) (by omega)
  rw [h]
  simp only [Int.toNat_natCast, hz1, Nat.mul_one]
  have e : madeCells (Value.int .i64 0).cells m = ((partL 0 m).map (Value.int .i64)).toArray := by
    apply Array.ext'
    show (madeCells #[Value.int .i64 0] m).toList = _
    rw [toList_madeCells_one]
    simp [partL, rangeL]
  rw [e]

def ShufPost (w : World) (s : Int) (l : List Int) (e : Ending) (w' : World) : Prop := ∃ g, e = .returned (.tuple #[.int .i64 s, .slice (some ⟨g, 0, none⟩) l.length l.length]) ∧ Row3 w' g l ∧ Below w.heap.size w w' ∧ w.heap.size ≤ g

set_option maxHeartbeats 1600000 in
theorem shuffle_any (a n : Int) (m : Nat) (w : World) (hm : m ≤ 4096) (hn : (n < 0 ∧ m = 0) ∨ n = (m : Int)) :
    Calls Try.prog 23 #[.int .i64 a, .int .i64 n] w (ShufPost w (shuf (m - 1) a (rangeL m)).1 (shuf (m - 1) a (rangeL m)).2) := by
  have e1 : (if n < 0 then 0 else n) = (m : Int) := by
    rcases hn with ⟨h, rfl⟩ | rfl
    · rw [if_pos h]; rfl
    · rw [if_neg (by omega)]
  have e2 : (if (4096 : Int) < (m : Int) then (4096 : Int) else (m : Int)) = (m : Int) := if_neg (by omega)
  have hmk := make_ints w m hm
  clear hn
  go_enter Try.func23, Try.ntmps23
  go_wp2_with fail
  clear e1 e2 hmk
  go_loopw [7, 17] (fun _ i wr => ∃ k : Nat, k ≤ m ∧ i = .int .i64 k ∧ Row3 wr w.heap.size (partL k m) ∧ Below w.heap.size w wr) (fun _ i _ => m - (intOf i).toNat)
  case atStart => exact ⟨0, Nat.zero_le _, rfl, heap_alloc_new w _, (Below.refl _ _).alloc (Nat.le_refl _) _⟩
  case round =>
    obtain ⟨k, hk, rfl, hR, hB⟩ := hrel
    by_cases hlt : k < m
    · have hi1 : (0 : Int) ≤ (k : Int) := by omega
      have hi2 : (k : Int) < (m : Int) := by omega
      have hc := hR.cell k (by rw [partL_length _ _ hk]; exact hlt)
      have hf := hR.frozen k
      have R := Lib.hid hR
      have BB := Lib.hid hB
      clear hR hB
      go_wp2
      go_roundw
      case rel => exact ⟨k + 1, by omega, by go_num, by rw [← partL_set k m hlt]; exact R.out.set k _, BB.out.setCell (Nat.le_refl _) _⟩
      case measure => simp [intOf]; omega
    · obtain rfl : k = m := by omega
      rw [partL_full] at hR
      obtain ⟨g, hg⟩ : ∃ g, g = w.heap.size := ⟨_, rfl⟩
      have G := Lib.hid (show w.heap.size ≤ g by omega)
      have hR0 : Row3 wr g (rangeL k) := by rw [hg]; exact hR
      rw [← hg]
      clear hg hR
      obtain ⟨wo, hwo⟩ : ∃ wo, wo = wr := ⟨_, rfl⟩
      subst hwo
      have R0 := Lib.hid hR0
      have B0 := Lib.hid hB
      clear hR0 hB
      go_wp2_with fail
      go_loopw [0, 8, 9, 10] (fun s0 i _ _ wr => ∃ (q s : Int) (l : List Int), -1 ≤ q ∧ q < k ∧ i = .int .i64 q ∧ s0 = .int .i64 s ∧ l.length = k ∧ shuf q.toNat s l = shuf (k - 1) a (rangeL k) ∧ Row3 wr g l ∧ Below w.heap.size w wr) (fun _ i _ _ _ => (intOf i).toNat)
      case atStart => exact ⟨(k : Int) - 1, a, rangeL k, by omega, by omega, rfl, rfl, by simp [rangeL], by rw [show ((k : Int) - 1).toNat = k - 1 by omega], R0.out, B0.out⟩
      case round =>
        obtain ⟨q, s, l, hq, hqk, rfl, rfl, hl, hsh, hR, hB⟩ := hrel
        by_cases h0 : 0 < q
        · obtain ⟨j, rfl⟩ : ∃ j : Nat, q = (j : Int) + 1 := ⟨(q - 1).toNat, by omega⟩
          have SH := Lib.hid hsh
          have R := Lib.hid hR
          have BB := Lib.hid hB
          have LL := Lib.hid hl
          clear hsh hR hB hl
          have hr := drawN_range s ((j : Int) + 2)
          obtain ⟨d, hd⟩ : ∃ d : Nat, drawN s ((j : Int) + 2) = (d : Int) := ⟨(drawN s ((j : Int) + 2)).toNat, by omega⟩
          have D := Lib.hid hd
          have hd1 : (0 : Int) ≤ (d : Int) := by omega
          have hd2 : (d : Int) < (k : Int) := by have := hr.2 (by omega); omega
          have hj1 : (0 : Int) ≤ (j : Int) + 1 := by omega
          have hci := R.out.cell (j + 1) (by rw [LL.out]; omega)
          have hcd := R.out.cell d (by rw [LL.out]; omega)
          have hfi := R.out.frozen (j + 1)
          have hfd := R.out.frozen d
          clear hr hd
          go_wp2_with fail
          rw [show ((j : Int) + 1 + 1) = (j : Int) + 2 from by omega]
          refine (draw_any s _ _ (by omega)).mono ?_
          rintro e w2 ⟨rfl, n2, rfl⟩
          rw [D.out]
          obtain ⟨x, hx⟩ : ∃ x, ((wr.drewN (n2 + 1)).setCell ⟨g, j + 1, none⟩ (.int .i64 (l[d]?.getD 0))).cell? ⟨g, d, none⟩ = some (.int .i64 x) :=
            ⟨_, Row3.cell (Row3.set (w := wr.drewN (n2 + 1)) (g := g) (l := l) R.out (j + 1) (l[d]?.getD 0)) d (by rw [List.length_set, LL.out]; omega)⟩
          go_wp2_with fail
          go_region
          clear hx
          go_wp2
          go_roundw
          case rel =>
            refine ⟨(j : Int), nextS s, swapL l (j + 1) d, by omega, by omega, by go_num, rfl, by rw [swapL_length, LL.out], ?_, ?_, ?_⟩
            · rw [← SH.out, show ((j : Int) + 1).toNat = j + 1 by omega, Int.toNat_natCast]
              show _ = shuf j (nextS s) (swapL l (j + 1) (drawN s ((j : Int) + 2)).toNat)
              rw [D.out, Int.toNat_natCast]
            · have h := Row3.set (Row3.set (w := wr) (g := g) (l := l) R.out (j + 1) (l.getD d 0)) d (l.getD (j + 1) 0)
              exact h
            · exact ((show Below w.heap.size w (wr.drewN (n2 + 1)) from ⟨BB.out.os, BB.out.tape, BB.out.output, BB.out.size, BB.out.block⟩).setCell G.out _).setCell G.out _
          case measure => simp [intOf]
        · have hq0 : q.toNat = 0 := by omega
          rw [hq0] at hsh
          have SH := Lib.hid hsh
          have BB := Lib.hid hB
          have R := Lib.hid hR
          clear hsh hB hR hq0
          go_wp2
          go_ret2
          have hs : shuf (k - 1) a (rangeL k) = (s, l) := SH.out.symm
          rw [hs]
          exact ⟨g, by simp [hl], R.out, BB.out, G.out⟩

/-! ### The document's answer -/
def OwnI (w : World) (base : Nat) (v : Value) (l : List Int) : Prop := w.ownsRow base 3 1 v l.length (l.map (Value.int .i64))

theorem int_one (k : IntKind) (l : List Int) : ∀ u ∈ l.map (Value.int k), u.oneCell' = true := by
  intro u hu
  obtain ⟨x, _, rfl⟩ := List.mem_map.1 hu
  rfl

theorem OwnI.below {w w' : World} {base : Nat} {v : Value} {l : List Int} (h : OwnI w base v l) (hb : Below w.heap.size w w') : OwnI w' base v l :=
  World.ownsRow.kept h (row := none) ⟨hb.os, hb.tape, hb.output, hb.size, fun k hk _ => hb.block k hk⟩ (by cases hv : v.ownBlock <;> simp)

theorem app_int {w0 w : World} {ops : Array Oper} {rest : List Oper} {o : Oper} {a : Act} {Q : Exit → Act → World → Prop} (hgd : o.guard = none) (s x : Operand)
    (ho : o.op = .call { callee := .builtin .append, args := #[s, x], argTypes := #[41, 41] })
    (v : Value) (xs : List Int) (hs : a.eval s = v) (hown : OwnI w w0.heap.size v xs) (hB : Below w0.heap.size w0 w)
    (n : Int) (hx : a.eval x = .slice (some ⟨w.heap.size, 0, none⟩) 1 1) (hn : xs.length ≤ 1000000)
    (h : ∀ v' w', OwnI w' w0.heap.size v' (xs ++ [n]) → Below w0.heap.size w0 w' → wpList Try.prog ops Q rest (a.put o.dst v') w') :
    wpList Try.prog ops Q (o :: rest) a (w.alloc (.cells #[.int .i64 n] 3)) := by
  have hB' := hB.alloc hB.size (.cells #[.int .i64 n] 3)
  refine wpList_append_cells hgd s x 41 ho w0.heap.size 3 (.int .i64 0) 1 8 Try.underlying41 info3 rfl (by decide) v xs.length (xs.map (Value.int .i64)) hs (hown.alloc _) _ 1 1 [.int .i64 n] hx rfl (cells_one _ _ _) (int_one .i64 [n]) (by simp [maxLen]; omega) (by omega) hB'.size ?_
  intro v' w' o' g' _ _
  refine h v' w' ?_ (hB'.grown g' hB'.size (fun k hk => (World.ownsRow.lt hown k hk).1))
  unfold OwnI
  rw [List.length_append, List.map_append]
  exact o'

/-- A slice of the call's own, opened: its cells, and what a store does. -/
theorem OwnI.slice {w : World} {base : Nat} {v : Value} {l : List Int} (h : OwnI w base v l) : l = [] ∨ ∃ g c, v = .slice (some ⟨g, 0, none⟩) l.length c ∧ base ≤ g := by
  rcases h.2 with ⟨rfl, h0⟩ | ⟨g, cap, cur, rfl, hg, hh, hc, hm, hs, ht⟩
  · exact .inl (List.eq_nil_of_length_eq_zero h0)
  · exact .inr ⟨g, cap, rfl, hg⟩
theorem OwnI.cell {w : World} {base g c : Nat} {l : List Int} (h : OwnI w base (.slice (some ⟨g, 0, none⟩) l.length c) l) (i : Nat) (hi : i < l.length) : w.cell? ⟨g, i, none⟩ = some (.int .i64 (l.getD i 0)) := by
  have := World.ownsRow.cells h (g := g) rfl i (.int .i64 (l.getD i 0)) (by simp [hi])
  rw [add_plain, Nat.zero_add] at this
  exact this
theorem OwnI.set {w : World} {base g c : Nat} {l : List Int} (h : OwnI w base (.slice (some ⟨g, 0, none⟩) l.length c) l) (i : Nat) (x : Int) : OwnI (w.setCell ⟨g, i, none⟩ (.int .i64 x)) base (.slice (some ⟨g, 0, none⟩) l.length c) (l.set i x) := by
  have := (World.ownsRow.stored h i (.int .i64 x)).1
  unfold OwnI
  rw [List.length_set, List.map_set]
  exact this

theorem OwnI.cells {w : World} {base : Nat} {v : Value} {l : List Int} (h : OwnI w base v l) : ∃ A c, v = .slice A l.length c ∧ Cells w A (l.map (Value.int .i64)) := by
  have hl := h.1
  rcases h.2 with ⟨rfl, h0⟩ | ⟨g, cap, cur, rfl, hg, hh, hc, hm, hs, ht⟩
  · have : l = [] := List.eq_nil_of_length_eq_zero h0
    subst this
    exact ⟨none, 0, rfl, Cells.nil _ _⟩
  · refine ⟨_, cap, rfl, fun i v hi => ?_⟩
    refine ⟨g, 0, rfl, ?_⟩
    have := World.ownsRow.cells h (g := g) rfl i v hi
    rwa [add_plain] at this

def ShufPostR (w : World) (s : Int) (l : List Int) (e : Ending) (w' : World) : Prop := ∃ v, e = .returned (.tuple #[.int .i64 s, v]) ∧ OwnI w' w.heap.size v l ∧ Below w.heap.size w w'

set_option maxHeartbeats 1600000 in
theorem shuffleR_any (a n : Int) (m : Nat) (w : World) (hm : m ≤ 4096) (hn : (n < 0 ∧ m = 0) ∨ n = (m : Int)) :
    Calls Try.prog 24 #[.int .i64 a, .int .i64 n] w (ShufPostR w (shuf (m - 1) a (rangeL m)).1 (shuf (m - 1) a (rangeL m)).2) := by
  go_enter Try.func24, Try.ntmps24
  go_wp2
  go_loopw [6, 7] (fun v i wr => ∃ k : Nat, k ≤ m ∧ i = .int .i64 k ∧ OwnI wr w.heap.size v (rangeL k) ∧ Below w.heap.size w wr) (fun _ i _ => m - (intOf i).toNat)
  case atStart => exact ⟨0, Nat.zero_le _, rfl, World.ownsRow_made w #[] 0 (Nat.le_refl _) (by simp [maxLen]) (by simp), (Below.refl _ _).alloc (Nat.le_refl _) _⟩
  case round =>
    obtain ⟨k, hk, rfl, hR, hB⟩ := hrel
    by_cases hlt : k < m
    · have t1 : decide ((k : Int) < n) = true := by simp; omega
      have t2 : decide ((k : Int) < 4096) = true := by simp; omega
      have hlen : (rangeL k).length ≤ 4096 := by simp [rangeL]; omega
      clear hn
      go_wp2_with (at_builtin; refine app_int (w0 := w) rfl (.tmp 22) (.tmp 24) rfl _ _ rfl hR hB (k : Int) rfl ?len ?rest)
      case len => omega
      case rest =>
        intro v' w' o' b'
        go_wp2
        go_roundw
        case rel => exact ⟨k + 1, by omega, by go_num, by have e : rangeL (k + 1) = rangeL k ++ [(k : Int)] := by simp [rangeL, List.range_succ]
                                                          rw [e]; exact o', b'⟩
        case measure => simp [intOf]; omega
    · obtain rfl : k = m := by omega
      have t1 : decide ((k : Int) < n) = false := by simp; omega
      have hv := hR.cells
      obtain ⟨A, c, rfl, _⟩ := hv
      have hlen : (rangeL k).length = k := by simp [rangeL]
      rw [hlen] at hR
      rw [hlen]
      have R0 := Lib.hid hR
      have B0 := Lib.hid hB
      clear hR hB hn hlen
      go_wp2_with fail
      clear t1
      go_loopw [0, 8, 9, 10, 11] (fun s0 i _ _ _ wq => ∃ (q s : Int) (l : List Int), -1 ≤ q ∧ q < k ∧ i = .int .i64 q ∧ s0 = .int .i64 s ∧ l.length = k ∧ shuf q.toNat s l = shuf (k - 1) a (rangeL k) ∧ OwnI wq w.heap.size (.slice A k c) l ∧ Below w.heap.size w wq) (fun _ i _ _ _ _ => (intOf i).toNat)
      case atStart => exact ⟨(k : Int) - 1, a, rangeL k, by omega, by omega, rfl, rfl, by simp [rangeL], by rw [show ((k : Int) - 1).toNat = k - 1 by omega], R0.out, B0.out⟩
      case round =>
        obtain ⟨q, s, l, hq, hqk, rfl, rfl, hl, hsh, hR, hB⟩ := hrel
        by_cases h0 : 0 < q
        · obtain ⟨j, rfl⟩ : ∃ j : Nat, q = (j : Int) + 1 := ⟨(q - 1).toNat, by omega⟩
          obtain ⟨g, c', hv, hg⟩ : ∃ g c', Value.slice A k c = .slice (some ⟨g, 0, none⟩) l.length c' ∧ w.heap.size ≤ g := by
            rcases hR.slice with h | h
            · subst h; simp at hl; omega
            · exact h
          obtain ⟨rfl, rfl⟩ : A = some ⟨g, 0, none⟩ ∧ c = c' := by simp at hv; exact ⟨hv.1, hv.2.2⟩
          have SH := Lib.hid hsh
          have LL := Lib.hid hl
          have hR' : OwnI wr w.heap.size (.slice (some ⟨g, 0, none⟩) l.length c) l := by rw [hl]; exact hR
          have R := Lib.hid hR'
          have BB := Lib.hid hB
          have G := Lib.hid hg
          clear hsh hR hR' hB hl hv hg
          have hr := drawN_range s ((j : Int) + 2)
          obtain ⟨d, hd⟩ : ∃ d : Nat, drawN s ((j : Int) + 2) = (d : Int) := ⟨(drawN s ((j : Int) + 2)).toNat, by omega⟩
          have D := Lib.hid hd
          have hd1 : (0 : Int) ≤ (d : Int) := by omega
          have hd2 : (d : Int) < (k : Int) := by have := hr.2 (by omega); omega
          have hj1 : (0 : Int) ≤ (j : Int) + 1 := by omega
          have hci := R.out.cell (j + 1) (by rw [LL.out]; omega)
          have hcd := R.out.cell d (by rw [LL.out]; omega)
          clear hr hd
          go_wp2_with fail
          rw [show ((j : Int) + 1 + 1) = (j : Int) + 2 from by omega]
          refine (drawR_any s _ _ (by omega)).mono ?_
          rintro e w2 ⟨rfl, n2, rfl⟩
          rw [D.out]
          have hfi : wr.frozen? ⟨g, j + 1, none⟩ = false := World.ownsRow.frozenAt R.out (j + 1)
          have hfd : wr.frozen? ⟨g, d, none⟩ = false := World.ownsRow.frozenAt R.out d
          obtain ⟨x, hx⟩ : ∃ x, ((wr.drewN n2).setCell ⟨g, j + 1, none⟩ (.int .i64 (l[d]?.getD 0))).cell? ⟨g, d, none⟩ = some (.int .i64 x) := by
            have h := OwnI.set (w := wr.drewN n2) (base := w.heap.size) (g := g) (c := c) (l := l) R.out (j + 1) (l[d]?.getD 0)
            have h' : OwnI ((wr.drewN n2).setCell ⟨g, j + 1, none⟩ (.int .i64 (l[d]?.getD 0))) w.heap.size (.slice (some ⟨g, 0, none⟩) (l.set (j + 1) (l[d]?.getD 0)).length c) (l.set (j + 1) (l[d]?.getD 0)) := by rw [List.length_set]; exact h
            exact ⟨_, h'.cell d (by rw [List.length_set, LL.out]; omega)⟩
          go_wp2
          clear hx
          go_roundw
          case rel =>
            refine ⟨(j : Int), nextS s, swapL l (j + 1) d, by omega, by omega, by go_num, rfl, by rw [swapL_length, LL.out], ?_, ?_, ?_⟩
            · rw [← SH.out, show ((j : Int) + 1).toNat = j + 1 by omega, Int.toNat_natCast]
              show _ = shuf j (nextS s) (swapL l (j + 1) (drawN s ((j : Int) + 2)).toNat)
              rw [D.out, Int.toNat_natCast]
            · have h := OwnI.set (w := wr.drewN n2) (base := w.heap.size) (g := g) (c := c) (l := l) R.out (j + 1) (l.getD d 0)
              have h' : OwnI ((wr.drewN n2).setCell ⟨g, j + 1, none⟩ (.int .i64 (l.getD d 0))) w.heap.size (.slice (some ⟨g, 0, none⟩) (l.set (j + 1) (l.getD d 0)).length c) (l.set (j + 1) (l.getD d 0)) := by rw [List.length_set]; exact h
              have h2 := h'.set d (l.getD (j + 1) 0)
              rw [List.length_set, LL.out] at h2
              exact h2
            · exact ((show Below w.heap.size w (wr.drewN n2) from ⟨BB.out.os, BB.out.tape, BB.out.output, BB.out.size, BB.out.block⟩).setCell G.out _).setCell G.out _
          case measure => simp [intOf]
        · have hq0 : q.toNat = 0 := by omega
          rw [hq0] at hsh
          have SH := Lib.hid hsh
          have BB := Lib.hid hB
          have R := Lib.hid hR
          clear hsh hB hR hq0
          go_wp2
          go_ret2
          have hs : shuf (k - 1) a (rangeL k) = (s, l) := SH.out.symm
          rw [hs]
          exact ⟨_, rfl, R.out, BB.out⟩

end Go.Proofs.Ytlgcobimaadclaa
