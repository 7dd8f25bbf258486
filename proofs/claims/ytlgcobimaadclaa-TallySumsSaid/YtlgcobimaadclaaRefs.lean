/- This text proves what the document's answer for sums of bytes (package pasodobleref03) computes, over the loaded program. -/
import Derived.Test.YtlgcobimaadclaaMixes
namespace Go.Proofs.Ytlgcobimaadclaa
open Go.RowKit

theorem u64_byte (c : UInt8) : IntKind.u64.wrap (c.toNat : Int) = (c.toNat : Int) := by
  rw [u64_wrap]
  have := c.toNat_lt
  omega

set_option maxHeartbeats 400000 in
theorem on_any (s : Int) (t : ByteArray) (w : World) (ht : t.size ≤ maxLen) :
    Calls Try.prog 41 #[.int .u64 s, .string t] w fun e w' => e = .returned (.int .u64 (addL s t.data.toList)) ∧ w = w' := by
  unfold maxLen at ht
  go_enter Try.func41, Try.ntmps41
  go_wp2
  go_loop [0, 5] (fun h i => ∃ k : Nat, k ≤ t.size ∧ i = .int .i64 k ∧ h = .int .u64 (addL s (t.data.toList.take k))) (fun _ i => t.size - (intOf i).toNat)
  case atStart => exact ⟨0, Nat.zero_le _, rfl, rfl⟩
  case round =>
    obtain ⟨k, hk, rfl, rfl⟩ := hrel
    by_cases hlt : k < t.size
    · have hi1 : (0 : Int) ≤ (k : Int) := by omega
      have hi2 : (k : Int) < (t.size : Int) := by omega
      go_wp2
      go_round
      case rel => exact ⟨k + 1, by omega, by go_num, by rw [take_snoc _ _ hlt, addL_snoc, stepI, u64_byte]⟩
      case measure => simp [intOf]; omega
    · have e : t.data.toList.take k = t.data.toList := List.take_of_length_le (by simp; omega)
      rw [e]
      go_wp2
      go_ret
      exact ⟨rfl, rfl⟩

set_option maxHeartbeats 400000 in
theorem ofR_any (A : Option Addr) (c : Nat) (l : List ByteArray) (w : World) (hl : l.length ≤ maxLen) (hs : ∀ t ∈ l, t.size ≤ maxLen) (hA : Cells w A (l.map Value.string)) :
    Calls Try.prog 31 #[.slice A l.length c] w fun e w' => e = .returned (.int .u64 (addLs 14695981039346656037 l)) ∧ w = w' := by
  unfold maxLen at hl
  go_enter Try.func31, Try.ntmps31
  go_wp2
  go_loop [3, 4] (fun h i => ∃ k : Nat, k ≤ l.length ∧ i = .int .i64 k ∧ h = .int .u64 (addLs 14695981039346656037 (l.take k))) (fun _ i => l.length - (intOf i).toNat)
  case atStart => exact ⟨0, Nat.zero_le _, rfl, rfl⟩
  case round =>
    obtain ⟨k, hk, rfl, rfl⟩ := hrel
    by_cases hlt : k < l.length
    · obtain ⟨b, o, rfl, hc⟩ := hA k (.string l[k]) (by simp [hlt])
      have hi1 : (0 : Int) ≤ (k : Int) := by omega
      have hi2 : (k : Int) < (l.length : Int) := by omega
      have ht := hs l[k] (List.getElem_mem hlt)
      clear hA
      go_wp2_with (go_at_call 41; refine (on_any _ _ _ ht).mono ?_; rintro e w' ⟨rfl, rfl⟩)
      go_round
      case rel => exact ⟨k + 1, by omega, by go_num, by rw [addLs_take _ _ _ hlt]⟩
      case measure => simp [intOf]; omega
    · have e : l.take k = l := List.take_of_length_le (by omega)
      rw [e]
      go_wp2
      go_ret
      exact ⟨rfl, rfl⟩

set_option maxHeartbeats 400000 in
theorem shortR_any (t : ByteArray) (w : World) (ht : t.size ≤ maxLen) :
    Calls Try.prog 33 #[.string t] w fun e w' => e = .returned (.int .u32 (shortI (addL 14695981039346656037 t.data.toList))) ∧ w = w' := by
  go_enter Try.func33, Try.ntmps33
  go_wp2_with (go_at_call 41; refine (on_any _ _ _ ht).mono ?_; rintro e w' ⟨rfl, rfl⟩)
  go_ret
  exact ⟨rfl, rfl⟩

theorem info5 : (Try.prog.info? 5).map (fun i => (i.zero, i.size, i.bytes)) = some (some (.int .u8 0), 1, 1) := by kernel_rfl

def byteVals (l : List UInt8) : List Value := l.map fun b => Value.int .u8 (b.toNat : Int)

theorem byteVals_one (l : List UInt8) : ∀ u ∈ byteVals l, u.oneCell' = true := by
  intro u hu
  obtain ⟨x, _, rfl⟩ := List.mem_map.1 hu
  rfl

/-- Bytes that lie in a row of the call's own. -/
def OwnB (w : World) (base : Nat) (v : Value) (l : List UInt8) : Prop := w.ownsRow base 5 1 v l.length (byteVals l)

theorem conv_own {w : World} {base : Nat} {v : Value} {l : List UInt8} (h : OwnB w base v l) : (convert 37 9 v).run Try.prog w = .ok (.string ⟨l.toArray⟩) w := by
  have hl := h.1
  have e0 : strOfNums (l.map fun b => (b.toNat : Int)) = ⟨l.toArray⟩ := by
    unfold strOfNums
    rw [List.map_map]
    congr 2
    conv => rhs; rw [← List.map_id l]
    apply List.map_congr_left
    intro b _
    simp
  rcases h.2 with ⟨rfl, h0⟩ | ⟨g, cap, cur, rfl, hg, hh, hc, hm, hs, ht⟩
  · have : l = [] := List.eq_nil_of_length_eq_zero h0
    subst this
    exact run_convert_bytes_nil w 37 5 Try.underlying37 Try.underlying5 0 0 9 Try.underlying9
  · rw [← e0]
    refine run_convert_bytes_arg w 37 5 Try.underlying37 Try.underlying5 g 0 l.length cap _ (by simp) (fun i hi => ?_) 9 Try.underlying9
    have := World.ownsRow.cells h (g := g) rfl i (.int .u8 (l[i].toNat : Int)) (by simp [byteVals, hi])
    rw [add_plain] at this
    rw [this]
    simp [hi]

theorem app_byte {w0 w : World} {ops : Array Oper} {rest : List Oper} {o : Oper} {a : Act} {Q : Exit → Act → World → Prop} (hgd : o.guard = none) (s x : Operand)
    (ho : o.op = .call { callee := .builtin .append, args := #[s, x], argTypes := #[37, 37] })
    (v : Value) (xs : List UInt8) (hs : a.eval s = v) (hown : OwnB w w0.heap.size v xs) (hB : Below w0.heap.size w0 w)
    (b : UInt8) (n : Int) (hb : (b.toNat : Int) = n) (hx : a.eval x = .slice (some ⟨w.heap.size, 0, none⟩) 1 1) (hn : xs.length ≤ 1000000)
    (h : ∀ v' w', OwnB w' w0.heap.size v' (xs ++ [b]) → Below w0.heap.size w0 w' → wpList Try.prog ops Q rest (a.put o.dst v') w') :
    wpList Try.prog ops Q (o :: rest) a (w.alloc (.cells #[.int .u8 n] 5)) := by
  subst hb
  have hB' := hB.alloc hB.size (.cells #[.int .u8 (b.toNat : Int)] 5)
  refine wpList_append_cells hgd s x 37 ho w0.heap.size 5 (.int .u8 0) 1 1 Try.underlying37 info5 rfl (by decide) v xs.length (byteVals xs) hs (hown.alloc _) _ 1 1 [.int .u8 (b.toNat : Int)] hx rfl (cells_one _ _ _) (byteVals_one [b]) (by simp [maxLen]; omega) (by omega) hB'.size ?_
  intro v' w' o' g' _ _
  refine h v' w' ?_ (hB'.grown g' hB'.size (fun k hk => (World.ownsRow.lt hown k hk).1))
  unfold OwnB byteVals
  rw [List.length_append, List.map_append]
  exact o'

set_option maxHeartbeats 800000 in
theorem numR_any (n : Int) (w : World) :
    Calls Try.prog 30 #[.int .u64 n] w fun e w' => e = .returned (.string ⟨(numL n 8).toArray⟩) ∧ Below w.heap.size w w' := by
  go_enter Try.func30, Try.ntmps30
  go_wp2
  go_loopw [3, 4] (fun v i wr => ∃ k : Nat, k ≤ 8 ∧ i = .int .i64 k ∧ OwnB wr w.heap.size v (numL n k) ∧ Below w.heap.size w wr) (fun _ i _ => 8 - (intOf i).toNat)
  case atStart => exact ⟨0, Nat.zero_le _, rfl, World.ownsRow_made w #[] 0 (Nat.le_refl _) (by simp [maxLen]) (by simp), (Below.refl _ _).alloc (Nat.le_refl _) _⟩
  case round =>
    obtain ⟨k, hk, rfl, hO, hB⟩ := hrel
    by_cases hlt : k < 8
    · have hi1 : (0 : Int) ≤ (k : Int) := by omega
      have hi2 : (k : Int) < 8 := by omega
      have hb1 : (0 : Int) ≤ 8 * (k : Int) := by omega
      have hb2 : 8 * (k : Int) ≤ 64 := by omega
      have ht : (8 * (k : Int)).toNat = 8 * k := by omega
      have hlen : (numL n k).length = k := by simp [numL]
      go_wp2_with (at_builtin; refine app_byte (w0 := w) rfl (.tmp 10) (.tmp 16) rfl _ (numL n k) rfl hO hB (UInt8.ofNat (n / 2 ^ (8 * k) % 256).toNat) _ ?eq rfl ?len ?rest)
      case eq => exact u8_of _
      case len => omega
      case rest =>
        intro v' w' o' b'
        clear ht hlen
        go_wp2
        go_roundw
        case rel => exact ⟨k + 1, by omega, by go_num, by rw [numL_succ]; exact o', b'⟩
        case measure => simp [intOf]; omega
    · obtain rfl : k = 8 := by omega
      have hcv := conv_own hO
      go_wp2
      go_ret
      exact ⟨rfl, hB⟩

set_option maxHeartbeats 800000 in
theorem mixR_any (A : Option Addr) (c : Nat) (l : List Int) (w : World) (hl : l.length ≤ maxLen) (hA : Cells w A (l.map (Value.int .u64))) :
    Calls Try.prog 34 #[.slice A l.length c] w fun e w' => e = .returned (.int .u64 (mixL l)) ∧ Below w.heap.size w w' := by
  unfold maxLen at hl
  go_enter Try.func34, Try.ntmps34
  go_wp2
  go_loopw [3, 4] (fun s i wr => ∃ k : Nat, k ≤ l.length ∧ i = .int .i64 k ∧ s = .int .u64 (mixL (l.take k)) ∧ Below w.heap.size w wr) (fun _ i _ => l.length - (intOf i).toNat)
  case atStart => exact ⟨0, Nat.zero_le _, rfl, rfl, Below.refl _ _⟩
  case round =>
    obtain ⟨k, hk, rfl, rfl, hB⟩ := hrel
    by_cases hlt : k < l.length
    · obtain ⟨b, o, rfl, hc⟩ := (hA.below hB) k (.int .u64 l[k]) (by simp [hlt])
      have hi1 : (0 : Int) ≤ (k : Int) := by omega
      have hi2 : (k : Int) < (l.length : Int) := by omega
      have HB := Lib.hid hB
      clear hB hA
      go_wp2_with fail
      refine (numR_any _ _).mono ?_
      rintro e w1 ⟨rfl, hp⟩
      have HP := Lib.hid (HB.out.trans (hp.mono HB.out.size))
      clear hp
      go_wp2_with fail
      refine (on_any _ _ _ (by simp [maxLen, ByteArray.size, numL])).mono ?_
      rintro e w3 ⟨rfl, rfl⟩
      go_wp2
      go_roundw
      case rel => exact ⟨k + 1, by omega, by go_num, by rw [mixL_take _ _ hlt], HP.out⟩
      case measure => simp [intOf]; omega
    · have e : l.take k = l := List.take_of_length_le (by omega)
      rw [e]
      go_wp2
      go_ret
      exact ⟨rfl, hB⟩

end Go.Proofs.Ytlgcobimaadclaa
