/- This text proves what the strand's reference computes, over the loaded program: the bytes of numbers and texts. -/
import Derived.Test.YtgdbpicelnoacaaDoorRun
import Derived.Test.YtgdbpicelnoacaaDoorBackPlain
namespace Go.Proofs.YtgdbpicelnoacaaDoor
open Go.RowKit Go.WideShapes

/-- A byte of one's own as a text. -/
theorem run_one (w : World) (v : Int) (x : UInt8) (h : v = (x.toNat : Int)) : (convert 67 9 (.slice (some ⟨w.heap.size, 0, none⟩) 1 1)).run Tryd.prog (w.alloc (.cells #[.int .u8 v] 5)) = .ok (.string (strB [x])) (w.alloc (.cells #[.int .u8 v] 5)) := by
  subst h
  have hb := heap_alloc_new w (.cells #[.int .u8 (x.toNat : Int)] 5)
  exact run_convert_bytes_back (w.alloc (.cells #[.int .u8 (x.toNat : Int)] 5)) 67 9 5 ⟨w.heap.size, 0, none⟩ 1 [x] Tryd.underlying67 Tryd.underlying5 Tryd.underlying9 (fun j hj => by
    simp only [List.length_singleton] at hj
    obtain rfl : j = 0 := by omega
    rw [add_plain]
    simp only [World.cell?, hb]
    rfl)
theorem below_one {w0 w : World} (h : Below w0.heap.size w0 w) (o : Obj) : Below w0.heap.size w0 (w.alloc o) := h.trans (((Below.refl _ _).alloc (Nat.le_refl _) _).mono h.size)
theorem strB_append (a b : List UInt8) : strB a ++ strB b = strB (a ++ b) := by
  apply ByteArray.ext
  simp [strB]

theorem strB_size (a : List UInt8) : (strB a).size = a.length := by simp [strB, ByteArray.size]
theorem small_cat (a b : List UInt8) (h : a.length + b.length ≤ 1000000000) : ¬ 9223372036854775807 < (strB a).size + (strB b).size := by rw [strB_size, strB_size]; omega

set_option maxRecDepth 100000 in
set_option maxHeartbeats 3200000 in
theorem refGroups_any (n : Nat) (w : World) (hn : n < 18446744073709551616) : Calls Tryd.prog 78 #[.int .u64 n] w fun e w' => e = .returned (.string (strB (groupsL n))) ∧ Below w.heap.size w w' := by
  go_enter Tryd.func78, Tryd.ntmps78
  go_wp2_with fail
  go_loopw [0, 3] (fun nv ov wr => ∃ (m : Nat) (p : List UInt8), m < 18446744073709551616 ∧ nv = .int .u64 m ∧ ov = .string (strB p) ∧ p ++ groupsL m = groupsL n ∧ Below w.heap.size w wr) (fun nv _ _ => (intOf nv).toNat)
  case atStart => exact ⟨n, [], hn, rfl, rfl, rfl, Below.refl _ _⟩
  case round =>
    obtain ⟨m, p, hm, rfl, rfl, hp, hB⟩ := hrel
    have PP := Lib.hid hp
    have BB := Lib.hid hB
    clear hp hB
    have hl : p.length ≤ 10 := by
      have h1 := groupsL_len10 n (by omega)
      have h2 := congrArg List.length PP.out
      rw [List.length_append] at h2
      omega
    by_cases hlt : m < 128
    · have q : (m : Int) < 128 := by omega
      have c1 := run_one wr m (UInt8.ofNat m) (by rw [byte_ofNat (by omega)])
      have q2 := small_cat p [UInt8.ofNat m] (by simp; omega)
      have FIN : Hid (strB p ++ strB [UInt8.ofNat m] = strB (groupsL n)) := Lib.hid (by rw [strB_append, ← PP.out, groupsL_small hlt])
      clear hl
      go_wp2_with fail
      go_ret
      exact ⟨congrArg (fun s => Ending.returned (.string s)) FIN.out, below_one BB.out _⟩
    · have q : (128 : Int) ≤ (m : Int) := by omega
      have e1 : IntKind.u8.wrap ((m : Int) % 128) = ((m % 128 : Nat) : Int) := by
        have e : ∀ x, IntKind.u8.wrap x = x % 256 := fun x => by simp [IntKind.wrap, IntKind.signed, IntKind.bits]
        rw [e]; omega
      obtain ⟨x, hx⟩ : ∃ x, UInt8.ofNat (m % 128 + 128) = x := ⟨_, rfl⟩
      have c1 := run_one wr ((m : Int) % 128 + 128) x (by rw [← hx, byte_ofNat (by omega)]; omega)
      have q2 := small_cat p [x] (by simp; omega)
      have q3 : (m : Int) / 128 = ((m / 128 : Nat) : Int) := by omega
      have Q3 := Lib.hid q3
      have FIN : Hid (strB p ++ strB [x] = strB (p ++ [x])) := Lib.hid (strB_append _ _)
      have NX : Hid ((p ++ [x]) ++ groupsL (m / 128) = groupsL n) := Lib.hid (by rw [← PP.out, groupsL_big hlt, hx]; simp)
      clear q3 hl hx
      go_wp2_with fail
      exact ⟨⟨m / 128, _, by omega, by rw [Q3.out], by rw [FIN.out], NX.out, below_one BB.out _⟩, by simp [intOf]; omega⟩

/-- The reference's Count, Num, Text. -/
theorem refCount_any (n : Nat) (w : World) (hn : n < 9223372036854775808) : Calls Tryd.prog 55 #[.int .i64 n] w fun e w' => e = .returned (.string (strB (groupsL n))) ∧ Below w.heap.size w w' := by
  have hw : IntKind.u64.wrap (n : Int) = (n : Int) := by rw [wrapU]; omega
  go_enter Tryd.func55, Tryd.ntmps55
  go_wp2_with fail
  refine (refGroups_any n w (by omega)).mono ?_
  rintro e w1 ⟨rfl, hb⟩
  have B := Lib.hid hb
  clear hb
  go_wp2_with fail
  go_ret
  exact ⟨rfl, B.out⟩
theorem refNum_any (n : Int) (w : World) (hn : In64 n) : Calls Tryd.prog 56 #[.int .i64 n] w fun e w' => e = .returned (.string (strB (groupsL (zig n)))) ∧ Below w.heap.size w w' := by
  have Z := Lib.hid (zig_lt n hn)
  obtain ⟨h0, h1⟩ := hn
  by_cases hz : 0 ≤ n
  · have e1 : IntKind.u64.wrap n = n := by rw [wrapU]; omega
    have e2 : IntKind.u64.wrap (2 * n) = ((zig n : Nat) : Int) := by unfold zig; rw [wrapU, if_neg (by omega)]; omega
    have E2 := Lib.hid e2
    have e3 : 2 * n = ((zig n : Nat) : Int) := by unfold zig; rw [if_neg (by omega)]; omega
    have E3 := Lib.hid e3
    clear e2 e3
    go_enter Tryd.func56, Tryd.ntmps56
    go_wp2_with fail
    rw [E3.out]
    refine (refGroups_any (zig n) w Z.out).mono ?_
    rintro e w1 ⟨rfl, hb⟩
    have B := Lib.hid hb
    clear hb
    go_wp2_with fail
    go_ret
    exact ⟨rfl, B.out⟩
  · have q : n < 0 := by omega
    have e3 : 2 * -(n + 1) + 1 = ((zig n : Nat) : Int) := by unfold zig; rw [if_pos q]; omega
    have E3 := Lib.hid e3
    clear e3
    go_enter Tryd.func56, Tryd.ntmps56
    go_wp2_with fail
    rw [E3.out]
    refine (refGroups_any (zig n) w Z.out).mono ?_
    rintro e w1 ⟨rfl, hb⟩
    have B := Lib.hid hb
    clear hb
    go_wp2_with fail
    go_ret
    exact ⟨rfl, B.out⟩
theorem refText_any (s : ByteArray) (w : World) (hs : s.size ≤ 1000000) : Calls Tryd.prog 57 #[.string s] w fun e w' => e = .returned (.string (strB (textL s))) ∧ Below w.heap.size w w' := by
  have hl := groupsL_len10 s.size (by omega)
  have q2 : ¬ 9223372036854775807 < (strB (groupsL s.size)).size + s.size := by rw [strB_size]; omega
  have FIN : Hid (strB (groupsL s.size) ++ s = strB (textL s)) := Lib.hid (by
    apply ByteArray.ext
    simp [strB, textL])
  clear hl
  go_enter Tryd.func57, Tryd.ntmps57
  go_wp2_with fail
  refine (refCount_any s.size w (by omega)).mono ?_
  rintro e w1 ⟨rfl, hb⟩
  have B := Lib.hid hb
  clear hb
  go_wp2_with fail
  go_ret
  exact ⟨congrArg (fun s => Ending.returned (.string s)) FIN.out, B.out⟩

theorem flagsTo_succ (m : Nat) (l : List Bool) : flagsTo (m + 1) l = flagsTo m l ++ [UInt8.ofNat (bitsN ((l.drop (8 * m)).take 8))] := by
  simp [flagsTo, List.range_succ]

set_option maxRecDepth 100000 in
set_option maxHeartbeats 3200000 in
theorem refFlags_any (X : Option Addr) (c : Nat) (l : List Bool) (w : World) (hC : Cells w X (l.map Value.bool)) (hl : l.length ≤ 100000) : Calls Tryd.prog 58 #[.slice X l.length c] w fun e w' => e = .returned (.string (strB (flagsL l))) ∧ Below w.heap.size w w' := by
  obtain ⟨len, hlen⟩ : ∃ len, l.length = len := ⟨_, rfl⟩
  rw [hlen] at hl ⊢
  have LEN := Lib.hid hlen
  have CH := Lib.hid hC
  clear hlen hC
  go_enter Tryd.func58, Tryd.ntmps58
  go_wp2_with fail
  go_loopw [3, 4] (fun ov iv wr => ∃ j : Nat, 8 * j ≤ len + 7 ∧ iv = .int .i64 ((8 * j : Nat) : Int) ∧ ov = .string (strB (flagsTo j l)) ∧ Below w.heap.size w wr) (fun _ iv _ => len + 7 - (intOf iv).toNat)
  case atStart => exact ⟨0, by omega, rfl, rfl, Below.refl _ _⟩
  case round =>
    obtain ⟨j, hj, rfl, rfl, hB⟩ := hrel
    have BB := Lib.hid hB
    clear hB
    obtain ⟨i, hi⟩ : ∃ i : Nat, 8 * j = i := ⟨_, rfl⟩
    rw [hi] at hj ⊢
    by_cases hlt : i < len
    · have II := Lib.hid hi
      have i0 : (i : Int) < (len : Int) := by omega
      have i1 : (len : Int) ≤ 100000 := by omega
      clear hi
      go_wp2_with fail
      go_loopw [5, 6] (fun bv kv wr => ∃ k : Nat, k ≤ 8 ∧ i + k ≤ len ∧ kv = .int .i64 k ∧ bv = .int .i64 (bitsN ((l.drop i).take k) : Nat) ∧ Below w.heap.size w wr) (fun _ kv _ => 8 - (intOf kv).toNat)
      case atStart => exact ⟨0, by omega, by omega, rfl, by simp [bitsN], BB.out⟩
      case round =>
        obtain ⟨k, hk, hik, rfl, rfl, hB⟩ := hrel
        have B2 := Lib.hid hB
        clear hB
        have hdl : (l.drop i).length = len - i := by rw [List.length_drop, LEN.out]
        have hbl := bitsN_lt ((l.drop i).take k)
        have hkl : ((l.drop i).take k).length = k := by rw [List.length_take, hdl]; omega
        rw [hkl] at hbl
        have hp8 : (2 : Nat) ^ k ≤ 256 := by have := Nat.pow_le_pow_right (show 0 < 2 by decide) hk; simpa using this
        by_cases hlt2 : k < 8 ∧ i + k < len
        · obtain ⟨a1, a2⟩ := hlt2
          have hkk : k < (l.drop i).length := by rw [hdl]; omega
          obtain ⟨x, hx⟩ : ∃ x, (l.drop i)[k]? = some x := ⟨(l.drop i)[k], by simp only [List.getElem?_eq_getElem hkk]⟩
          have hts : (l.drop i).take (k + 1) = (l.drop i).take k ++ [x] := by
            rw [List.take_succ_eq_append_getElem hkk]
            rw [List.getElem?_eq_getElem hkk] at hx
            cases hx; rfl
          have hsn := bitsN_snoc ((l.drop i).take k) x
          rw [← hts, hkl] at hsn
          obtain ⟨xb, xo, rfl, hc⟩ := (CH.out.below B2.out) (i + k) (.bool x) (by rw [List.getElem?_drop] at hx; simp [hx])
          obtain ⟨p, hp⟩ : ∃ p : Nat, 2 ^ k = p := ⟨_, rfl⟩
          obtain ⟨v, hv⟩ : ∃ v, bitsN ((l.drop i).take k) = v := ⟨_, rfl⟩
          rw [hv] at hsn hbl ⊢
          rw [hp] at hsn hbl hp8
          have SN := Lib.hid hsn
          have hw : IntKind.i64.wrap ((2 : Int) ^ k) = (p : Int) := by
            have e2 : ((2 : Int) ^ k) = ((2 ^ k : Nat) : Int) := by simp
            rw [e2, hp]; exact IntWalk.i64_in _ (by omega)
          have j0 : (k : Int) < 8 := by omega
          have j1 : (i : Int) + (k : Int) < (len : Int) := by omega
          have j2 : (0 : Int) ≤ (k : Int) := by omega
          have jt : ((i : Int) + (k : Int)).toNat = i + k := by omega
          have ji : (0 : Int) ≤ (i : Int) + (k : Int) := by omega
          clear hx hts hsn hkl hdl hkk hp hv
          cases x
          · go_wp2_with fail
            exact ⟨⟨k + 1, by omega, by omega, by go_num, by rw [SN.out]; simp, B2.out⟩, by simp [intOf]; omega⟩
          · go_wp2_with fail
            exact ⟨⟨k + 1, by omega, by omega, by go_num, by rw [SN.out]; simp, B2.out⟩, by simp [intOf]; omega⟩
        · have hx8 : (l.drop i).take k = (l.drop i).take 8 := by
            by_cases h8 : k = 8
            · rw [h8]
            · rw [List.take_of_length_le (by rw [hdl]; omega), List.take_of_length_le (by rw [hdl]; omega)]
          have v256 : bitsN ((l.drop i).take 8) < 256 := take8_lt _
          rw [hx8]
          obtain ⟨v, hv⟩ : ∃ v, bitsN ((l.drop i).take 8) = v := ⟨_, rfl⟩
          rw [hv] at v256 ⊢
          have hsu := flagsTo_succ j l
          rw [II.out, hv] at hsu
          have hfl : (flagsTo j l).length = j := flagsTo_len _ _
          obtain ⟨x, hx⟩ : ∃ x, UInt8.ofNat v = x := ⟨_, rfl⟩
          rw [hx] at hsu
          obtain ⟨p, hp⟩ : ∃ p, flagsTo j l = p := ⟨_, rfl⟩
          rw [hp] at hfl hsu ⊢
          have hii := II.out
          have c1 := run_one wr (v : Int) x (by rw [← hx, byte_ofNat v256])
          have q2 := small_cat p [x] (by simp; omega)
          have FIN : Hid (strB p ++ strB [x] = strB (flagsTo (j + 1) l)) := Lib.hid (by rw [strB_append, hsu])
          have eu : IntKind.u8.wrap (v : Int) = (v : Int) := by
            have e : ∀ x, IntKind.u8.wrap x = x % 256 := fun x => by simp [IntKind.wrap, IntKind.signed, IntKind.bits]
            rw [e]; omega
          have i2 : (i : Int) ≤ 100000 := by omega
          clear hx8 hv hsu hfl hx hp hbl hkl hdl hii
          by_cases h8 : k < 8
          · have n1 : ¬ ((i : Int) + (k : Int) < (len : Int)) := by omega
            have j0 : (k : Int) < 8 := by omega
            clear hlt2
            go_wp2_with fail
            exact ⟨⟨j + 1, by have := II.out; omega, by have := II.out; go_num, by rw [FIN.out], below_one B2.out _⟩, by simp [intOf]; omega⟩
          · have j0 : ¬ ((k : Int) < 8) := by omega
            clear hlt2
            go_wp2_with fail
            exact ⟨⟨j + 1, by have := II.out; omega, by have := II.out; go_num, by rw [FIN.out], below_one B2.out _⟩, by simp [intOf]; omega⟩
    · have FIN : Hid (strB (flagsTo j l) = strB (flagsL l)) := Lib.hid (by
        have e : (len + 7) / 8 = j := by omega
        unfold flagsL
        rw [LEN.out, e])
      clear hi
      go_wp2_with fail
      go_ret
      exact ⟨congrArg (fun s => Ending.returned (.string s)) FIN.out, BB.out⟩

end Go.Proofs.YtgdbpicelnoacaaDoor
