/- This text proves what the strand's writer computes, over the loaded program: numbers, texts, sets, flags, and the bytes in the end. -/
import Derived.Test.YtpidjmgapiekaaaGreatDoorWriter
namespace Go.Proofs.YtpidjmgapiekaaaGreatDoor
open Go.RowKit Go.WideShapes

theorem src_of_one {P : Program} (w : World) (g : Nat) (hg : g = w.heap.size) (v : Value) (T t e : TypeId) (hk : P.underlying t = some (.slice e)) (hv : v.oneCell' = true) : Src P 1 t (.slice (some ⟨g, 0, none⟩) 1 1) 1 [v] (w.alloc (.cells #[v] T)) := by
  subst hg
  exact Src.ofSlice _ hk _ 1 1 [v] rfl (fun j u hj => by
    rw [add_plain]
    match j, hj with
    | 0, hj =>
      simp at hj
      subst hj
      rw [World.cell?_alloc_new]; rfl) (fun u hu => by simp at hu; subst hu; exact hv)

/-- What a call hands back that makes bytes. -/
def GotB (w : World) (bs : List UInt8) (e : Ending) (w' : World) : Prop := ∃ gp v, e = .returned v ∧ RowN w' 5 1 gp v bs.length (bv bs) ∧ (∀ x ∈ gp, w.heap.size ≤ x ∧ x < w'.heap.size) ∧ Below w.heap.size w w'

theorem or128 (r : Nat) (h : r < 128) : Go.bits .or .u8 (r : Int) 128 = ((r + 128 : Nat) : Int) := by
  have : ∀ r : Fin 128, Go.bits .or .u8 ((r : Nat) : Int) 128 = (((r : Nat) + 128 : Nat) : Int) := by decide +kernel
  exact this ⟨r, h⟩

set_option maxRecDepth 100000 in
set_option maxHeartbeats 3200000 in
theorem groups_any (n : Nat) (w : World) (hn : n < 18446744073709551616) : Calls Tryz.prog 151 #[.int .u64 n] w (GotB w (groupsL n)) := by
  go_enter Tryz.func151, Tryz.ntmps151
  go_wp2
  go_loopw [0, 2] (fun nv v wr => ∃ (m : Nat) (pre : List UInt8) (gp : List Nat), nv = .int .u64 (m : Int) ∧ m ≤ n ∧ pre ++ groupsL m = groupsL n ∧ RowN wr 5 1 gp v pre.length (bv pre) ∧ (∀ x ∈ gp, w.heap.size ≤ x ∧ x < wr.heap.size) ∧ Below w.heap.size w wr) (fun nv _ _ => (intOf nv).toNat)
  case atStart => exact ⟨n, [], [], rfl, Nat.le_refl _, rfl, .inl ⟨rfl, rfl, rfl⟩, by simp, Below.refl _ _⟩
  case round =>
    obtain ⟨m, pre, gp, rfl, hm, hpre, hR, hgp, hB⟩ := hrel
    have RH := Lib.hid hR
    have GP := Lib.hid hgp
    have BH := Lib.hid hB
    have PH := Lib.hid hpre
    have hlen : pre.length ≤ 10 := by
      have h1 := congrArg List.length hpre
      rw [List.length_append] at h1
      have := groupsL_len10 n hn
      omega
    clear hR hgp hB hpre
    have b1 : (0 : Int) ≤ (m : Int) := by omega
    have b2 : (m : Int) ≤ 18446744073709551615 := by omega
    have RK : Hid (∀ c, RowN (wr.alloc c) 5 1 gp _ pre.length (bv pre)) := Lib.hid (fun c => RH.out.kept (Kept.alloc wr c) (by simp))
    have fin : ∀ c (b : UInt8) g' o' cap' w1, RowAt w1 5 1 g' o' cap' (pre.length + 1) (bv pre ++ [.int .u8 (b.toNat : Int)]) → Kept gp (wr.alloc c) w1 → (g' ∈ gp ∨ g' = (wr.alloc c).heap.size) →
        RowN w1 5 1 [g'] (.slice (some ⟨g', o', none⟩) (pre.length + 1) cap') (pre ++ [b]).length (bv (pre ++ [b])) ∧ (∀ x ∈ [g'], w.heap.size ≤ x ∧ x < w1.heap.size) ∧ Below w.heap.size w w1 := fun c b g' o' cap' w1 h1 h2 h3 => by
      have hb1 : Below w.heap.size w (wr.alloc c) := BH.out.alloc BH.out.size c
      refine ⟨.inr ⟨g', o', cap', by simp, by simp, by rw [bv_append]; simpa [bv] using h1⟩, fun x hx => ?_, below_kept hb1 h2 (fun x hx => (GP.out x hx).1) (Nat.le_refl _)⟩
      simp at hx
      subst hx
      refine ⟨?_, h1.lt⟩
      rcases h3 with h3 | h3
      · exact (GP.out _ h3).1
      · have := hb1.size; omega
    have FIN := Lib.hid fin
    clear fin RH
    by_cases hbig : m < 128
    · have q1 : (m : Int) < (128 : Int) := by omega
      have hlast : pre ++ [UInt8.ofNat m] = groupsL n := by have := PH.out; rwa [groupsL_small hbig] at this
      have hb : ((UInt8.ofNat m).toNat : Int) = (m : Int) := by rw [UInt8.toNat_ofNat']; omega
      have HL := Lib.hid hlast
      have HB := Lib.hid hb
      clear hlast hb hbig
      go_wp2_with (first
        | (at_builtin; refine wpList_append_rown rfl _ _ 144 144 rfl 5 (.int .u8 0) 1 1 Tryz.underlying144 info5 rfl pre.length _ rfl (RK.out _) _ rfl 1 [_] (src_of_one wr _ rfl _ _ _ _ Tryz.underlying144 rfl) (by decide) (by simp [maxLen]; omega) (by omega) ?_; intro g' o' cap' w1 hr1 hk1 hg1; rw [← HB.out] at hr1; have F := Lib.hid (FIN.out _ _ _ _ _ _ hr1 hk1 hg1); clear hr1 hk1 hg1)
        | fail)
      go_ret
      have F2 := F.out
      rw [HL.out] at F2
      have hl2 : pre.length + 1 = (groupsL n).length := by rw [← HL.out]; simp
      rw [hl2] at F2 ⊢
      exact ⟨_, _, rfl, F2⟩
    · have q1 : (128 : Int) ≤ (m : Int) := by omega
      have hnext : (pre ++ [UInt8.ofNat (m % 128 + 128)]) ++ groupsL (m / 128) = groupsL n := by have := PH.out; rw [groupsL_big hbig] at this; rw [← this]; simp
      have hb : ((UInt8.ofNat (m % 128 + 128)).toNat : Int) = Go.bits .or .u8 ((m : Int) % 128) 128 := by
        rw [show ((m : Int) % 128) = ((m % 128 : Nat) : Int) by omega, or128 _ (by omega), UInt8.toNat_ofNat']; omega
      have HL := Lib.hid hnext
      have HB := Lib.hid hb
      clear hnext hb
      go_wp2_with (first
        | (at_builtin; refine wpList_append_rown rfl _ _ 144 144 rfl 5 (.int .u8 0) 1 1 Tryz.underlying144 info5 rfl pre.length _ rfl (RK.out _) _ rfl 1 [_] (src_of_one wr _ rfl _ _ _ _ Tryz.underlying144 rfl) (by decide) (by simp [maxLen]; omega) (by omega) ?_; intro g' o' cap' w1 hr1 hk1 hg1; rw [← HB.out] at hr1; have F := Lib.hid (FIN.out _ _ _ _ _ _ hr1 hk1 hg1); clear hr1 hk1 hg1)
        | fail)
      exact ⟨⟨m / 128, _, _, by go_num, by omega, HL.out, F.out.1, F.out.2.1, F.out.2.2⟩, by simp [intOf]; omega⟩

theorem GotB.bsl {w' : World} {bs : List UInt8} {v : Value} {gp : List Nat} (h : RowN w' 5 1 gp v bs.length (bv bs)) : BSl w' v bs := by
  obtain ⟨X, c, hv, _, _, hC⟩ := h.slice
  exact ⟨X, c, hv, hC⟩

section
variable {A : Nat → Addr} {w : World} {wb : Nat} {gp : List Nat} {W : Wri}

/-- Byte. -/
def Wri.byte (W : Wri) (n : Int) : Wri := if n < 0 ∨ 255 < n then W.refuse else W.put [UInt8.ofNat n.toNat]
theorem byte_any (h : WAt A w wb gp W) (hok : W.ok) (hG : s_Glob w A) (n : Int) : Calls Tryz.prog 71 #[.pointer (some ⟨wb, 0, none⟩), .int .i64 n] w (WDone A w wb gp (W.byte n)) := by
  unfold Wri.byte
  by_cases hn : n < 0 ∨ 255 < n
  · rw [if_pos hn]
    have R := Lib.hid (s_refuse_any h hG)
    have hn' : n < 0 ∨ (¬ n < 0 ∧ 255 < n) := by omega
    clear h hG hn
    rcases hn' with hn | ⟨hn, hn2⟩
    · go_enter Tryz.func71, Tryz.ntmps71
      go_wp2_with fail
      refine R.out.mono ?_
      rintro e w1 ⟨rfl, hl⟩
      have F := Lib.hid hl
      clear hl
      go_wp2
      go_end0
      exact ⟨rfl, F.out⟩
    · have q : decide (n < 0) = false := by simpa using hn
      clear hn
      go_enter Tryz.func71, Tryz.ntmps71
      go_wp2_with fail
      refine R.out.mono ?_
      rintro e w1 ⟨rfl, hl⟩
      have F := Lib.hid hl
      clear hl
      go_wp2
      go_end0
      exact ⟨rfl, F.out⟩
  · rw [if_neg hn]
    obtain ⟨k, rfl⟩ : ∃ k : Nat, n = k := ⟨n.toNat, by omega⟩
    have hk : k < 256 := by omega
    have hb : ((UInt8.ofNat k).toNat : Int) = (k : Int) := by rw [UInt8.toNat_ofNat']; omega
    have hal := (Below.refl w.heap.size w).alloc (Nat.le_refl _) (.cells #[.int .u8 (k : Int)] 5)
    have WR := write_any (h.below hal) hok (hG.below hal) (.slice (some ⟨w.heap.size, 0, none⟩) 1 1) [UInt8.ofNat k] ⟨_, _, rfl, by
      have := cells_one w (.int .u8 (k : Int)) 5
      have e : bv [UInt8.ofNat k] = [.int .u8 (k : Int)] := by unfold bv; rw [List.map_cons, hb]; rfl
      rw [e]; exact this⟩ (by simp)
    rw [show ((k : Int)).toNat = k by simp]
    have R := Lib.hid WR
    have HA := Lib.hid hal
    have q1 : decide ((k : Int) < 0) = false := by simp
    have q2 : (k : Int) ≤ 255 := by omega
    have q3 : (0 : Int) ≤ (k : Int) := by omega
    clear h hG hn WR hb hal
    go_enter Tryz.func71, Tryz.ntmps71
    go_wp2_with fail
    refine R.out.mono ?_
    rintro e w1 ⟨rfl, hl⟩
    have F := Lib.hid (WLeft.ahead HA.out hl)
    clear hl
    go_wp2
    go_end0
    exact ⟨rfl, F.out⟩

/-- Count. -/
def Wri.count (W : Wri) (n : Int) : Wri := if n < 0 then W.refuse else W.put (groupsL n.toNat)
theorem count_any (h : WAt A w wb gp W) (hok : W.ok) (hG : s_Glob w A) (n : Int) (hn63 : n ≤ 9223372036854775807) : Calls Tryz.prog 125 #[.pointer (some ⟨wb, 0, none⟩), .int .i64 n] w (WDone A w wb gp (W.count n)) := by
  unfold Wri.count
  by_cases hn : n < 0
  · rw [if_pos hn]
    have R := Lib.hid (s_refuse_any h hG)
    clear h hG
    go_enter Tryz.func125, Tryz.ntmps125
    go_wp2_with fail
    refine R.out.mono ?_
    rintro e w1 ⟨rfl, hl⟩
    have F := Lib.hid hl
    clear hl
    go_wp2
    go_end0
    exact ⟨rfl, F.out⟩
  · rw [if_neg hn]
    obtain ⟨k, rfl⟩ : ∃ k : Nat, n = k := ⟨n.toNat, by omega⟩
    rw [show ((k : Int)).toNat = k by simp]
    have q1 : decide ((k : Int) < 0) = false := by simp
    have q3 : (0 : Int) ≤ (k : Int) := by omega
    have H := Lib.hid h
    have HG := Lib.hid hG
    clear h hG hn
    go_enter Tryz.func125, Tryz.ntmps125
    go_wp2_with fail
    refine (groups_any k _ (by omega)).mono ?_
    rintro e w1 ⟨gp1, v, rfl, hr, hg, hb⟩
    have R := Lib.hid (write_any (H.out.below hb) hok (HG.out.below hb) v _ (GotB.bsl hr) (by have := groupsL_len10 k (by omega); omega))
    have HA := Lib.hid hb
    clear hr hg hb
    go_wp2_with fail
    refine R.out.mono ?_
    rintro e w2 ⟨rfl, hl⟩
    have F := Lib.hid (WLeft.ahead HA.out hl)
    clear hl
    go_wp2
    go_end0
    exact ⟨rfl, F.out⟩

/-- Text. -/
def textL (s : ByteArray) : List UInt8 := groupsL s.size ++ s.data.toList
/-- Num. -/
def zig (n : Int) : Nat := if n < 0 then 2 * (-(n + 1)).toNat + 1 else 2 * n.toNat
theorem xor_max (x : Int) (h0 : 0 ≤ x) (h1 : x < 18446744073709551616) : Go.bits .xor .u64 IntKind.u64.max x = 18446744073709551615 - x := by
  have e : Go.bits .xor .u64 IntKind.u64.max x = ((BitVec.ofInt 64 IntKind.u64.max ^^^ BitVec.ofInt 64 x).toNat : Int) % 18446744073709551616 := rfl
  have em : BitVec.ofInt 64 IntKind.u64.max = BitVec.allOnes 64 := by decide +kernel
  have hx : (BitVec.ofInt 64 x).toNat = x.toNat := by rw [BitVec.toNat_ofInt]; omega
  rw [e, em, BitVec.allOnes_xor, BitVec.toNat_not, hx]
  omega
theorem zig_neg (n : Int) (h : n < 0) (h1 : -9223372036854775808 ≤ n) : Go.bits .xor .u64 IntKind.u64.max (IntKind.u64.wrap (IntKind.u64.wrap n * 2)) = ((zig n : Nat) : Int) := by
  have e : ∀ x, IntKind.u64.wrap x = x % 18446744073709551616 := fun x => by simp [IntKind.wrap, IntKind.signed, IntKind.bits]
  rw [e, e, xor_max _ (by omega) (by omega)]
  unfold zig
  rw [if_pos h]
  omega
set_option maxHeartbeats 1600000 in
theorem num_any (h : WAt A w wb gp W) (hok : W.ok) (hG : s_Glob w A) (n : Int) (hn1 : -9223372036854775808 ≤ n) (hn2 : n ≤ 9223372036854775807) : Calls Tryz.prog 127 #[.pointer (some ⟨wb, 0, none⟩), .int .i64 n] w (WDone A w wb gp (W.put (groupsL (zig n)))) := by
  have H := Lib.hid h
  have HG := Lib.hid hG
  clear h hG
  have hz : zig n < 18446744073709551616 := by unfold zig; split <;> omega
  by_cases hn : n < 0
  · have e := zig_neg n hn hn1
    have E := Lib.hid e
    clear e
    go_enter Tryz.func127, Tryz.ntmps127
    go_wp2_with fail
    rw [E.out]
    refine (groups_any (zig n) _ hz).mono ?_
    rintro e w1 ⟨gp1, v, rfl, hr, hg, hb⟩
    have R := Lib.hid (write_any (H.out.below hb) hok (HG.out.below hb) v _ (GotB.bsl hr) (by have := groupsL_len10 (zig n) (by omega); omega))
    have HA := Lib.hid hb
    clear hr hg hb
    go_wp2_with fail
    refine R.out.mono ?_
    rintro e w2 ⟨rfl, hl⟩
    have F := Lib.hid (WLeft.ahead HA.out hl)
    clear hl
    go_wp2
    go_end0
    exact ⟨rfl, F.out⟩
  · have q1 : decide (n < 0) = false := by simpa using hn
    have e : n * 2 = ((zig n : Nat) : Int) := by unfold zig; rw [if_neg hn]; omega
    have E := Lib.hid e
    have q2 : (0 : Int) ≤ n := by omega
    clear e hn
    go_enter Tryz.func127, Tryz.ntmps127
    go_wp2_with fail
    rw [E.out]
    refine (groups_any (zig n) _ hz).mono ?_
    rintro e w1 ⟨gp1, v, rfl, hr, hg, hb⟩
    have R := Lib.hid (write_any (H.out.below hb) hok (HG.out.below hb) v _ (GotB.bsl hr) (by have := groupsL_len10 (zig n) (by omega); omega))
    have HA := Lib.hid hb
    clear hr hg hb
    go_wp2_with fail
    refine R.out.mono ?_
    rintro e w2 ⟨rfl, hl⟩
    have F := Lib.hid (WLeft.ahead HA.out hl)
    clear hl
    go_wp2
    go_end0
    exact ⟨rfl, F.out⟩

/-- Bytes. -/
def strB (l : List UInt8) : ByteArray := ⟨l.toArray⟩
theorem bytes_ok (h : WAt A w wb gp W) (he : W.err = none) : Calls Tryz.prog 73 #[.pointer (some ⟨wb, 0, none⟩)] w fun e w' => e = .returned (.tuple #[.string (strB W.out), .nilIface]) ∧ w = w' := by
  obtain ⟨sv, hc, hr⟩ := h.good he
  obtain ⟨X, cap, rfl, hl1, hl2, hC⟩ := hr.slice
  have c0 : w.cell? ⟨wb, 0, none⟩ = some (.slice X W.out.length cap) := by simp [World.cell?, hc]
  have c2 : w.cell? ⟨wb, 2, none⟩ = some .nilIface := by simp [World.cell?, hc]
  have hcv : (convert 144 9 (.slice X W.out.length cap)).run Tryz.prog w = .ok (.string (strB W.out)) w := by
    cases X with
    | none =>
      have : W.out = [] := by
        rcases hr with ⟨_, h0, _⟩ | ⟨g, o, cap', hsv, _⟩
        · exact List.eq_nil_of_length_eq_zero h0
        · cases hsv
      rw [this]
      exact run_convert_bytes_nil w 144 5 Tryz.underlying144 Tryz.underlying5 _ _ 9 Tryz.underlying9
    | some a =>
      exact run_convert_bytes_back w 144 9 5 a cap W.out Tryz.underlying144 Tryz.underlying5 Tryz.underlying9 (fun j hj => by
        obtain ⟨b, o, e, hcell⟩ := hC j (.int .u8 (W.out[j].toNat : Int)) (by simp [bv, hj])
        cases e
        rw [add_plain]; exact hcell)
  clear h hc hr hC he
  go_enter Tryz.func73, Tryz.ntmps73
  go_wp2
  go_ret2
  exact ⟨rfl, rfl⟩
theorem bytes_bad (h : WAt A w wb gp W) {j : Nat} (he : W.err = some j) : Calls Tryz.prog 73 #[.pointer (some ⟨wb, 0, none⟩)] w fun e w' => ∃ v b, e = .returned (.tuple #[.string ByteArray.empty, v]) ∧ v = .iface 193 (.pointer (some ⟨b, 0, none⟩)) ∧ WrapsT w' v (A j) ∧ Below w.heap.size w w' := by
  obtain ⟨b, C, ho, hc, hg, hC, h1⟩ := h.bad he
  have c2 : w.cell? ⟨wb, 2, none⟩ = some (.iface 193 (.pointer (some ⟨b, 0, none⟩))) := by simp [World.cell?, hc]
  have F : Hid (∀ k, WrapsT (w.drewN k) (.iface 193 (.pointer (some ⟨b, 0, none⟩))) (A j)) := Lib.hid (fun k => ⟨b, C, rfl, hC, h1⟩)
  clear h he ho hc hg hC h1
  go_enter Tryz.func73, Tryz.ntmps73
  go_wp2_with fail
  go_quiet (fail)
  go_wp2
  go_ret2
  exact ⟨_, b, rfl, rfl, F.out nq, ⟨rfl, rfl, rfl, Nat.le_refl _, fun _ _ => rfl⟩⟩
theorem bytes_nil (hG : s_Glob w A) : Calls Tryz.prog 73 #[.pointer none] w fun e w' => ∃ v b, e = .returned (.tuple #[.string ByteArray.empty, v]) ∧ v = .iface 193 (.pointer (some ⟨b, 0, none⟩)) ∧ WrapsT w' v (A 3) ∧ Below w.heap.size w w' := by
  have g3 := hG 3 (by decide)
  dsimp only [gl] at g3
  clear hG
  go_enter Tryz.func73, Tryz.ntmps73
  go_wp2_with fail
  refine (at_any _ _ _ _).mono ?_
  rintro e w1 ⟨rfl, rfl⟩
  go_wp2
  go_ret2
  exact ⟨_, _, rfl, rfl, ⟨_, _, rfl, heap_alloc_new _ _, rfl⟩, (Below.refl _ _).alloc (Nat.le_refl _) _⟩
end

end Go.Proofs.YtpidjmgapiekaaaGreatDoor
