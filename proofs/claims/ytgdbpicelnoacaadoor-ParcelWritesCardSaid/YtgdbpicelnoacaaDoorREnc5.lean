/- This text proves the bytes that the reference gives a packet of inputs, over the loaded program. -/
import Derived.Test.YtgdbpicelnoacaaDoorRef24a
import Derived.Test.YtgdbpicelnoacaaDoorDec4
import Derived.Test.YtgdbpicelnoacaaDoorShortPlain
namespace Go.Proofs.YtgdbpicelnoacaaDoor
section
open Go.RowKit Go.WideShapes
set_option linter.unusedSimpArgs false

theorem p80 (x : UInt8) : (⟨#[80]⟩ : ByteArray) ++ strB [x] = strB [80, x] := by
  rw [show (⟨#[80]⟩ : ByteArray) = strB [80] from rfl, strB_append]
  rfl
/-- The seal's words. -/
theorem seal_eq (l : List UInt8) : strB l ++ strB (sum4 (strB l).data.toList) = strB (l ++ sum4 l) := by
  rw [show (strB l).data.toList = l by simp [strB], strB_append]

set_option maxRecDepth 100000 in
set_option maxHeartbeats 6400000 in
theorem renc1 (nonce frm base : Int) (ins : List Int) (ack sum : Int) (X : Option Addr) (c : Nat) (w : World) (hn : 0 ≤ nonce ∧ nonce ≤ 4294967295) : Calls Tryd.prog 47 #[.agg #[.int .i64 1, .int .i64 nonce, .int .i64 frm, .int .i64 base, .slice X ins.length c, .int .i64 ack, .int .u64 sum]] w fun e w' => e = .returned (.string (strB (encP ⟨1, nonce, frm, base, ins, ack, sum, X, c⟩))) ∧ Below w.heap.size w w' := by
  obtain ⟨n, rfl⟩ : ∃ n : Nat, nonce = (n : Int) := ⟨nonce.toNat, by omega⟩
  have EQ : Hid (strB ([80, 1] ++ groupsL n ++ sum4 ([80, 1] ++ groupsL n)) = strB (encP ⟨1, (n : Int), frm, base, ins, ack, sum, X, c⟩)) := Lib.hid (by
    unfold encP bareL bodyL
    simp)
  have al := (Below.refl w.heap.size w).alloc (Nat.le_refl _) (.cells #[.int .i64 1, .int .i64 (n : Int), .int .i64 frm, .int .i64 base, .slice X ins.length c, .int .i64 ack, .int .u64 sum] 61)
  have r1 := run_one (w.alloc (.cells #[.int .i64 1, .int .i64 (n : Int), .int .i64 frm, .int .i64 base, .slice X ins.length c, .int .i64 ack, .int .u64 sum] 61)) 1 1 (by decide)
  rw [size_alloc1] at r1
  have al2 := al.alloc al.size (.cells #[.int .u8 1] 5)
  have GL := groups5 (n : Int) (by omega)
  rw [show ((n : Int)).toNat = n from rfl] at GL
  have s1 : ¬ 9223372036854775807 < (⟨#[80]⟩ : ByteArray).size + (strB [1]).size := by rw [strB_size]; decide
  have s2 := small_cat [80, 1] (groupsL n) (by simp; omega)
  have CT := Lib.hid (fun w' => refCount_any n w' (by omega))
  have SE := Lib.hid (fun w' => sealed_any (strB ([80, 1] ++ groupsL n)) w' (by rw [strB_size]; simp; omega))
  have B2 := Lib.hid al2
  have P8 := Lib.hid (p80 1)
  clear hn al al2 GL
  go_enter Tryd.func47, Tryd.ntmps47
  go_wp2_with fail
  refine (CT.out _).mono ?_
  rintro e w1 ⟨rfl, hb1⟩
  have B3 := Lib.hid (B2.out.trans (hb1.mono B2.out.size))
  clear hb1
  rw [P8.out]
  go_wp2_with fail
  rw [strB_append]
  refine (SE.out _).mono ?_
  rintro e w2 ⟨rfl, hb2⟩
  have B4 := Lib.hid (B3.out.trans (hb2.mono B3.out.size))
  clear hb2
  go_wp2_with fail
  go_ret
  exact ⟨by rw [← EQ.out, ← seal_eq]; rfl, B4.out⟩

set_option maxRecDepth 100000 in
set_option maxHeartbeats 6400000 in
theorem renc2 (nonce frm base : Int) (ins : List Int) (ack sum : Int) (X : Option Addr) (c : Nat) (w : World) (hn : 0 ≤ nonce ∧ nonce ≤ 4294967295) : Calls Tryd.prog 47 #[.agg #[.int .i64 2, .int .i64 nonce, .int .i64 frm, .int .i64 base, .slice X ins.length c, .int .i64 ack, .int .u64 sum]] w fun e w' => e = .returned (.string (strB (encP ⟨2, nonce, frm, base, ins, ack, sum, X, c⟩))) ∧ Below w.heap.size w w' := by
  obtain ⟨n, rfl⟩ : ∃ n : Nat, nonce = (n : Int) := ⟨nonce.toNat, by omega⟩
  have EQ : Hid (strB ([80, 2] ++ groupsL n ++ sum4 ([80, 2] ++ groupsL n)) = strB (encP ⟨2, (n : Int), frm, base, ins, ack, sum, X, c⟩)) := Lib.hid (by
    unfold encP bareL bodyL
    simp)
  have al := (Below.refl w.heap.size w).alloc (Nat.le_refl _) (.cells #[.int .i64 2, .int .i64 (n : Int), .int .i64 frm, .int .i64 base, .slice X ins.length c, .int .i64 ack, .int .u64 sum] 61)
  have r1 := run_one (w.alloc (.cells #[.int .i64 2, .int .i64 (n : Int), .int .i64 frm, .int .i64 base, .slice X ins.length c, .int .i64 ack, .int .u64 sum] 61)) 2 2 (by decide)
  rw [size_alloc1] at r1
  have al2 := al.alloc al.size (.cells #[.int .u8 2] 5)
  have GL := groups5 (n : Int) (by omega)
  rw [show ((n : Int)).toNat = n from rfl] at GL
  have s1 : ¬ 9223372036854775807 < (⟨#[80]⟩ : ByteArray).size + (strB [2]).size := by rw [strB_size]; decide
  have s2 := small_cat [80, 2] (groupsL n) (by simp; omega)
  have CT := Lib.hid (fun w' => refCount_any n w' (by omega))
  have SE := Lib.hid (fun w' => sealed_any (strB ([80, 2] ++ groupsL n)) w' (by rw [strB_size]; simp; omega))
  have B2 := Lib.hid al2
  have P8 := Lib.hid (p80 2)
  clear hn al al2 GL
  go_enter Tryd.func47, Tryd.ntmps47
  go_wp2_with fail
  refine (CT.out _).mono ?_
  rintro e w1 ⟨rfl, hb1⟩
  have B3 := Lib.hid (B2.out.trans (hb1.mono B2.out.size))
  clear hb1
  rw [P8.out]
  go_wp2_with fail
  rw [strB_append]
  refine (SE.out _).mono ?_
  rintro e w2 ⟨rfl, hb2⟩
  have B4 := Lib.hid (B3.out.trans (hb2.mono B3.out.size))
  clear hb2
  go_wp2_with fail
  go_ret
  exact ⟨by rw [← EQ.out, ← seal_eq]; rfl, B4.out⟩

set_option maxRecDepth 100000 in
set_option maxHeartbeats 6400000 in
theorem renc5 (nonce frm base : Int) (ins : List Int) (ack sum : Int) (X : Option Addr) (c : Nat) (w : World) (hn : 0 ≤ ack ∧ ack ≤ 4294967295) : Calls Tryd.prog 47 #[.agg #[.int .i64 5, .int .i64 nonce, .int .i64 frm, .int .i64 base, .slice X ins.length c, .int .i64 ack, .int .u64 sum]] w fun e w' => e = .returned (.string (strB (encP ⟨5, nonce, frm, base, ins, ack, sum, X, c⟩))) ∧ Below w.heap.size w w' := by
  obtain ⟨n, rfl⟩ : ∃ n : Nat, ack = (n : Int) := ⟨ack.toNat, by omega⟩
  have EQ : Hid (strB ([80, 5] ++ groupsL n ++ sum4 ([80, 5] ++ groupsL n)) = strB (encP ⟨5, nonce, frm, base, ins, (n : Int), sum, X, c⟩)) := Lib.hid (by
    unfold encP bareL bodyL
    simp)
  have al := (Below.refl w.heap.size w).alloc (Nat.le_refl _) (.cells #[.int .i64 5, .int .i64 nonce, .int .i64 frm, .int .i64 base, .slice X ins.length c, .int .i64 (n : Int), .int .u64 sum] 61)
  have r1 := run_one (w.alloc (.cells #[.int .i64 5, .int .i64 nonce, .int .i64 frm, .int .i64 base, .slice X ins.length c, .int .i64 (n : Int), .int .u64 sum] 61)) 5 5 (by decide)
  rw [size_alloc1] at r1
  have al2 := al.alloc al.size (.cells #[.int .u8 5] 5)
  have GL := groups5 (n : Int) (by omega)
  rw [show ((n : Int)).toNat = n from rfl] at GL
  have s1 : ¬ 9223372036854775807 < (⟨#[80]⟩ : ByteArray).size + (strB [5]).size := by rw [strB_size]; decide
  have s2 := small_cat [80, 5] (groupsL n) (by simp; omega)
  have CT := Lib.hid (fun w' => refCount_any n w' (by omega))
  have SE := Lib.hid (fun w' => sealed_any (strB ([80, 5] ++ groupsL n)) w' (by rw [strB_size]; simp; omega))
  have B2 := Lib.hid al2
  have P8 := Lib.hid (p80 5)
  clear hn al al2 GL
  go_enter Tryd.func47, Tryd.ntmps47
  go_wp2_with fail
  refine (CT.out _).mono ?_
  rintro e w1 ⟨rfl, hb1⟩
  have B3 := Lib.hid (B2.out.trans (hb1.mono B2.out.size))
  clear hb1
  rw [P8.out]
  go_wp2_with fail
  rw [strB_append]
  refine (SE.out _).mono ?_
  rintro e w2 ⟨rfl, hb2⟩
  have B4 := Lib.hid (B3.out.trans (hb2.mono B3.out.size))
  clear hb2
  go_wp2_with fail
  go_ret
  exact ⟨by rw [← EQ.out, ← seal_eq]; rfl, B4.out⟩

set_option maxRecDepth 100000 in
set_option maxHeartbeats 6400000 in
theorem renc6 (nonce frm base : Int) (ins : List Int) (ack sum : Int) (X : Option Addr) (c : Nat) (w : World) (hn : 0 ≤ frm ∧ frm ≤ 4294967295) : Calls Tryd.prog 47 #[.agg #[.int .i64 6, .int .i64 nonce, .int .i64 frm, .int .i64 base, .slice X ins.length c, .int .i64 ack, .int .u64 sum]] w fun e w' => e = .returned (.string (strB (encP ⟨6, nonce, frm, base, ins, ack, sum, X, c⟩))) ∧ Below w.heap.size w w' := by
  obtain ⟨n, rfl⟩ : ∃ n : Nat, frm = (n : Int) := ⟨frm.toNat, by omega⟩
  have EQ : Hid (strB ([80, 6] ++ groupsL n ++ sum4 ([80, 6] ++ groupsL n)) = strB (encP ⟨6, nonce, (n : Int), base, ins, ack, sum, X, c⟩)) := Lib.hid (by
    unfold encP bareL bodyL
    simp)
  have al := (Below.refl w.heap.size w).alloc (Nat.le_refl _) (.cells #[.int .i64 6, .int .i64 nonce, .int .i64 (n : Int), .int .i64 base, .slice X ins.length c, .int .i64 ack, .int .u64 sum] 61)
  have r1 := run_one (w.alloc (.cells #[.int .i64 6, .int .i64 nonce, .int .i64 (n : Int), .int .i64 base, .slice X ins.length c, .int .i64 ack, .int .u64 sum] 61)) 6 6 (by decide)
  rw [size_alloc1] at r1
  have al2 := al.alloc al.size (.cells #[.int .u8 6] 5)
  have GL := groups5 (n : Int) (by omega)
  rw [show ((n : Int)).toNat = n from rfl] at GL
  have s1 : ¬ 9223372036854775807 < (⟨#[80]⟩ : ByteArray).size + (strB [6]).size := by rw [strB_size]; decide
  have s2 := small_cat [80, 6] (groupsL n) (by simp; omega)
  have CT := Lib.hid (fun w' => refCount_any n w' (by omega))
  have SE := Lib.hid (fun w' => sealed_any (strB ([80, 6] ++ groupsL n)) w' (by rw [strB_size]; simp; omega))
  have B2 := Lib.hid al2
  have P8 := Lib.hid (p80 6)
  clear hn al al2 GL
  go_enter Tryd.func47, Tryd.ntmps47
  go_wp2_with fail
  refine (CT.out _).mono ?_
  rintro e w1 ⟨rfl, hb1⟩
  have B3 := Lib.hid (B2.out.trans (hb1.mono B2.out.size))
  clear hb1
  rw [P8.out]
  go_wp2_with fail
  rw [strB_append]
  refine (SE.out _).mono ?_
  rintro e w2 ⟨rfl, hb2⟩
  have B4 := Lib.hid (B3.out.trans (hb2.mono B3.out.size))
  clear hb2
  go_wp2_with fail
  go_ret
  exact ⟨by rw [← EQ.out, ← seal_eq]; rfl, B4.out⟩
end

section
open Go.RowKit Go.WideShapes
set_option linter.unusedSimpArgs false

theorem small_cat3 (a b d : List UInt8) (h : a.length + b.length + d.length ≤ 1000000000) : ¬ 9223372036854775807 < (strB a ++ strB b).size + (strB d).size := by rw [strB_append, strB_size, strB_size, List.length_append]; omega

set_option maxRecDepth 100000 in
set_option maxHeartbeats 6400000 in
theorem renc4 (nonce frm base : Int) (ins : List Int) (ack sum : Int) (X : Option Addr) (c : Nat) (w : World) (hn : 0 ≤ frm ∧ frm ≤ 4294967295) : Calls Tryd.prog 47 #[.agg #[.int .i64 4, .int .i64 nonce, .int .i64 frm, .int .i64 base, .slice X ins.length c, .int .i64 ack, .int .u64 sum]] w fun e w' => e = .returned (.string (strB (encP ⟨4, nonce, frm, base, ins, ack, sum, X, c⟩))) ∧ Below w.heap.size w w' := by
  obtain ⟨n, rfl⟩ : ∃ n : Nat, frm = (n : Int) := ⟨frm.toNat, by omega⟩
  obtain ⟨z, hz⟩ : ∃ z, groupsL (zig (IntKind.i64.wrap sum)) = z := ⟨_, rfl⟩
  have EQ : Hid (strB ([80, 4] ++ groupsL n ++ z ++ sum4 ([80, 4] ++ groupsL n ++ z)) = strB (encP ⟨4, nonce, (n : Int), base, ins, ack, sum, X, c⟩)) := Lib.hid (by
    unfold encP bareL bodyL
    simp [hz])
  have ZL : z.length ≤ 10 := by rw [← hz]; exact groupsL_len10 _ (zig_lt _ (wrap_in64' sum))
  have NM := Lib.hid (fun w' => refNum_any (IntKind.i64.wrap sum) w' (wrap_in64' sum))
  rw [hz] at NM
  have al := (Below.refl w.heap.size w).alloc (Nat.le_refl _) (.cells #[.int .i64 4, .int .i64 nonce, .int .i64 (n : Int), .int .i64 base, .slice X ins.length c, .int .i64 ack, .int .u64 sum] 61)
  have b1 := (alloc_old (w.alloc (.cells #[.int .i64 4, .int .i64 nonce, .int .i64 (n : Int), .int .i64 base, .slice X ins.length c, .int .i64 ack, .int .u64 sum] 61)) (.cells #[.int .u8 4] 5) w.heap.size (by rw [size_alloc1]; omega)).trans (heap_alloc_new w (.cells #[.int .i64 4, .int .i64 nonce, .int .i64 (n : Int), .int .i64 base, .slice X ins.length c, .int .i64 ack, .int .u64 sum] 61))
  have r1 := run_one (w.alloc (.cells #[.int .i64 4, .int .i64 nonce, .int .i64 (n : Int), .int .i64 base, .slice X ins.length c, .int .i64 ack, .int .u64 sum] 61)) 4 4 (by decide)
  rw [size_alloc1] at r1
  have al2 := al.alloc al.size (.cells #[.int .u8 4] 5)
  have GL := groups5 (n : Int) (by omega)
  rw [show ((n : Int)).toNat = n from rfl] at GL
  have s1 : ¬ 9223372036854775807 < (⟨#[80]⟩ : ByteArray).size + (strB [4]).size := by rw [strB_size]; decide
  have s2 := small_cat [80, 4] (groupsL n) (by simp; omega)
  have s3 : ¬ 9223372036854775807 < (strB [80, 4]).size + (strB (groupsL n)).size + (strB z).size := by rw [strB_size, strB_size, strB_size]; simp; omega
  have CT := Lib.hid (fun w' => refCount_any n w' (by omega))
  have SE := Lib.hid (fun w' => sealed_any (strB ([80, 4] ++ groupsL n ++ z)) w' (by rw [strB_size]; simp; omega))
  have B2 := Lib.hid al2
  have P8 := Lib.hid (p80 4)
  obtain ⟨W1, hW1⟩ : ∃ W1, (w.alloc (.cells #[.int .i64 4, .int .i64 nonce, .int .i64 (n : Int), .int .i64 base, .slice X ins.length c, .int .i64 ack, .int .u64 sum] 61)).alloc (.cells #[.int .u8 4] 5) = W1 := ⟨_, rfl⟩
  rw [hW1] at B2 b1
  have EW := Lib.hid hW1
  have CF : Hid (∀ wx, Below W1.heap.size W1 wx → wx.cell? ⟨w.heap.size, 2, none⟩ = some (.int .i64 (n : Int)) ∧ wx.cell? ⟨w.heap.size, 6, none⟩ = some (.int .u64 sum)) := Lib.hid (fun wx hb => by
    have hx := (hb.block _ (Array.getElem?_eq_some_iff.1 b1).1).trans b1
    exact ⟨by simp only [World.cell?, hx]; rfl, by simp only [World.cell?, hx]; rfl⟩)
  have b0 : Below W1.heap.size W1 W1.drew := ⟨rfl, rfl, rfl, Nat.le_refl _, fun _ _ => rfl⟩
  have c0 := CF.out _ b0
  clear hn al al2 GL ZL hz hW1 b1
  go_enter Tryd.func47, Tryd.ntmps47
  go_wp2_with fail
  rw [P8.out, EW.out]
  go_region_held3 (fun w' => w'.cell? ⟨w.heap.size, 2, none⟩ = some (.int .i64 (n : Int)) ∧ w'.cell? ⟨w.heap.size, 6, none⟩ = some (.int .u64 sum))
    (first | exact c0 | exact ca | exact cb)
    (first
      | (go_at_call 55; refine (CT.out _).mono ?_; rintro e wa ⟨rfl, hba⟩; have ba := b0.trans (hba.mono b0.size); have ca := CF.out _ ba)
      | (go_at_call 56; refine (NM.out _).mono ?_; rintro e wb ⟨rfl, hbb⟩; have bb := ba.trans (hbb.mono ba.size); have cb := CF.out _ bb))
  all_goals
    have B3 := Lib.hid (B2.out.trans (bb.mono B2.out.size))
    clear c0 ca cb hba hbb ba bb b0
    rw [strB_append, strB_append]
    go_wp2_with fail
    refine (SE.out _).mono ?_
    rintro e w2 ⟨rfl, hb2⟩
    have B4 := Lib.hid (B3.out.trans (hb2.mono B3.out.size))
    clear hb2
    go_wp2_with fail
    go_ret
    exact ⟨by rw [← EQ.out, ← seal_eq]; rfl, B4.out⟩
end

section
open Go.RowKit Go.WideShapes
set_option linter.unusedSimpArgs false

/-- All ways of a statement that makes one block meet behind it. -/
theorem meetB {P : Program} {c : Code} {Q : Exit → Act → World → Prop} {a : Act} {w : World} (F : Nat → Act) (R : World → Prop) (h : c.wp P (AtN fun a' wx => ∃ b, a' = F b ∧ R wx) a w) (k : ∀ b wx, R wx → Q .normal (F b) wx) : c.wp P Q a w :=
  wp_mono h fun e a' wx hat => by
    obtain ⟨rfl, b, rfl, hr⟩ := hat.out
    exact k b wx hr
def Bel (a b : World) : Prop := Below a.heap.size a b
theorem Bel.call {a b c : World} (h : Bel a b) (hb : Below b.heap.size b c) : Bel a c := Below.trans h (hb.mono (Below.size h))
theorem Bel.alloc {a b : World} (h : Bel a b) (o : Obj) : Bel a (b.alloc o) := h.call ((Below.refl _ _).alloc (Nat.le_refl _) o)
def byteVals (l : List UInt8) : List Value := l.map fun b => Value.int .u8 (b.toNat : Int)
/-- Of two rows one is appended to. -/
theorem two_rows {w2 wr w9 : World} {e e' : TypeId} {g o c n g' o' c' n' : Nat} {xs xs' : List Value} (h1 : RowAt wr e 1 g o c n xs) (h2 : RowAt wr e' 1 g' o' c' n' xs') (hd : g ≠ g') (hw : w2.heap.size ≤ g ∧ w2.heap.size ≤ g') (hB : Below w2.heap.size w2 wr)
    {obj : Obj} {g1 o1 c1 n1 : Nat} {xs1 : List Value} (_hr : RowAt w9 e 1 g1 o1 c1 n1 xs1) (hk : Kept [g] (wr.alloc obj) w9) (hg : g1 ∈ [g] ∨ g1 = (wr.alloc obj).heap.size) :
    RowAt w9 e' 1 g' o' c' n' xs' ∧ g1 ≠ g' ∧ w2.heap.size ≤ g1 ∧ Below w2.heap.size w2 w9 := by
  have l1 := h1.lt
  have l2 := h2.lt
  have sb := hB.size
  rw [size_alloc1] at hg
  refine ⟨(h2.kept (Kept.alloc wr obj) (by simp)).kept hk (by simp; omega), ?_, ?_, below_kept (below_one hB obj) hk (by simp; exact hw.1) (Nat.le_refl _)⟩
  · rcases hg with h | h
    · simp at h; omega
    · omega
  · rcases hg with h | h
    · simp at h; omega
    · omega
/-- What holds ahead of each round: the flags and the bytes so far. -/
def EnI (w2 : World) (b : Int) (l : List Int) (k : Nat) (fv bv : Value) (wr : World) : Prop :=
  ∃ gf of_ cf gb ob cb, fv = .slice (some ⟨gf, of_, none⟩) k cf ∧ bv = .slice (some ⟨gb, ob, none⟩) (insL b (l.take k)).length cb ∧ (RowAt wr 4 1 gf of_ cf k ((turnsL b (l.take k)).map Value.bool) ∧ RowAt wr 5 1 gb ob cb (insL b (l.take k)).length (byteVals (insL b (l.take k)))) ∧ gf ≠ gb ∧ (w2.heap.size ≤ gf ∧ w2.heap.size ≤ gb) ∧ Below w2.heap.size w2 wr
theorem rowAt_empty {w : World} {e : TypeId} {g : Nat} (h : w.heap[g]? = some (.cells #[] e (0, 0))) : RowAt w e 1 g 0 0 0 [] := ⟨rfl, Nat.le_refl _, by simp [maxLen], #[], h, by simp, by simp⟩
theorem turnsL_snoc : ∀ (l : List Int) (b x : Int), turnsL b (l ++ [x]) = turnsL b l ++ [x != l.getLastD b]
  | [], b, x => by simp [turnsL]
  | y :: r, b, x => by
    have e : (y :: r).getLastD b = r.getLastD y := by cases r <;> rfl
    rw [List.cons_append, turnsL, turnsL_snoc r y x, turnsL, e]
    rfl
theorem byteVals_snoc (l : List UInt8) (x : UInt8) : byteVals (l ++ [x]) = byteVals l ++ [.int .u8 (x.toNat : Int)] := by simp [byteVals]
theorem rowB_conv {w : World} {g o cap n : Nat} {l : List UInt8} (h : RowAt w 5 1 g o cap n (byteVals l)) (hn : l.length = n) (c : Nat) : (convert 67 9 (.slice (some ⟨g, o, none⟩) n c)).run Tryd.prog w = .ok (.string (strB l)) w := by
  subst hn
  refine run_convert_bytes_back _ 67 9 5 ⟨g, o, none⟩ c l Tryd.underlying67 Tryd.underlying5 Tryd.underlying9 (fun j hj => ?_)
  rw [add_plain]
  exact h.cell j _ (by simp [byteVals, hj])

set_option maxRecDepth 100000 in
set_option maxHeartbeats 12800000 in
theorem renc3 (nonce frm base : Int) (ins : List Int) (ack sum : Int) (X : Option Addr) (c : Nat) (w : World) (hc : Cells w X (iv ins)) (hf : 1 ≤ frm ∧ frm ≤ 1073741824) (ha : 0 ≤ ack ∧ ack ≤ 1073741824) (hb : 0 ≤ base ∧ base ≤ 255) (hl : 1 ≤ ins.length ∧ ins.length ≤ 32) (hx : ∀ x ∈ ins, 0 ≤ x ∧ x ≤ 255) : Calls Tryd.prog 47 #[.agg #[.int .i64 3, .int .i64 nonce, .int .i64 frm, .int .i64 base, .slice X ins.length c, .int .i64 ack, .int .u64 sum]] w fun e w' => e = .returned (.string (strB (encP ⟨3, nonce, frm, base, ins, ack, sum, X, c⟩))) ∧ Below w.heap.size w w' := by
  obtain ⟨n1, rfl⟩ : ∃ n : Nat, frm = (n : Int) := ⟨frm.toNat, by omega⟩
  obtain ⟨n2, rfl⟩ : ∃ n : Nat, ack = (n : Int) := ⟨ack.toNat, by omega⟩
  have G1 := groups5 (n1 : Int) (by omega)
  have G2 := groups5 (n2 : Int) (by omega)
  have G3 := groups5 (ins.length : Int) (by omega)
  rw [show ((n1 : Int)).toNat = n1 from rfl] at G1
  rw [show ((n2 : Int)).toNat = n2 from rfl] at G2
  rw [show ((ins.length : Int)).toNat = ins.length from rfl] at G3
  obtain ⟨xb, hxb⟩ : ∃ xb : UInt8, base = (xb.toNat : Int) := ⟨UInt8.ofNat base.toNat, by rw [UInt8.toNat_ofNat']; omega⟩
  have XB : Hid (UInt8.ofNat base.toNat = xb) := Lib.hid (by rw [hxb]; simp)
  have EQ : Hid (∀ d, d = ([80, 3] ++ groupsL n1 ++ groupsL n2 ++ [xb] ++ groupsL ins.length) ++ flagsL (turnsL base ins) ++ insL base ins → strB (d ++ sum4 d) = strB (encP ⟨3, nonce, (n1 : Int), base, ins, (n2 : Int), sum, X, c⟩)) := Lib.hid (by
    intro d hd
    have e : d = bareL ⟨3, nonce, (n1 : Int), base, ins, (n2 : Int), sum, X, c⟩ := by
      rw [hd]
      unfold bareL bodyL
      simp [XB.out]
    rw [e]
    rfl)
  have al := (Below.refl w.heap.size w).alloc (Nat.le_refl _) (.cells #[.int .i64 3, .int .i64 nonce, .int .i64 (n1 : Int), .int .i64 base, .slice X ins.length c, .int .i64 (n2 : Int), .int .u64 sum] 61)
  have b1 := (alloc_old (w.alloc (.cells #[.int .i64 3, .int .i64 nonce, .int .i64 (n1 : Int), .int .i64 base, .slice X ins.length c, .int .i64 (n2 : Int), .int .u64 sum] 61)) (.cells #[.int .u8 3] 5) w.heap.size (by rw [size_alloc1]; omega)).trans (heap_alloc_new w (.cells #[.int .i64 3, .int .i64 nonce, .int .i64 (n1 : Int), .int .i64 base, .slice X ins.length c, .int .i64 (n2 : Int), .int .u64 sum] 61))
  have r1 := run_one (w.alloc (.cells #[.int .i64 3, .int .i64 nonce, .int .i64 (n1 : Int), .int .i64 base, .slice X ins.length c, .int .i64 (n2 : Int), .int .u64 sum] 61)) 3 3 (by decide)
  rw [size_alloc1] at r1
  have al2 := al.alloc al.size (.cells #[.int .u8 3] 5)
  have FLN := flagsL_len (turnsL base ins)
  have INL := insL_len ins base
  rw [turnsL_len] at FLN
  have HXX := Lib.hid hx
  have CT1 := Lib.hid (fun w' => refCount_any n1 w' (by omega))
  have CT2 := Lib.hid (fun w' => refCount_any n2 w' (by omega))
  have CT3 := Lib.hid (fun w' => refCount_any ins.length w' (by omega))
  have FLG := Lib.hid (fun Y d w' (h : Cells w' Y ((turnsL base ins).map Value.bool)) => refFlags_any Y d (turnsL base ins) w' h (by rw [turnsL_len]; omega))
  rw [turnsL_len] at FLG
  obtain ⟨len, hlen⟩ : ∃ len, ins.length = len := ⟨_, rfl⟩
  have LN := Lib.hid hlen
  rw [hlen] at hl G3 CT3 FLG FLN INL al b1 r1 al2 ⊢
  rw [hlen] at EQ
  obtain ⟨g1, hg1⟩ : ∃ g1, groupsL n1 = g1 := ⟨_, rfl⟩
  obtain ⟨g2, hg2⟩ : ∃ g2, groupsL n2 = g2 := ⟨_, rfl⟩
  obtain ⟨g3, hg3⟩ : ∃ g3, groupsL len = g3 := ⟨_, rfl⟩
  rw [hg1] at G1 CT1 EQ
  rw [hg2] at G2 CT2 EQ
  rw [hg3] at G3 CT3 EQ
  have s1 : ¬ 9223372036854775807 < (⟨#[80]⟩ : ByteArray).size + (strB [3]).size := by rw [strB_size]; decide
  have s2 := small_cat [80, 3] g1 (by simp; omega)
  have s3 : ¬ 9223372036854775807 < (strB [80, 3]).size + (strB g1).size + (strB g2).size := by simp only [strB_size]; simp; omega
  have s4 : ¬ 9223372036854775807 < (strB [80, 3]).size + (strB g1).size + (strB g2).size + (strB [xb]).size := by simp only [strB_size]; simp; omega
  have s5 : ¬ 9223372036854775807 < (strB [80, 3]).size + (strB g1).size + (strB g2).size + (strB [xb]).size + (strB g3).size := by simp only [strB_size]; simp; omega
  obtain ⟨L7, hL7⟩ : ∃ L7, [80, 3] ++ g1 ++ g2 ++ [xb] ++ g3 = L7 := ⟨_, rfl⟩
  rw [hL7] at EQ
  have LH := Lib.hid hL7
  have L7L : L7.length ≤ 18 := by rw [← hL7]; simp; omega
  have B2 := Lib.hid al2
  have P8 := Lib.hid (p80 3)
  obtain ⟨W1, hW1⟩ : ∃ W1, (w.alloc (.cells #[.int .i64 3, .int .i64 nonce, .int .i64 (n1 : Int), .int .i64 base, .slice X len c, .int .i64 (n2 : Int), .int .u64 sum] 61)).alloc (.cells #[.int .u8 3] 5) = W1 := ⟨_, rfl⟩
  rw [hW1] at B2 b1
  have BX1 := Lib.hid b1
  have EW := Lib.hid hW1
  have CF : Hid (∀ wx : World, Bel W1 wx → wx.cell? ⟨w.heap.size, 2, none⟩ = some (.int .i64 (n1 : Int)) ∧ wx.cell? ⟨w.heap.size, 3, none⟩ = some (.int .i64 base) ∧ wx.cell? ⟨w.heap.size, 4, none⟩ = some (.slice X len c) ∧ wx.cell? ⟨w.heap.size, 5, none⟩ = some (.int .i64 (n2 : Int))) := Lib.hid (fun wx hb => by
    have hx := (hb.block _ (Array.getElem?_eq_some_iff.1 b1).1).trans b1
    exact ⟨by simp only [World.cell?, hx]; rfl, by simp only [World.cell?, hx]; rfl, by simp only [World.cell?, hx]; rfl, by simp only [World.cell?, hx]; rfl⟩)
  have b0 : Bel W1 W1.drew := ⟨rfl, rfl, rfl, Nat.le_refl _, fun _ _ => rfl⟩
  have b0' : Bel W1 (W1.alloc (.cells #[.int .u8 base] 5)).drew := b0.alloc _
  have z0 : (W1.alloc (.cells #[.int .u8 base] 5)).drew.heap[W1.heap.size]? = some (.cells #[.int .u8 base] 5 (0, 0)) := heap_alloc_new W1 _
  have CV : Hid (∀ (wx : World) (g : Nat), wx.heap[g]? = some (.cells #[.int .u8 base] 5 (0, 0)) → (convert 67 9 (.slice (some ⟨g, 0, none⟩) 1 1)).run Tryd.prog wx = .ok (.string (strB [xb])) wx) := Lib.hid (fun wx g h => by
    refine run_convert_bytes_back _ 67 9 5 ⟨g, 0, none⟩ 1 [xb] Tryd.underlying67 Tryd.underlying5 Tryd.underlying9 (fun j hj => ?_)
    rw [add_plain]
    simp at hj
    subst hj
    simp only [World.cell?, h, hxb]
    rfl)
  have ZP : Hid (∀ (wi wx : World) (g : Nat), Below wi.heap.size wi wx → wi.heap[g]? = some (.cells #[.int .u8 base] 5 (0, 0)) → wx.heap[g]? = some (.cells #[.int .u8 base] 5 (0, 0))) := Lib.hid (fun wi wx g h hz => (h.block _ (Array.getElem?_eq_some_iff.1 hz).1).trans hz)
  have HB := Lib.hid hb
  have eu : IntKind.u8.wrap base = base := by
    have e : ∀ x, IntKind.u8.wrap x = x % 256 := fun x => by simp [IntKind.wrap, IntKind.signed, IntKind.bits]
    rw [e]; omega
  obtain ⟨hb0, hb1⟩ := hb
  have CC := Lib.hid hc
  have ll : (len : Int) ≤ 32 := by omega
  have BIG := Lib.hid (And.intro FLN INL)
  clear hc hf ha hl hx G1 G2 G3 hxb al al2 hlen hg1 hg2 hg3 hL7 hW1 b1 FLN INL
  go_enter Tryd.func47, Tryd.ntmps47
  go_wp2_with fail
  rw [P8.out, EW.out]
  apply meetB (R := fun wx => Bel W1 wx)
  case h =>
    refine wp_region_held_drew (S := (fun wx => wx.cell? ⟨w.heap.size, 2, none⟩ = some (.int .i64 (n1 : Int)) ∧ wx.cell? ⟨w.heap.size, 3, none⟩ = some (.int .i64 base) ∧ wx.cell? ⟨w.heap.size, 4, none⟩ = some (.slice X len c) ∧ wx.cell? ⟨w.heap.size, 5, none⟩ = some (.int .i64 (n2 : Int)))) (by kernel_rfl) ?_ (fun hHeld => ?_)
    · (try dsimp only); exact CF.out _ b0
    refine wpAnyH_take (i := 0) (v := ?_) rfl (by kernel_rfl) (by kernel_rfl) (by kernel_rfl) (fun _ _ _ h => h) (Or.inl ⟨by rfl, ?_⟩) (by assumption) ?_
    rotate_left; · (intro w hSw; (try dsimp only at hSw); go_simp; try with_reducible rfl)
    (try simp only [Act.put, List.setIfInBounds_toArray, List.set_cons_zero, List.set_cons_succ, List.getElem_toArray, List.getElem_cons_zero, List.getElem_cons_succ])
    refine wpAnyH_take (i := 1) (v := ?_) rfl (by kernel_rfl) (by kernel_rfl) (by kernel_rfl) (fun _ _ _ h => h) (Or.inl ⟨by rfl, ?_⟩) (by assumption) ?_
    rotate_left; · (intro w hSw; (try dsimp only at hSw); go_simp; try with_reducible rfl)
    (try simp only [Act.put, List.setIfInBounds_toArray, List.set_cons_zero, List.set_cons_succ, List.getElem_toArray, List.getElem_cons_zero, List.getElem_cons_succ])
    refine wpAnyH_take (i := 2) (v := ?_) rfl (by kernel_rfl) (by kernel_rfl) (by kernel_rfl) (fun _ _ _ h => h) (Or.inl ⟨by rfl, ?_⟩) (by assumption) ?_
    rotate_left; · (intro w hSw; (try dsimp only at hSw); go_simp; try with_reducible rfl)
    (try simp only [Act.put, List.setIfInBounds_toArray, List.set_cons_zero, List.set_cons_succ, List.getElem_toArray, List.getElem_cons_zero, List.getElem_cons_succ])
    refine wpAnyH_take (i := 5) (v := ?_) rfl (by kernel_rfl) (by kernel_rfl) (by kernel_rfl) (fun _ _ _ h => h) (Or.inl ⟨by rfl, ?_⟩) (by assumption) ?_
    rotate_left; · (intro w hSw; (try dsimp only at hSw); go_simp; try with_reducible rfl)
    (try simp only [Act.put, List.setIfInBounds_toArray, List.set_cons_zero, List.set_cons_succ, List.getElem_toArray, List.getElem_cons_zero, List.getElem_cons_succ])
    refine wpAnyH_take (i := 6) (v := ?_) rfl (by kernel_rfl) (by kernel_rfl) (by kernel_rfl) (fun _ _ _ h => h) (Or.inl ⟨by rfl, ?_⟩) (by assumption) ?_
    rotate_left; · (intro w hSw; (try dsimp only at hSw); go_simp; try with_reducible rfl)
    (try simp only [Act.put, List.setIfInBounds_toArray, List.set_cons_zero, List.set_cons_succ, List.getElem_toArray, List.getElem_cons_zero, List.getElem_cons_succ])
    refine wpAnyH_take (i := 9) (v := ?_) rfl (by kernel_rfl) (by kernel_rfl) (by kernel_rfl) (fun _ _ _ h => h) (Or.inl ⟨by rfl, ?_⟩) (by assumption) ?_
    rotate_left; · (intro w hSw; (try dsimp only at hSw); go_simp; try with_reducible rfl)
    (try simp only [Act.put, List.setIfInBounds_toArray, List.set_cons_zero, List.set_cons_succ, List.getElem_toArray, List.getElem_cons_zero, List.getElem_cons_succ])
    refine wpAnyH_take (i := 10) (v := ?_) rfl (by kernel_rfl) (by kernel_rfl) (by kernel_rfl) (fun _ _ _ h => h) (Or.inl ⟨by rfl, ?_⟩) (by assumption) ?_
    rotate_left; · (intro w hSw; (try dsimp only at hSw); go_simp; try with_reducible rfl)
    (try simp only [Act.put, List.setIfInBounds_toArray, List.set_cons_zero, List.set_cons_succ, List.getElem_toArray, List.getElem_cons_zero, List.getElem_cons_succ])
    refine wpAnyH_take (i := 11) (v := ?_) rfl (by kernel_rfl) (by kernel_rfl) (by kernel_rfl) (fun _ _ _ h => h) (Or.inl ⟨by rfl, ?_⟩) (by assumption) ?_
    rotate_left; · (intro w hSw; (try dsimp only at hSw); go_simp; try with_reducible rfl)
    (try simp only [Act.put, List.setIfInBounds_toArray, List.set_cons_zero, List.set_cons_succ, List.getElem_toArray, List.getElem_cons_zero, List.getElem_cons_succ])
    refine wpAnyH_take (i := 15) (v := ?_) rfl (by kernel_rfl) (by kernel_rfl) (by kernel_rfl) (fun _ _ _ h => h) (Or.inl ⟨by rfl, ?_⟩) (by assumption) ?_
    rotate_left; · (intro w hSw; (try dsimp only at hSw); go_simp; try with_reducible rfl)
    (try simp only [Act.put, List.setIfInBounds_toArray, List.set_cons_zero, List.set_cons_succ, List.getElem_toArray, List.getElem_cons_zero, List.getElem_cons_succ])
    refine wpAnyH_take (i := 16) (v := ?_) rfl (by kernel_rfl) (by kernel_rfl) (by kernel_rfl) (fun _ _ _ h => h) (Or.inl ⟨by rfl, ?_⟩) (by assumption) ?_
    rotate_left; · (intro w hSw; (try dsimp only at hSw); go_simp; try with_reducible rfl)
    (try simp only [Act.put, List.setIfInBounds_toArray, List.set_cons_zero, List.set_cons_succ, List.getElem_toArray, List.getElem_cons_zero, List.getElem_cons_succ])
    refine wpAnyH_take (i := 17) (v := ?_) rfl (by kernel_rfl) (by kernel_rfl) (by kernel_rfl) (fun _ _ _ h => h) (Or.inl ⟨by rfl, ?_⟩) (by assumption) ?_
    rotate_left; · (intro w hSw; (try dsimp only at hSw); go_simp; try with_reducible rfl)
    (try simp only [Act.put, List.setIfInBounds_toArray, List.set_cons_zero, List.set_cons_succ, List.getElem_toArray, List.getElem_cons_zero, List.getElem_cons_succ])
    refine wpAnyH_ready (rs := [3, 12]) (by kernel_rfl) (by simp) ?_
    refine AllReadyH.cons rfl (fun K hK => ?_) ?_
    · (try simp only [List.getElem_toArray, List.getElem_cons_zero, List.getElem_cons_succ])
      go_simp
      (refine (CT1.out _).mono ?_; rintro e wa ⟨rfl, hba⟩; have ba := Bel.call b0 hba)
      refine hK.out _ _ ?_ (fun hHeld2 => ?_)
      · (try dsimp only); exact CF.out _ ba
      clear hK K hHeld
      have hHeld := hHeld2
      clear hHeld2
      (try simp only [Act.put, List.setIfInBounds_toArray, List.set_cons_zero, List.set_cons_succ, List.getElem_toArray, List.getElem_cons_zero, List.getElem_cons_succ])
      refine wpAnyH_take (i := 4) (v := ?_) rfl (by kernel_rfl) (by kernel_rfl) (by kernel_rfl) (fun _ _ _ h => h) (Or.inl ⟨by rfl, ?_⟩) (by assumption) ?_
      rotate_left; · (intro w hSw; (try dsimp only at hSw); go_simp; try with_reducible rfl)
      (try simp only [Act.put, List.setIfInBounds_toArray, List.set_cons_zero, List.set_cons_succ, List.getElem_toArray, List.getElem_cons_zero, List.getElem_cons_succ])
      refine wpAnyH_ready (rs := [7, 12]) (by kernel_rfl) (by simp) ?_
      refine AllReadyH.cons rfl (fun K hK => ?_) ?_
      · (try simp only [List.getElem_toArray, List.getElem_cons_zero, List.getElem_cons_succ])
        go_simp
        (refine (CT2.out _).mono ?_; rintro e wb ⟨rfl, hbb⟩; have bb := Bel.call ba hbb)
        refine hK.out _ _ ?_ (fun hHeld2 => ?_)
        · (try dsimp only); exact CF.out _ bb
        clear hK K hHeld
        have hHeld := hHeld2
        clear hHeld2
        (try simp only [Act.put, List.setIfInBounds_toArray, List.set_cons_zero, List.set_cons_succ, List.getElem_toArray, List.getElem_cons_zero, List.getElem_cons_succ])
        refine wpAnyH_take (i := 8) (v := ?_) rfl (by kernel_rfl) (by kernel_rfl) (by kernel_rfl) (fun _ _ _ h => h) (Or.inl ⟨by rfl, ?_⟩) (by assumption) ?_
        rotate_left; · (intro w hSw; (try dsimp only at hSw); go_simp; try with_reducible rfl)
        (try simp only [Act.put, List.setIfInBounds_toArray, List.set_cons_zero, List.set_cons_succ, List.getElem_toArray, List.getElem_cons_zero, List.getElem_cons_succ])
        refine wpAnyH_ready (rs := [12, 18]) (by kernel_rfl) (by simp) ?_
        refine AllReadyH.cons rfl (fun K hK => ?_) ?_
        · (try simp only [List.getElem_toArray, List.getElem_cons_zero, List.getElem_cons_succ])
          go_simp
          refine hK.out _ _ ?_ (fun hHeld2 => ?_)
          · (try dsimp only); exact CF.out _ (Bel.alloc bb _)
          clear hK K hHeld
          have hHeld := hHeld2
          clear hHeld2
          (try simp only [Act.put, List.setIfInBounds_toArray, List.set_cons_zero, List.set_cons_succ, List.getElem_toArray, List.getElem_cons_zero, List.getElem_cons_succ])
          refine wpAnyH_ready (rs := [13, 18]) (by kernel_rfl) (by simp) ?_
          refine AllReadyH.cons rfl (fun K hK => ?_) ?_
          · (try simp only [List.getElem_toArray, List.getElem_cons_zero, List.getElem_cons_succ])
            have cv := CV.out _ _ (heap_alloc_new wb _)
            go_simp
            clear cv
            refine hK.out _ _ ?_ (fun hHeld2 => ?_)
            · (try dsimp only); exact CF.out _ (Bel.alloc bb _)
            clear hK K hHeld
            have hHeld := hHeld2
            clear hHeld2
            (try simp only [Act.put, List.setIfInBounds_toArray, List.set_cons_zero, List.set_cons_succ, List.getElem_toArray, List.getElem_cons_zero, List.getElem_cons_succ])
            refine wpAnyH_take (i := 14) (v := ?_) rfl (by kernel_rfl) (by kernel_rfl) (by kernel_rfl) (fun _ _ _ h => h) (Or.inl ⟨by rfl, ?_⟩) (by assumption) ?_
            rotate_left; · (intro w hSw; (try dsimp only at hSw); go_simp; try with_reducible rfl)
            (try simp only [Act.put, List.setIfInBounds_toArray, List.set_cons_zero, List.set_cons_succ, List.getElem_toArray, List.getElem_cons_zero, List.getElem_cons_succ])
            refine wpAnyH_ready (rs := [18]) (by kernel_rfl) (by simp) ?_
            refine AllReadyH.cons rfl (fun K hK => ?_) AllReadyH.nil
            (try simp only [List.getElem_toArray, List.getElem_cons_zero, List.getElem_cons_succ])
            go_simp
            (refine (CT3.out _).mono ?_; rintro e wc ⟨rfl, hbc⟩; have bc := Bel.call (Bel.alloc bb _) hbc)
            refine hK.out _ _ ?_ (fun hHeld2 => ?_)
            · (try dsimp only); exact CF.out _ bc
            clear hK K hHeld
            have hHeld := hHeld2
            clear hHeld2
            (try simp only [Act.put, List.setIfInBounds_toArray, List.set_cons_zero, List.set_cons_succ, List.getElem_toArray, List.getElem_cons_zero, List.getElem_cons_succ])
            refine wpAnyH_take (i := 19) (v := ?_) rfl (by kernel_rfl) (by kernel_rfl) (by kernel_rfl) (fun _ _ _ h => h) (Or.inl ⟨by rfl, ?_⟩) (by assumption) ?_
            rotate_left; · (intro w hSw; (try dsimp only at hSw); go_simp; try with_reducible rfl)
            (try simp only [Act.put, List.setIfInBounds_toArray, List.set_cons_zero, List.set_cons_succ, List.getElem_toArray, List.getElem_cons_zero, List.getElem_cons_succ])
            refine wpAnyH_take (i := 20) (v := ?_) rfl (by kernel_rfl) (by kernel_rfl) (by kernel_rfl) (fun _ _ _ h => h) (Or.inl ⟨by rfl, ?_⟩) (by assumption) ?_
            rotate_left; · (intro w hSw; (try dsimp only at hSw); go_simp; try with_reducible rfl)
            (try simp only [Act.put, List.setIfInBounds_toArray, List.set_cons_zero, List.set_cons_succ, List.getElem_toArray, List.getElem_cons_zero, List.getElem_cons_succ])
            refine wpAnyH_done (by kernel_rfl) ?_ _
            (generalize hBB : wb.heap.size = B; exact ⟨B, rfl, bc⟩)
          refine AllReadyH.cons rfl (fun K hK => ?_) AllReadyH.nil
          (try simp only [List.getElem_toArray, List.getElem_cons_zero, List.getElem_cons_succ])
          go_simp
          (refine (CT3.out _).mono ?_; rintro e wc ⟨rfl, hbc⟩; have bc := Bel.call (Bel.alloc bb _) hbc)
          have zc := ZP.out _ _ _ hbc (heap_alloc_new wb _)
          refine hK.out _ _ ?_ (fun hHeld2 => ?_)
          · (try dsimp only); exact CF.out _ bc
          clear hK K hHeld
          have hHeld := hHeld2
          clear hHeld2
          (try simp only [Act.put, List.setIfInBounds_toArray, List.set_cons_zero, List.set_cons_succ, List.getElem_toArray, List.getElem_cons_zero, List.getElem_cons_succ])
          refine wpAnyH_ready (rs := [13]) (by kernel_rfl) (by simp) ?_
          refine AllReadyH.cons rfl (fun K hK => ?_) AllReadyH.nil
          (try simp only [List.getElem_toArray, List.getElem_cons_zero, List.getElem_cons_succ])
          have cv := CV.out _ _ zc
          go_simp
          clear cv
          refine hK.out _ _ ?_ (fun hHeld2 => ?_)
          · (try dsimp only); exact CF.out _ bc
          clear hK K hHeld
          have hHeld := hHeld2
          clear hHeld2
          (try simp only [Act.put, List.setIfInBounds_toArray, List.set_cons_zero, List.set_cons_succ, List.getElem_toArray, List.getElem_cons_zero, List.getElem_cons_succ])
          refine wpAnyH_take (i := 14) (v := ?_) rfl (by kernel_rfl) (by kernel_rfl) (by kernel_rfl) (fun _ _ _ h => h) (Or.inl ⟨by rfl, ?_⟩) (by assumption) ?_
          rotate_left; · (intro w hSw; (try dsimp only at hSw); go_simp; try with_reducible rfl)
          (try simp only [Act.put, List.setIfInBounds_toArray, List.set_cons_zero, List.set_cons_succ, List.getElem_toArray, List.getElem_cons_zero, List.getElem_cons_succ])
          refine wpAnyH_take (i := 19) (v := ?_) rfl (by kernel_rfl) (by kernel_rfl) (by kernel_rfl) (fun _ _ _ h => h) (Or.inl ⟨by rfl, ?_⟩) (by assumption) ?_
          rotate_left; · (intro w hSw; (try dsimp only at hSw); go_simp; try with_reducible rfl)
          (try simp only [Act.put, List.setIfInBounds_toArray, List.set_cons_zero, List.set_cons_succ, List.getElem_toArray, List.getElem_cons_zero, List.getElem_cons_succ])
          refine wpAnyH_take (i := 20) (v := ?_) rfl (by kernel_rfl) (by kernel_rfl) (by kernel_rfl) (fun _ _ _ h => h) (Or.inl ⟨by rfl, ?_⟩) (by assumption) ?_
          rotate_left; · (intro w hSw; (try dsimp only at hSw); go_simp; try with_reducible rfl)
          (try simp only [Act.put, List.setIfInBounds_toArray, List.set_cons_zero, List.set_cons_succ, List.getElem_toArray, List.getElem_cons_zero, List.getElem_cons_succ])
          refine wpAnyH_done (by kernel_rfl) ?_ _
          (generalize hBB : wb.heap.size = B; exact ⟨B, rfl, bc⟩)
        refine AllReadyH.cons rfl (fun K hK => ?_) AllReadyH.nil
        (try simp only [List.getElem_toArray, List.getElem_cons_zero, List.getElem_cons_succ])
        go_simp
        (refine (CT3.out _).mono ?_; rintro e wc ⟨rfl, hbc⟩; have bc := Bel.call bb hbc)
        refine hK.out _ _ ?_ (fun hHeld2 => ?_)
        · (try dsimp only); exact CF.out _ bc
        clear hK K hHeld
        have hHeld := hHeld2
        clear hHeld2
        (try simp only [Act.put, List.setIfInBounds_toArray, List.set_cons_zero, List.set_cons_succ, List.getElem_toArray, List.getElem_cons_zero, List.getElem_cons_succ])
        refine wpAnyH_ready (rs := [12]) (by kernel_rfl) (by simp) ?_
        refine AllReadyH.cons rfl (fun K hK => ?_) AllReadyH.nil
        (try simp only [List.getElem_toArray, List.getElem_cons_zero, List.getElem_cons_succ])
        go_simp
        refine hK.out _ _ ?_ (fun hHeld2 => ?_)
        · (try dsimp only); exact CF.out _ (Bel.alloc bc _)
        clear hK K hHeld
        have hHeld := hHeld2
        clear hHeld2
        (try simp only [Act.put, List.setIfInBounds_toArray, List.set_cons_zero, List.set_cons_succ, List.getElem_toArray, List.getElem_cons_zero, List.getElem_cons_succ])
        refine wpAnyH_ready (rs := [13]) (by kernel_rfl) (by simp) ?_
        refine AllReadyH.cons rfl (fun K hK => ?_) AllReadyH.nil
        (try simp only [List.getElem_toArray, List.getElem_cons_zero, List.getElem_cons_succ])
        have cv := CV.out _ _ (heap_alloc_new wc _)
        go_simp
        clear cv
        refine hK.out _ _ ?_ (fun hHeld2 => ?_)
        · (try dsimp only); exact CF.out _ (Bel.alloc bc _)
        clear hK K hHeld
        have hHeld := hHeld2
        clear hHeld2
        (try simp only [Act.put, List.setIfInBounds_toArray, List.set_cons_zero, List.set_cons_succ, List.getElem_toArray, List.getElem_cons_zero, List.getElem_cons_succ])
        refine wpAnyH_take (i := 14) (v := ?_) rfl (by kernel_rfl) (by kernel_rfl) (by kernel_rfl) (fun _ _ _ h => h) (Or.inl ⟨by rfl, ?_⟩) (by assumption) ?_
        rotate_left; · (intro w hSw; (try dsimp only at hSw); go_simp; try with_reducible rfl)
        (try simp only [Act.put, List.setIfInBounds_toArray, List.set_cons_zero, List.set_cons_succ, List.getElem_toArray, List.getElem_cons_zero, List.getElem_cons_succ])
        refine wpAnyH_take (i := 19) (v := ?_) rfl (by kernel_rfl) (by kernel_rfl) (by kernel_rfl) (fun _ _ _ h => h) (Or.inl ⟨by rfl, ?_⟩) (by assumption) ?_
        rotate_left; · (intro w hSw; (try dsimp only at hSw); go_simp; try with_reducible rfl)
        (try simp only [Act.put, List.setIfInBounds_toArray, List.set_cons_zero, List.set_cons_succ, List.getElem_toArray, List.getElem_cons_zero, List.getElem_cons_succ])
        refine wpAnyH_take (i := 20) (v := ?_) rfl (by kernel_rfl) (by kernel_rfl) (by kernel_rfl) (fun _ _ _ h => h) (Or.inl ⟨by rfl, ?_⟩) (by assumption) ?_
        rotate_left; · (intro w hSw; (try dsimp only at hSw); go_simp; try with_reducible rfl)
        (try simp only [Act.put, List.setIfInBounds_toArray, List.set_cons_zero, List.set_cons_succ, List.getElem_toArray, List.getElem_cons_zero, List.getElem_cons_succ])
        refine wpAnyH_done (by kernel_rfl) ?_ _
        (generalize hBB : wc.heap.size = B; exact ⟨B, rfl, (Bel.alloc bc _)⟩)
      refine AllReadyH.cons rfl (fun K hK => ?_) AllReadyH.nil
      (try simp only [List.getElem_toArray, List.getElem_cons_zero, List.getElem_cons_succ])
      go_simp
      refine hK.out _ _ ?_ (fun hHeld2 => ?_)
      · (try dsimp only); exact CF.out _ (Bel.alloc ba _)
      clear hK K hHeld
      have hHeld := hHeld2
      clear hHeld2
      (try simp only [Act.put, List.setIfInBounds_toArray, List.set_cons_zero, List.set_cons_succ, List.getElem_toArray, List.getElem_cons_zero, List.getElem_cons_succ])
      refine wpAnyH_ready (rs := [7, 13]) (by kernel_rfl) (by simp) ?_
      refine AllReadyH.cons rfl (fun K hK => ?_) ?_
      · (try simp only [List.getElem_toArray, List.getElem_cons_zero, List.getElem_cons_succ])
        go_simp
        (refine (CT2.out _).mono ?_; rintro e wb ⟨rfl, hbb⟩; have bb := Bel.call (Bel.alloc ba _) hbb)
        have zb := ZP.out _ _ _ hbb (heap_alloc_new wa _)
        refine hK.out _ _ ?_ (fun hHeld2 => ?_)
        · (try dsimp only); exact CF.out _ bb
        clear hK K hHeld
        have hHeld := hHeld2
        clear hHeld2
        (try simp only [Act.put, List.setIfInBounds_toArray, List.set_cons_zero, List.set_cons_succ, List.getElem_toArray, List.getElem_cons_zero, List.getElem_cons_succ])
        refine wpAnyH_take (i := 8) (v := ?_) rfl (by kernel_rfl) (by kernel_rfl) (by kernel_rfl) (fun _ _ _ h => h) (Or.inl ⟨by rfl, ?_⟩) (by assumption) ?_
        rotate_left; · (intro w hSw; (try dsimp only at hSw); go_simp; try with_reducible rfl)
        (try simp only [Act.put, List.setIfInBounds_toArray, List.set_cons_zero, List.set_cons_succ, List.getElem_toArray, List.getElem_cons_zero, List.getElem_cons_succ])
        refine wpAnyH_ready (rs := [13, 18]) (by kernel_rfl) (by simp) ?_
        refine AllReadyH.cons rfl (fun K hK => ?_) ?_
        · (try simp only [List.getElem_toArray, List.getElem_cons_zero, List.getElem_cons_succ])
          have cv := CV.out _ _ zb
          go_simp
          clear cv
          refine hK.out _ _ ?_ (fun hHeld2 => ?_)
          · (try dsimp only); exact CF.out _ bb
          clear hK K hHeld
          have hHeld := hHeld2
          clear hHeld2
          (try simp only [Act.put, List.setIfInBounds_toArray, List.set_cons_zero, List.set_cons_succ, List.getElem_toArray, List.getElem_cons_zero, List.getElem_cons_succ])
          refine wpAnyH_take (i := 14) (v := ?_) rfl (by kernel_rfl) (by kernel_rfl) (by kernel_rfl) (fun _ _ _ h => h) (Or.inl ⟨by rfl, ?_⟩) (by assumption) ?_
          rotate_left; · (intro w hSw; (try dsimp only at hSw); go_simp; try with_reducible rfl)
          (try simp only [Act.put, List.setIfInBounds_toArray, List.set_cons_zero, List.set_cons_succ, List.getElem_toArray, List.getElem_cons_zero, List.getElem_cons_succ])
          refine wpAnyH_ready (rs := [18]) (by kernel_rfl) (by simp) ?_
          refine AllReadyH.cons rfl (fun K hK => ?_) AllReadyH.nil
          (try simp only [List.getElem_toArray, List.getElem_cons_zero, List.getElem_cons_succ])
          go_simp
          (refine (CT3.out _).mono ?_; rintro e wc ⟨rfl, hbc⟩; have bc := Bel.call bb hbc)
          refine hK.out _ _ ?_ (fun hHeld2 => ?_)
          · (try dsimp only); exact CF.out _ bc
          clear hK K hHeld
          have hHeld := hHeld2
          clear hHeld2
          (try simp only [Act.put, List.setIfInBounds_toArray, List.set_cons_zero, List.set_cons_succ, List.getElem_toArray, List.getElem_cons_zero, List.getElem_cons_succ])
          refine wpAnyH_take (i := 19) (v := ?_) rfl (by kernel_rfl) (by kernel_rfl) (by kernel_rfl) (fun _ _ _ h => h) (Or.inl ⟨by rfl, ?_⟩) (by assumption) ?_
          rotate_left; · (intro w hSw; (try dsimp only at hSw); go_simp; try with_reducible rfl)
          (try simp only [Act.put, List.setIfInBounds_toArray, List.set_cons_zero, List.set_cons_succ, List.getElem_toArray, List.getElem_cons_zero, List.getElem_cons_succ])
          refine wpAnyH_take (i := 20) (v := ?_) rfl (by kernel_rfl) (by kernel_rfl) (by kernel_rfl) (fun _ _ _ h => h) (Or.inl ⟨by rfl, ?_⟩) (by assumption) ?_
          rotate_left; · (intro w hSw; (try dsimp only at hSw); go_simp; try with_reducible rfl)
          (try simp only [Act.put, List.setIfInBounds_toArray, List.set_cons_zero, List.set_cons_succ, List.getElem_toArray, List.getElem_cons_zero, List.getElem_cons_succ])
          refine wpAnyH_done (by kernel_rfl) ?_ _
          (generalize hBB : wa.heap.size = B; exact ⟨B, rfl, bc⟩)
        refine AllReadyH.cons rfl (fun K hK => ?_) AllReadyH.nil
        (try simp only [List.getElem_toArray, List.getElem_cons_zero, List.getElem_cons_succ])
        go_simp
        (refine (CT3.out _).mono ?_; rintro e wc ⟨rfl, hbc⟩; have bc := Bel.call bb hbc)
        have zc := ZP.out _ _ _ hbc zb
        refine hK.out _ _ ?_ (fun hHeld2 => ?_)
        · (try dsimp only); exact CF.out _ bc
        clear hK K hHeld
        have hHeld := hHeld2
        clear hHeld2
        (try simp only [Act.put, List.setIfInBounds_toArray, List.set_cons_zero, List.set_cons_succ, List.getElem_toArray, List.getElem_cons_zero, List.getElem_cons_succ])
        refine wpAnyH_ready (rs := [13]) (by kernel_rfl) (by simp) ?_
        refine AllReadyH.cons rfl (fun K hK => ?_) AllReadyH.nil
        (try simp only [List.getElem_toArray, List.getElem_cons_zero, List.getElem_cons_succ])
        have cv := CV.out _ _ zc
        go_simp
        clear cv
        refine hK.out _ _ ?_ (fun hHeld2 => ?_)
        · (try dsimp only); exact CF.out _ bc
        clear hK K hHeld
        have hHeld := hHeld2
        clear hHeld2
        (try simp only [Act.put, List.setIfInBounds_toArray, List.set_cons_zero, List.set_cons_succ, List.getElem_toArray, List.getElem_cons_zero, List.getElem_cons_succ])
        refine wpAnyH_take (i := 14) (v := ?_) rfl (by kernel_rfl) (by kernel_rfl) (by kernel_rfl) (fun _ _ _ h => h) (Or.inl ⟨by rfl, ?_⟩) (by assumption) ?_
        rotate_left; · (intro w hSw; (try dsimp only at hSw); go_simp; try with_reducible rfl)
        (try simp only [Act.put, List.setIfInBounds_toArray, List.set_cons_zero, List.set_cons_succ, List.getElem_toArray, List.getElem_cons_zero, List.getElem_cons_succ])
        refine wpAnyH_take (i := 19) (v := ?_) rfl (by kernel_rfl) (by kernel_rfl) (by kernel_rfl) (fun _ _ _ h => h) (Or.inl ⟨by rfl, ?_⟩) (by assumption) ?_
        rotate_left; · (intro w hSw; (try dsimp only at hSw); go_simp; try with_reducible rfl)
        (try simp only [Act.put, List.setIfInBounds_toArray, List.set_cons_zero, List.set_cons_succ, List.getElem_toArray, List.getElem_cons_zero, List.getElem_cons_succ])
        refine wpAnyH_take (i := 20) (v := ?_) rfl (by kernel_rfl) (by kernel_rfl) (by kernel_rfl) (fun _ _ _ h => h) (Or.inl ⟨by rfl, ?_⟩) (by assumption) ?_
        rotate_left; · (intro w hSw; (try dsimp only at hSw); go_simp; try with_reducible rfl)
        (try simp only [Act.put, List.setIfInBounds_toArray, List.set_cons_zero, List.set_cons_succ, List.getElem_toArray, List.getElem_cons_zero, List.getElem_cons_succ])
        refine wpAnyH_done (by kernel_rfl) ?_ _
        (generalize hBB : wa.heap.size = B; exact ⟨B, rfl, bc⟩)
      refine AllReadyH.cons rfl (fun K hK => ?_) AllReadyH.nil
      (try simp only [List.getElem_toArray, List.getElem_cons_zero, List.getElem_cons_succ])
      have cv := CV.out _ _ (heap_alloc_new wa _)
      go_simp
      clear cv
      refine hK.out _ _ ?_ (fun hHeld2 => ?_)
      · (try dsimp only); exact CF.out _ (Bel.alloc ba _)
      clear hK K hHeld
      have hHeld := hHeld2
      clear hHeld2
      (try simp only [Act.put, List.setIfInBounds_toArray, List.set_cons_zero, List.set_cons_succ, List.getElem_toArray, List.getElem_cons_zero, List.getElem_cons_succ])
      refine wpAnyH_ready (rs := [7]) (by kernel_rfl) (by simp) ?_
      refine AllReadyH.cons rfl (fun K hK => ?_) AllReadyH.nil
      (try simp only [List.getElem_toArray, List.getElem_cons_zero, List.getElem_cons_succ])
      go_simp
      (refine (CT2.out _).mono ?_; rintro e wb ⟨rfl, hbb⟩; have bb := Bel.call (Bel.alloc ba _) hbb)
      refine hK.out _ _ ?_ (fun hHeld2 => ?_)
      · (try dsimp only); exact CF.out _ bb
      clear hK K hHeld
      have hHeld := hHeld2
      clear hHeld2
      (try simp only [Act.put, List.setIfInBounds_toArray, List.set_cons_zero, List.set_cons_succ, List.getElem_toArray, List.getElem_cons_zero, List.getElem_cons_succ])
      refine wpAnyH_take (i := 8) (v := ?_) rfl (by kernel_rfl) (by kernel_rfl) (by kernel_rfl) (fun _ _ _ h => h) (Or.inl ⟨by rfl, ?_⟩) (by assumption) ?_
      rotate_left; · (intro w hSw; (try dsimp only at hSw); go_simp; try with_reducible rfl)
      (try simp only [Act.put, List.setIfInBounds_toArray, List.set_cons_zero, List.set_cons_succ, List.getElem_toArray, List.getElem_cons_zero, List.getElem_cons_succ])
      refine wpAnyH_take (i := 14) (v := ?_) rfl (by kernel_rfl) (by kernel_rfl) (by kernel_rfl) (fun _ _ _ h => h) (Or.inl ⟨by rfl, ?_⟩) (by assumption) ?_
      rotate_left; · (intro w hSw; (try dsimp only at hSw); go_simp; try with_reducible rfl)
      (try simp only [Act.put, List.setIfInBounds_toArray, List.set_cons_zero, List.set_cons_succ, List.getElem_toArray, List.getElem_cons_zero, List.getElem_cons_succ])
      refine wpAnyH_ready (rs := [18]) (by kernel_rfl) (by simp) ?_
      refine AllReadyH.cons rfl (fun K hK => ?_) AllReadyH.nil
      (try simp only [List.getElem_toArray, List.getElem_cons_zero, List.getElem_cons_succ])
      go_simp
      (refine (CT3.out _).mono ?_; rintro e wc ⟨rfl, hbc⟩; have bc := Bel.call bb hbc)
      refine hK.out _ _ ?_ (fun hHeld2 => ?_)
      · (try dsimp only); exact CF.out _ bc
      clear hK K hHeld
      have hHeld := hHeld2
      clear hHeld2
      (try simp only [Act.put, List.setIfInBounds_toArray, List.set_cons_zero, List.set_cons_succ, List.getElem_toArray, List.getElem_cons_zero, List.getElem_cons_succ])
      refine wpAnyH_take (i := 19) (v := ?_) rfl (by kernel_rfl) (by kernel_rfl) (by kernel_rfl) (fun _ _ _ h => h) (Or.inl ⟨by rfl, ?_⟩) (by assumption) ?_
      rotate_left; · (intro w hSw; (try dsimp only at hSw); go_simp; try with_reducible rfl)
      (try simp only [Act.put, List.setIfInBounds_toArray, List.set_cons_zero, List.set_cons_succ, List.getElem_toArray, List.getElem_cons_zero, List.getElem_cons_succ])
      refine wpAnyH_take (i := 20) (v := ?_) rfl (by kernel_rfl) (by kernel_rfl) (by kernel_rfl) (fun _ _ _ h => h) (Or.inl ⟨by rfl, ?_⟩) (by assumption) ?_
      rotate_left; · (intro w hSw; (try dsimp only at hSw); go_simp; try with_reducible rfl)
      (try simp only [Act.put, List.setIfInBounds_toArray, List.set_cons_zero, List.set_cons_succ, List.getElem_toArray, List.getElem_cons_zero, List.getElem_cons_succ])
      refine wpAnyH_done (by kernel_rfl) ?_ _
      (generalize hBB : wa.heap.size = B; exact ⟨B, rfl, bc⟩)
    refine AllReadyH.cons rfl (fun K hK => ?_) AllReadyH.nil
    (try simp only [List.getElem_toArray, List.getElem_cons_zero, List.getElem_cons_succ])
    go_simp
    refine hK.out _ _ ?_ (fun hHeld2 => ?_)
    · (try dsimp only); exact CF.out _ b0'
    clear hK K hHeld
    have hHeld := hHeld2
    clear hHeld2
    (try simp only [Act.put, List.setIfInBounds_toArray, List.set_cons_zero, List.set_cons_succ, List.getElem_toArray, List.getElem_cons_zero, List.getElem_cons_succ])
    refine wpAnyH_ready (rs := [3, 13]) (by kernel_rfl) (by simp) ?_
    refine AllReadyH.cons rfl (fun K hK => ?_) ?_
    · (try simp only [List.getElem_toArray, List.getElem_cons_zero, List.getElem_cons_succ])
      go_simp
      (refine (CT1.out _).mono ?_; rintro e wa ⟨rfl, hba⟩; have ba := Bel.call b0' hba)
      have za := ZP.out _ _ _ hba z0
      refine hK.out _ _ ?_ (fun hHeld2 => ?_)
      · (try dsimp only); exact CF.out _ ba
      clear hK K hHeld
      have hHeld := hHeld2
      clear hHeld2
      (try simp only [Act.put, List.setIfInBounds_toArray, List.set_cons_zero, List.set_cons_succ, List.getElem_toArray, List.getElem_cons_zero, List.getElem_cons_succ])
      refine wpAnyH_take (i := 4) (v := ?_) rfl (by kernel_rfl) (by kernel_rfl) (by kernel_rfl) (fun _ _ _ h => h) (Or.inl ⟨by rfl, ?_⟩) (by assumption) ?_
      rotate_left; · (intro w hSw; (try dsimp only at hSw); go_simp; try with_reducible rfl)
      (try simp only [Act.put, List.setIfInBounds_toArray, List.set_cons_zero, List.set_cons_succ, List.getElem_toArray, List.getElem_cons_zero, List.getElem_cons_succ])
      refine wpAnyH_ready (rs := [7, 13]) (by kernel_rfl) (by simp) ?_
      refine AllReadyH.cons rfl (fun K hK => ?_) ?_
      · (try simp only [List.getElem_toArray, List.getElem_cons_zero, List.getElem_cons_succ])
        go_simp
        (refine (CT2.out _).mono ?_; rintro e wb ⟨rfl, hbb⟩; have bb := Bel.call ba hbb)
        have zb := ZP.out _ _ _ hbb za
        refine hK.out _ _ ?_ (fun hHeld2 => ?_)
        · (try dsimp only); exact CF.out _ bb
        clear hK K hHeld
        have hHeld := hHeld2
        clear hHeld2
        (try simp only [Act.put, List.setIfInBounds_toArray, List.set_cons_zero, List.set_cons_succ, List.getElem_toArray, List.getElem_cons_zero, List.getElem_cons_succ])
        refine wpAnyH_take (i := 8) (v := ?_) rfl (by kernel_rfl) (by kernel_rfl) (by kernel_rfl) (fun _ _ _ h => h) (Or.inl ⟨by rfl, ?_⟩) (by assumption) ?_
        rotate_left; · (intro w hSw; (try dsimp only at hSw); go_simp; try with_reducible rfl)
        (try simp only [Act.put, List.setIfInBounds_toArray, List.set_cons_zero, List.set_cons_succ, List.getElem_toArray, List.getElem_cons_zero, List.getElem_cons_succ])
        refine wpAnyH_ready (rs := [13, 18]) (by kernel_rfl) (by simp) ?_
        refine AllReadyH.cons rfl (fun K hK => ?_) ?_
        · (try simp only [List.getElem_toArray, List.getElem_cons_zero, List.getElem_cons_succ])
          have cv := CV.out _ _ zb
          go_simp
          clear cv
          refine hK.out _ _ ?_ (fun hHeld2 => ?_)
          · (try dsimp only); exact CF.out _ bb
          clear hK K hHeld
          have hHeld := hHeld2
          clear hHeld2
          (try simp only [Act.put, List.setIfInBounds_toArray, List.set_cons_zero, List.set_cons_succ, List.getElem_toArray, List.getElem_cons_zero, List.getElem_cons_succ])
          refine wpAnyH_take (i := 14) (v := ?_) rfl (by kernel_rfl) (by kernel_rfl) (by kernel_rfl) (fun _ _ _ h => h) (Or.inl ⟨by rfl, ?_⟩) (by assumption) ?_
          rotate_left; · (intro w hSw; (try dsimp only at hSw); go_simp; try with_reducible rfl)
          (try simp only [Act.put, List.setIfInBounds_toArray, List.set_cons_zero, List.set_cons_succ, List.getElem_toArray, List.getElem_cons_zero, List.getElem_cons_succ])
          refine wpAnyH_ready (rs := [18]) (by kernel_rfl) (by simp) ?_
          refine AllReadyH.cons rfl (fun K hK => ?_) AllReadyH.nil
          (try simp only [List.getElem_toArray, List.getElem_cons_zero, List.getElem_cons_succ])
          go_simp
          (refine (CT3.out _).mono ?_; rintro e wc ⟨rfl, hbc⟩; have bc := Bel.call bb hbc)
          refine hK.out _ _ ?_ (fun hHeld2 => ?_)
          · (try dsimp only); exact CF.out _ bc
          clear hK K hHeld
          have hHeld := hHeld2
          clear hHeld2
          (try simp only [Act.put, List.setIfInBounds_toArray, List.set_cons_zero, List.set_cons_succ, List.getElem_toArray, List.getElem_cons_zero, List.getElem_cons_succ])
          refine wpAnyH_take (i := 19) (v := ?_) rfl (by kernel_rfl) (by kernel_rfl) (by kernel_rfl) (fun _ _ _ h => h) (Or.inl ⟨by rfl, ?_⟩) (by assumption) ?_
          rotate_left; · (intro w hSw; (try dsimp only at hSw); go_simp; try with_reducible rfl)
          (try simp only [Act.put, List.setIfInBounds_toArray, List.set_cons_zero, List.set_cons_succ, List.getElem_toArray, List.getElem_cons_zero, List.getElem_cons_succ])
          refine wpAnyH_take (i := 20) (v := ?_) rfl (by kernel_rfl) (by kernel_rfl) (by kernel_rfl) (fun _ _ _ h => h) (Or.inl ⟨by rfl, ?_⟩) (by assumption) ?_
          rotate_left; · (intro w hSw; (try dsimp only at hSw); go_simp; try with_reducible rfl)
          (try simp only [Act.put, List.setIfInBounds_toArray, List.set_cons_zero, List.set_cons_succ, List.getElem_toArray, List.getElem_cons_zero, List.getElem_cons_succ])
          refine wpAnyH_done (by kernel_rfl) ?_ _
          (generalize hBB : W1.heap.size = B; exact ⟨B, rfl, bc⟩)
        refine AllReadyH.cons rfl (fun K hK => ?_) AllReadyH.nil
        (try simp only [List.getElem_toArray, List.getElem_cons_zero, List.getElem_cons_succ])
        go_simp
        (refine (CT3.out _).mono ?_; rintro e wc ⟨rfl, hbc⟩; have bc := Bel.call bb hbc)
        have zc := ZP.out _ _ _ hbc zb
        refine hK.out _ _ ?_ (fun hHeld2 => ?_)
        · (try dsimp only); exact CF.out _ bc
        clear hK K hHeld
        have hHeld := hHeld2
        clear hHeld2
        (try simp only [Act.put, List.setIfInBounds_toArray, List.set_cons_zero, List.set_cons_succ, List.getElem_toArray, List.getElem_cons_zero, List.getElem_cons_succ])
        refine wpAnyH_ready (rs := [13]) (by kernel_rfl) (by simp) ?_
        refine AllReadyH.cons rfl (fun K hK => ?_) AllReadyH.nil
        (try simp only [List.getElem_toArray, List.getElem_cons_zero, List.getElem_cons_succ])
        have cv := CV.out _ _ zc
        go_simp
        clear cv
        refine hK.out _ _ ?_ (fun hHeld2 => ?_)
        · (try dsimp only); exact CF.out _ bc
        clear hK K hHeld
        have hHeld := hHeld2
        clear hHeld2
        (try simp only [Act.put, List.setIfInBounds_toArray, List.set_cons_zero, List.set_cons_succ, List.getElem_toArray, List.getElem_cons_zero, List.getElem_cons_succ])
        refine wpAnyH_take (i := 14) (v := ?_) rfl (by kernel_rfl) (by kernel_rfl) (by kernel_rfl) (fun _ _ _ h => h) (Or.inl ⟨by rfl, ?_⟩) (by assumption) ?_
        rotate_left; · (intro w hSw; (try dsimp only at hSw); go_simp; try with_reducible rfl)
        (try simp only [Act.put, List.setIfInBounds_toArray, List.set_cons_zero, List.set_cons_succ, List.getElem_toArray, List.getElem_cons_zero, List.getElem_cons_succ])
        refine wpAnyH_take (i := 19) (v := ?_) rfl (by kernel_rfl) (by kernel_rfl) (by kernel_rfl) (fun _ _ _ h => h) (Or.inl ⟨by rfl, ?_⟩) (by assumption) ?_
        rotate_left; · (intro w hSw; (try dsimp only at hSw); go_simp; try with_reducible rfl)
        (try simp only [Act.put, List.setIfInBounds_toArray, List.set_cons_zero, List.set_cons_succ, List.getElem_toArray, List.getElem_cons_zero, List.getElem_cons_succ])
        refine wpAnyH_take (i := 20) (v := ?_) rfl (by kernel_rfl) (by kernel_rfl) (by kernel_rfl) (fun _ _ _ h => h) (Or.inl ⟨by rfl, ?_⟩) (by assumption) ?_
        rotate_left; · (intro w hSw; (try dsimp only at hSw); go_simp; try with_reducible rfl)
        (try simp only [Act.put, List.setIfInBounds_toArray, List.set_cons_zero, List.set_cons_succ, List.getElem_toArray, List.getElem_cons_zero, List.getElem_cons_succ])
        refine wpAnyH_done (by kernel_rfl) ?_ _
        (generalize hBB : W1.heap.size = B; exact ⟨B, rfl, bc⟩)
      refine AllReadyH.cons rfl (fun K hK => ?_) AllReadyH.nil
      (try simp only [List.getElem_toArray, List.getElem_cons_zero, List.getElem_cons_succ])
      have cv := CV.out _ _ za
      go_simp
      clear cv
      refine hK.out _ _ ?_ (fun hHeld2 => ?_)
      · (try dsimp only); exact CF.out _ ba
      clear hK K hHeld
      have hHeld := hHeld2
      clear hHeld2
      (try simp only [Act.put, List.setIfInBounds_toArray, List.set_cons_zero, List.set_cons_succ, List.getElem_toArray, List.getElem_cons_zero, List.getElem_cons_succ])
      refine wpAnyH_ready (rs := [7]) (by kernel_rfl) (by simp) ?_
      refine AllReadyH.cons rfl (fun K hK => ?_) AllReadyH.nil
      (try simp only [List.getElem_toArray, List.getElem_cons_zero, List.getElem_cons_succ])
      go_simp
      (refine (CT2.out _).mono ?_; rintro e wb ⟨rfl, hbb⟩; have bb := Bel.call ba hbb)
      refine hK.out _ _ ?_ (fun hHeld2 => ?_)
      · (try dsimp only); exact CF.out _ bb
      clear hK K hHeld
      have hHeld := hHeld2
      clear hHeld2
      (try simp only [Act.put, List.setIfInBounds_toArray, List.set_cons_zero, List.set_cons_succ, List.getElem_toArray, List.getElem_cons_zero, List.getElem_cons_succ])
      refine wpAnyH_take (i := 8) (v := ?_) rfl (by kernel_rfl) (by kernel_rfl) (by kernel_rfl) (fun _ _ _ h => h) (Or.inl ⟨by rfl, ?_⟩) (by assumption) ?_
      rotate_left; · (intro w hSw; (try dsimp only at hSw); go_simp; try with_reducible rfl)
      (try simp only [Act.put, List.setIfInBounds_toArray, List.set_cons_zero, List.set_cons_succ, List.getElem_toArray, List.getElem_cons_zero, List.getElem_cons_succ])
      refine wpAnyH_take (i := 14) (v := ?_) rfl (by kernel_rfl) (by kernel_rfl) (by kernel_rfl) (fun _ _ _ h => h) (Or.inl ⟨by rfl, ?_⟩) (by assumption) ?_
      rotate_left; · (intro w hSw; (try dsimp only at hSw); go_simp; try with_reducible rfl)
      (try simp only [Act.put, List.setIfInBounds_toArray, List.set_cons_zero, List.set_cons_succ, List.getElem_toArray, List.getElem_cons_zero, List.getElem_cons_succ])
      refine wpAnyH_ready (rs := [18]) (by kernel_rfl) (by simp) ?_
      refine AllReadyH.cons rfl (fun K hK => ?_) AllReadyH.nil
      (try simp only [List.getElem_toArray, List.getElem_cons_zero, List.getElem_cons_succ])
      go_simp
      (refine (CT3.out _).mono ?_; rintro e wc ⟨rfl, hbc⟩; have bc := Bel.call bb hbc)
      refine hK.out _ _ ?_ (fun hHeld2 => ?_)
      · (try dsimp only); exact CF.out _ bc
      clear hK K hHeld
      have hHeld := hHeld2
      clear hHeld2
      (try simp only [Act.put, List.setIfInBounds_toArray, List.set_cons_zero, List.set_cons_succ, List.getElem_toArray, List.getElem_cons_zero, List.getElem_cons_succ])
      refine wpAnyH_take (i := 19) (v := ?_) rfl (by kernel_rfl) (by kernel_rfl) (by kernel_rfl) (fun _ _ _ h => h) (Or.inl ⟨by rfl, ?_⟩) (by assumption) ?_
      rotate_left; · (intro w hSw; (try dsimp only at hSw); go_simp; try with_reducible rfl)
      (try simp only [Act.put, List.setIfInBounds_toArray, List.set_cons_zero, List.set_cons_succ, List.getElem_toArray, List.getElem_cons_zero, List.getElem_cons_succ])
      refine wpAnyH_take (i := 20) (v := ?_) rfl (by kernel_rfl) (by kernel_rfl) (by kernel_rfl) (fun _ _ _ h => h) (Or.inl ⟨by rfl, ?_⟩) (by assumption) ?_
      rotate_left; · (intro w hSw; (try dsimp only at hSw); go_simp; try with_reducible rfl)
      (try simp only [Act.put, List.setIfInBounds_toArray, List.set_cons_zero, List.set_cons_succ, List.getElem_toArray, List.getElem_cons_zero, List.getElem_cons_succ])
      refine wpAnyH_done (by kernel_rfl) ?_ _
      (generalize hBB : W1.heap.size = B; exact ⟨B, rfl, bc⟩)
    refine AllReadyH.cons rfl (fun K hK => ?_) AllReadyH.nil
    (try simp only [List.getElem_toArray, List.getElem_cons_zero, List.getElem_cons_succ])
    have cv := CV.out _ _ z0
    go_simp
    clear cv
    refine hK.out _ _ ?_ (fun hHeld2 => ?_)
    · (try dsimp only); exact CF.out _ b0'
    clear hK K hHeld
    have hHeld := hHeld2
    clear hHeld2
    (try simp only [Act.put, List.setIfInBounds_toArray, List.set_cons_zero, List.set_cons_succ, List.getElem_toArray, List.getElem_cons_zero, List.getElem_cons_succ])
    refine wpAnyH_ready (rs := [3]) (by kernel_rfl) (by simp) ?_
    refine AllReadyH.cons rfl (fun K hK => ?_) AllReadyH.nil
    (try simp only [List.getElem_toArray, List.getElem_cons_zero, List.getElem_cons_succ])
    go_simp
    (refine (CT1.out _).mono ?_; rintro e wa ⟨rfl, hba⟩; have ba := Bel.call b0' hba)
    refine hK.out _ _ ?_ (fun hHeld2 => ?_)
    · (try dsimp only); exact CF.out _ ba
    clear hK K hHeld
    have hHeld := hHeld2
    clear hHeld2
    (try simp only [Act.put, List.setIfInBounds_toArray, List.set_cons_zero, List.set_cons_succ, List.getElem_toArray, List.getElem_cons_zero, List.getElem_cons_succ])
    refine wpAnyH_take (i := 4) (v := ?_) rfl (by kernel_rfl) (by kernel_rfl) (by kernel_rfl) (fun _ _ _ h => h) (Or.inl ⟨by rfl, ?_⟩) (by assumption) ?_
    rotate_left; · (intro w hSw; (try dsimp only at hSw); go_simp; try with_reducible rfl)
    (try simp only [Act.put, List.setIfInBounds_toArray, List.set_cons_zero, List.set_cons_succ, List.getElem_toArray, List.getElem_cons_zero, List.getElem_cons_succ])
    refine wpAnyH_ready (rs := [7]) (by kernel_rfl) (by simp) ?_
    refine AllReadyH.cons rfl (fun K hK => ?_) AllReadyH.nil
    (try simp only [List.getElem_toArray, List.getElem_cons_zero, List.getElem_cons_succ])
    go_simp
    (refine (CT2.out _).mono ?_; rintro e wb ⟨rfl, hbb⟩; have bb := Bel.call ba hbb)
    refine hK.out _ _ ?_ (fun hHeld2 => ?_)
    · (try dsimp only); exact CF.out _ bb
    clear hK K hHeld
    have hHeld := hHeld2
    clear hHeld2
    (try simp only [Act.put, List.setIfInBounds_toArray, List.set_cons_zero, List.set_cons_succ, List.getElem_toArray, List.getElem_cons_zero, List.getElem_cons_succ])
    refine wpAnyH_take (i := 8) (v := ?_) rfl (by kernel_rfl) (by kernel_rfl) (by kernel_rfl) (fun _ _ _ h => h) (Or.inl ⟨by rfl, ?_⟩) (by assumption) ?_
    rotate_left; · (intro w hSw; (try dsimp only at hSw); go_simp; try with_reducible rfl)
    (try simp only [Act.put, List.setIfInBounds_toArray, List.set_cons_zero, List.set_cons_succ, List.getElem_toArray, List.getElem_cons_zero, List.getElem_cons_succ])
    refine wpAnyH_take (i := 14) (v := ?_) rfl (by kernel_rfl) (by kernel_rfl) (by kernel_rfl) (fun _ _ _ h => h) (Or.inl ⟨by rfl, ?_⟩) (by assumption) ?_
    rotate_left; · (intro w hSw; (try dsimp only at hSw); go_simp; try with_reducible rfl)
    (try simp only [Act.put, List.setIfInBounds_toArray, List.set_cons_zero, List.set_cons_succ, List.getElem_toArray, List.getElem_cons_zero, List.getElem_cons_succ])
    refine wpAnyH_ready (rs := [18]) (by kernel_rfl) (by simp) ?_
    refine AllReadyH.cons rfl (fun K hK => ?_) AllReadyH.nil
    (try simp only [List.getElem_toArray, List.getElem_cons_zero, List.getElem_cons_succ])
    go_simp
    (refine (CT3.out _).mono ?_; rintro e wc ⟨rfl, hbc⟩; have bc := Bel.call bb hbc)
    refine hK.out _ _ ?_ (fun hHeld2 => ?_)
    · (try dsimp only); exact CF.out _ bc
    clear hK K hHeld
    have hHeld := hHeld2
    clear hHeld2
    (try simp only [Act.put, List.setIfInBounds_toArray, List.set_cons_zero, List.set_cons_succ, List.getElem_toArray, List.getElem_cons_zero, List.getElem_cons_succ])
    refine wpAnyH_take (i := 19) (v := ?_) rfl (by kernel_rfl) (by kernel_rfl) (by kernel_rfl) (fun _ _ _ h => h) (Or.inl ⟨by rfl, ?_⟩) (by assumption) ?_
    rotate_left; · (intro w hSw; (try dsimp only at hSw); go_simp; try with_reducible rfl)
    (try simp only [Act.put, List.setIfInBounds_toArray, List.set_cons_zero, List.set_cons_succ, List.getElem_toArray, List.getElem_cons_zero, List.getElem_cons_succ])
    refine wpAnyH_take (i := 20) (v := ?_) rfl (by kernel_rfl) (by kernel_rfl) (by kernel_rfl) (fun _ _ _ h => h) (Or.inl ⟨by rfl, ?_⟩) (by assumption) ?_
    rotate_left; · (intro w hSw; (try dsimp only at hSw); go_simp; try with_reducible rfl)
    (try simp only [Act.put, List.setIfInBounds_toArray, List.set_cons_zero, List.set_cons_succ, List.getElem_toArray, List.getElem_cons_zero, List.getElem_cons_succ])
    refine wpAnyH_done (by kernel_rfl) ?_ _
    (generalize hBB : W1.heap.size = B; exact ⟨B, rfl, bc⟩)
  case k =>
    clear z0 b0' s1 s2 s3 s4 s5 r1
    rintro B wx hbel
    have WX := Lib.hid (show Below w.heap.size w wx from B2.out.trans (Below.mono hbel B2.out.size))
    have BXW := Lib.hid ((Below.block hbel _ (Array.getElem?_eq_some_iff.1 BX1.out).1).trans BX1.out)
    have BF := Lib.hid (fun wr (h : Below wx.heap.size wx wr) => (h.block _ (Array.getElem?_eq_some_iff.1 BXW.out).1).trans BXW.out)
    have bw2 := below_two wx (.cells #[] 4) (.cells #[] 5)
    have bq := heap_alloc_new (wx.alloc (.cells #[] 4)) (.cells #[] 5)
    rw [size_alloc1] at bq
    have bp := (alloc_old (wx.alloc (.cells #[] 4)) (.cells #[] 5) wx.heap.size (by rw [size_alloc1]; omega)).trans (heap_alloc_new wx (.cells #[] 4))
    have SI : EnI wx base ins 0 (.slice (some ⟨wx.heap.size, 0, none⟩) 0 0) (.slice (some ⟨wx.heap.size + 1, 0, none⟩) 0 0) ((wx.alloc (.cells #[] 4)).alloc (.cells #[] 5)) :=
      ⟨wx.heap.size, 0, 0, wx.heap.size + 1, 0, 0, rfl, by simp [insL], ⟨by simpa [turnsL] using rowAt_empty bp, by simpa [insL, byteVals] using rowAt_empty bq⟩, by omega, ⟨Nat.le_refl _, by omega⟩, bw2⟩
    have hb2 := BF.out _ bw2
    obtain ⟨⟨p0, -⟩, ⟨p1, -⟩, ⟨p2, -⟩, ⟨p3, -⟩, ⟨p4, -⟩, ⟨p5, -⟩, ⟨p6, -⟩⟩ := cells7 hb2
    clear hbel bq bp bw2 hb2
    rw [strB_append, strB_append, strB_append, strB_append, LH.out]
    generalize strB ([80, 3] ++ g1 ++ g2 ++ [xb]) = Sc
    generalize strB ([80, 3] ++ g1 ++ g2) = Sb
    generalize strB ([80, 3] ++ g1) = Sa
    go_wp2_with fail
    clear p0 p1 p2 p3 p4 p5 p6
    go_loopw [4, 5, 6, 7] (fun fv bv lv kv wr => ∃ k : Nat, k ≤ len ∧ kv = .int .i64 k ∧ lv = .int .i64 (lastL base ins k) ∧ EnI wx base ins k fv bv wr) (fun _ _ _ kv _ => len - (intOf kv).toNat)
    case atStart => exact ⟨0, Nat.zero_le _, rfl, by simp [lastL], SI⟩
    case round =>
      clear SI
      obtain ⟨k, hk, rfl, rfl, gf, of_, cf, gb, ob, cb, rfl, rfl, ⟨rf, rb⟩, nd, ⟨nf, nb⟩, hB⟩ := hrel
      have hbx := BF.out _ hB
      obtain ⟨⟨p0, -⟩, ⟨p1, -⟩, ⟨p2, -⟩, ⟨p3, -⟩, ⟨p4, -⟩, ⟨p5, -⟩, ⟨p6, -⟩⟩ := cells7 hbx
      have WR := Lib.hid hB
      by_cases hlt : k < len
      · obtain ⟨x, hx⟩ : ∃ x, ins[k]? = some x := ⟨ins[k]'(by rw [LN.out]; exact hlt), by simp [show k < ins.length by rw [LN.out]; exact hlt]⟩
        obtain ⟨Xb, Xo, hX, hcW⟩ := CC.out k (.int .i64 x) (by simp [iv, hx])
        have CXX : Hid (∀ wr, Below wx.heap.size wx wr → wr.cell? ⟨Xb, Xo + k, none⟩ = some (.int .i64 x)) := Lib.hid (fun wr h => by
          have hl := World.block_lt_of_cell? w _ hcW
          have h2 := (WX.out.cell (p := ⟨Xb, Xo + k, none⟩) hl).trans hcW
          exact (h.cell (World.block_lt_of_cell? wx _ h2)).trans h2)
        have hcx := CXX.out _ hB
        subst hX
        have hxr := HXX.out x (List.mem_of_getElem? hx)
        obtain ⟨xx, hxx⟩ : ∃ xx : UInt8, x = (xx.toNat : Int) := ⟨UInt8.ofNat x.toNat, by rw [UInt8.toNat_ofNat']; omega⟩
        have i0 : (0 : Int) ≤ (k : Int) := by omega
        have i1 : (k : Int) < (len : Int) := by omega
        have hts : ins.take (k + 1) = ins.take k ++ [x] := by
          obtain ⟨hkl, he⟩ := List.getElem?_eq_some_iff.1 hx
          rw [List.take_succ_eq_append_getElem hkl, he]
        have LT : Hid ((turnsL base (ins.take (k + 1)) = turnsL base (ins.take k) ++ [x != lastL base ins k] ∧ insL base (ins.take (k + 1)) = insL base (ins.take k) ++ (if x != lastL base ins k then [xx] else [])) ∧ lastL base ins (k + 1) = x) := Lib.hid (by
          have hx8 : UInt8.ofNat x.toNat = xx := by rw [hxx]; simp
          refine ⟨⟨by rw [hts, turnsL_snoc]; rfl, ?_⟩, by unfold lastL; rw [hts, lastL_snoc]⟩
          rw [hts, insL_snoc, hx8]
          rfl)
        have MB : (insL base (ins.take k)).length ≤ 32 := by
          have := insL_len (ins.take k) base
          rw [List.length_take] at this
          omega
        obtain ⟨bs, hbs⟩ : ∃ bs, insL base (ins.take k) = bs := ⟨_, rfl⟩
        obtain ⟨fs, hfs⟩ : ∃ fs, turnsL base (ins.take k) = fs := ⟨_, rfl⟩
        obtain ⟨lv, hlv⟩ : ∃ lv, lastL base ins k = lv := ⟨_, rfl⟩
        rw [hbs, hfs, hlv] at LT
        rw [hbs] at rb MB ⊢
        rw [hfs] at rf
        rw [hlv]
        obtain ⟨mb, hmb⟩ : ∃ mb, bs.length = mb := ⟨_, rfl⟩
        have HMB := Lib.hid hmb
        rw [hmb] at rb MB ⊢
        have RF : Hid (∀ c, RowN (wr.alloc c) 4 1 [gf] (.slice (some ⟨gf, of_, none⟩) k cf) k (fs.map Value.bool)) := Lib.hid (fun c => .inr ⟨gf, of_, cf, rfl, by simp, rf.kept (Kept.alloc wr c) (by simp)⟩)
        have TR := Lib.hid (fun (obj : Obj) (w9 : World) (g1 o1 c1 n1 : Nat) (xs1 : List Value) (hr : RowAt w9 4 1 g1 o1 c1 n1 xs1) (hk : Kept [gf] (wr.alloc obj) w9) (hg : g1 ∈ [gf] ∨ g1 = (wr.alloc obj).heap.size) => two_rows rf rb nd ⟨nf, nb⟩ hB hr hk hg)
        have GB := Lib.hid nb
        have XXH := Lib.hid hxx
        have eux : IntKind.u8.wrap x = x := by
          have e : ∀ x, IntKind.u8.wrap x = x % 256 := fun x => by simp [IntKind.wrap, IntKind.signed, IntKind.bits]
          rw [e]; omega
        obtain ⟨hx0, hx1⟩ := hxr
        clear hts hx hbs hfs hlv hmb rf rb nd nf nb hB hbx hxx hcW
        cases ht : (x != lv) with
        | true =>
          have L2 : Hid (insL base (ins.take (k + 1)) = bs ++ [xx]) := Lib.hid (LT.out.1.2.trans (by rw [ht]; rfl))
          rw [ht] at LT
          go_wp2_with (first
            | (at_builtin; refine wpList_append_rown rfl _ _ 28 28 rfl 4 (.bool false) 1 1 Tryd.underlying28 info4 rfl k _ rfl (RF.out _) _ rfl 1 [_] (src_of_one wr _ rfl _ _ _ _ Tryd.underlying28 rfl) (by decide) (by simp [maxLen]; omega) (by omega) ?_; intro gf1 of1 cf1 w9 hr1 hk1 hg1; obtain ⟨rb9, nd9, nf9, bl9⟩ := TR.out _ _ _ _ _ _ _ hr1 hk1 hg1; have hb9 := BF.out _ bl9; clear p0 p1 p2 p3 p4 p5 p6; obtain ⟨⟨u0, -⟩, ⟨u1, -⟩, ⟨u2, -⟩, ⟨u3, -⟩, ⟨u4, -⟩, ⟨u5, -⟩, ⟨u6, -⟩⟩ := cells7 hb9; have hcx9 := CXX.out _ bl9; have RB9 : Hid (∀ c, RowN (w9.alloc c) 5 1 [gb] (.slice (some ⟨gb, ob, none⟩) mb cb) mb (byteVals bs)) := Lib.hid (fun c => .inr ⟨gb, ob, cb, rfl, by simp, rb9.kept (Kept.alloc w9 c) (by simp)⟩))
            | (at_builtin; refine wpList_append_rown rfl _ _ 67 67 rfl 5 (.int .u8 0) 1 1 Tryd.underlying67 info5 rfl mb _ rfl (RB9.out _) _ rfl 1 [_] (src_of_one w9 _ rfl _ _ _ _ Tryd.underlying67 rfl) (by decide) (by simp [maxLen]; omega) (by omega) ?_; intro gb1 ob1 cb1 w11 hr2 hk2 hg2; obtain ⟨rf11, nd11, nb11, bl11⟩ := two_rows rb9 hr1 (Ne.symm nd9) ⟨GB.out, nf9⟩ bl9 hr2 hk2 hg2; have hb11 := BF.out _ bl11; clear u0 u1 u2 u3 u4 u5 u6; obtain ⟨⟨v0, -⟩, ⟨v1, -⟩, ⟨v2, -⟩, ⟨v3, -⟩, ⟨v4, -⟩, ⟨v5, -⟩, ⟨v6, -⟩⟩ := cells7 hb11; have hcx11 := CXX.out _ bl11)
            | fail)
          exact ⟨⟨k + 1, by omega, by go_num, by rw [LT.out.2], gf1, of1, cf1, gb1, ob1, cb1, rfl, by rw [L2.out, List.length_append, HMB.out]; rfl, ⟨by rw [LT.out.1.1]; simpa using rf11, by rw [L2.out, byteVals_snoc, List.length_append, HMB.out, ← XXH.out]; exact hr2⟩, Ne.symm nd11, ⟨nf9, nb11⟩, bl11⟩, by simp [intOf]; omega⟩
        | false =>
          have L2 : Hid (insL base (ins.take (k + 1)) = bs) := Lib.hid (LT.out.1.2.trans (by rw [ht]; simp))
          rw [ht] at LT
          go_wp2_with (first
            | (at_builtin; refine wpList_append_rown rfl _ _ 28 28 rfl 4 (.bool false) 1 1 Tryd.underlying28 info4 rfl k _ rfl (RF.out _) _ rfl 1 [_] (src_of_one wr _ rfl _ _ _ _ Tryd.underlying28 rfl) (by decide) (by simp [maxLen]; omega) (by omega) ?_; intro gf1 of1 cf1 w9 hr1 hk1 hg1; obtain ⟨rb9, nd9, nf9, bl9⟩ := TR.out _ _ _ _ _ _ _ hr1 hk1 hg1; have hb9 := BF.out _ bl9; clear p0 p1 p2 p3 p4 p5 p6; obtain ⟨⟨u0, -⟩, ⟨u1, -⟩, ⟨u2, -⟩, ⟨u3, -⟩, ⟨u4, -⟩, ⟨u5, -⟩, ⟨u6, -⟩⟩ := cells7 hb9; have hcx9 := CXX.out _ bl9; have RB9 : Hid (∀ c, RowN (w9.alloc c) 5 1 [gb] (.slice (some ⟨gb, ob, none⟩) mb cb) mb (byteVals bs)) := Lib.hid (fun c => .inr ⟨gb, ob, cb, rfl, by simp, rb9.kept (Kept.alloc w9 c) (by simp)⟩))
            | fail)
          exact ⟨⟨k + 1, by omega, by go_num, by rw [LT.out.2], gf1, of1, cf1, gb, ob, cb, rfl, by rw [L2.out, HMB.out], ⟨by rw [LT.out.1.1]; simpa using hr1, by rw [L2.out, HMB.out]; exact rb9⟩, nd9, ⟨nf9, GB.out⟩, bl9⟩, by simp [intOf]; omega⟩
      · obtain rfl : k = len := by omega
        have htk : ins.take k = ins := List.take_of_length_le (by rw [LN.out]; exact Nat.le_refl _)
        rw [htk] at rf rb ⊢
        have C5 : ∀ wy, Below wr.heap.size wr wy → RowAt wy 5 1 gb ob cb (insL base ins).length (byteVals (insL base ins)) := fun wy h => rb.of_block (h.block gb rb.lt)
        have MB := BIG.out.2
        have FB := BIG.out.1
        obtain ⟨bs, hbs⟩ : ∃ bs, insL base ins = bs := ⟨_, rfl⟩
        obtain ⟨fs, hfs⟩ : ∃ fs, flagsL (turnsL base ins) = fs := ⟨_, rfl⟩
        rw [hbs] at C5 MB EQ ⊢
        rw [hfs] at FB FLG EQ
        obtain ⟨mb, hmb⟩ : ∃ mb, bs.length = mb := ⟨_, rfl⟩
        rw [hmb] at C5 MB ⊢
        have bd : Below wr.heap.size wr wr.drew := ⟨rfl, rfl, rfl, Nat.le_refl _, fun _ _ => rfl⟩
        have cv0 := rowB_conv (C5 _ bd) hmb cb
        have FL := Lib.hid (FLG.out _ cf wr.drew (rf.cells.below bd))
        have C5H := Lib.hid (And.intro C5 hmb)
        have s6 : ¬ 9223372036854775807 < (strB L7).size + (strB fs).size := by rw [strB_size, strB_size]; omega
        have s7 : ¬ 9223372036854775807 < (strB L7).size + (strB fs).size + (strB bs).size := by rw [strB_size, strB_size, strB_size]; omega
        obtain ⟨D, hD⟩ : ∃ D, L7 ++ fs ++ bs = D := ⟨_, rfl⟩
        have DL : D.length ≤ 1000 := by rw [← hD]; simp; omega
        have SE := Lib.hid (fun w' => sealed_any (strB D) w' (by rw [strB_size]; omega))
        have EQD := Lib.hid (EQ.out D hD.symm)
        have HDD := Lib.hid hD
        clear hD DL
        have WR2 := Lib.hid hB
        have BD := Lib.hid bd
        clear htk rf rb C5 MB FB hbs hfs hmb bd nd nf nb hB hbx
        go_wp2_with fail
        refine wp_region_held_drew (S := (fun _ => True)) (by kernel_rfl) trivial (fun hHeld => ?_)
        refine wpAnyH_take (i := 0) (v := ?_) rfl (by kernel_rfl) (by kernel_rfl) (by kernel_rfl) (fun _ _ _ h => h) (Or.inl ⟨by rfl, ?_⟩) (by assumption) ?_
        rotate_left; · (intro w hSw; (try dsimp only at hSw); go_simp; try with_reducible rfl)
        (try simp only [Act.put, List.setIfInBounds_toArray, List.set_cons_zero, List.set_cons_succ, List.getElem_toArray, List.getElem_cons_zero, List.getElem_cons_succ])
        refine wpAnyH_take (i := 1) (v := ?_) rfl (by kernel_rfl) (by kernel_rfl) (by kernel_rfl) (fun _ _ _ h => h) (Or.inl ⟨by rfl, ?_⟩) (by assumption) ?_
        rotate_left; · (intro w hSw; (try dsimp only at hSw); go_simp; try with_reducible rfl)
        (try simp only [Act.put, List.setIfInBounds_toArray, List.set_cons_zero, List.set_cons_succ, List.getElem_toArray, List.getElem_cons_zero, List.getElem_cons_succ])
        refine wpAnyH_take (i := 4) (v := ?_) rfl (by kernel_rfl) (by kernel_rfl) (by kernel_rfl) (fun _ _ _ h => h) (Or.inl ⟨by rfl, ?_⟩) (by assumption) ?_
        rotate_left; · (intro w hSw; (try dsimp only at hSw); go_simp; try with_reducible rfl)
        (try simp only [Act.put, List.setIfInBounds_toArray, List.set_cons_zero, List.set_cons_succ, List.getElem_toArray, List.getElem_cons_zero, List.getElem_cons_succ])
        refine wpAnyH_ready (rs := [2, 5]) (by kernel_rfl) (by simp) ?_
        refine AllReadyH.cons rfl (fun K hK => ?_) ?_
        · (try simp only [List.getElem_toArray, List.getElem_cons_zero, List.getElem_cons_succ])
          go_simp
          (refine FL.out.mono ?_; rintro e wf ⟨rfl, hbf⟩)
          have BFF := BD.out.trans (hbf.mono BD.out.size)
          refine hK.out _ _ trivial (fun hHeld2 => ?_)
          clear hK K hHeld
          have hHeld := hHeld2
          clear hHeld2
          (try simp only [Act.put, List.setIfInBounds_toArray, List.set_cons_zero, List.set_cons_succ, List.getElem_toArray, List.getElem_cons_zero, List.getElem_cons_succ])
          refine wpAnyH_take (i := 3) (v := ?_) rfl (by kernel_rfl) (by kernel_rfl) (by kernel_rfl) (fun _ _ _ h => h) (Or.inl ⟨by rfl, ?_⟩) (by assumption) ?_
          rotate_left; · (intro w hSw; (try dsimp only at hSw); go_simp; try with_reducible rfl)
          (try simp only [Act.put, List.setIfInBounds_toArray, List.set_cons_zero, List.set_cons_succ, List.getElem_toArray, List.getElem_cons_zero, List.getElem_cons_succ])
          refine wpAnyH_ready (rs := [5]) (by kernel_rfl) (by simp) ?_
          refine AllReadyH.cons rfl (fun K hK => ?_) AllReadyH.nil
          (try simp only [List.getElem_toArray, List.getElem_cons_zero, List.getElem_cons_succ])
          have cv1 := rowB_conv (C5H.out.1 _ BFF) C5H.out.2 cb
          go_simp
          clear cv1
          refine hK.out _ _ trivial (fun hHeld2 => ?_)
          clear hK K hHeld
          have hHeld := hHeld2
          clear hHeld2
          (try simp only [Act.put, List.setIfInBounds_toArray, List.set_cons_zero, List.set_cons_succ, List.getElem_toArray, List.getElem_cons_zero, List.getElem_cons_succ])
          refine wpAnyH_take (i := 6) (v := ?_) rfl (by kernel_rfl) (by kernel_rfl) (by kernel_rfl) (fun _ _ _ h => h) (Or.inl ⟨by rfl, ?_⟩) (by assumption) ?_
          rotate_left; · (intro w hSw; (try dsimp only at hSw); go_simp; try with_reducible rfl)
          (try simp only [Act.put, List.setIfInBounds_toArray, List.set_cons_zero, List.set_cons_succ, List.getElem_toArray, List.getElem_cons_zero, List.getElem_cons_succ])
          refine wpAnyH_take (i := 7) (v := ?_) rfl (by kernel_rfl) (by kernel_rfl) (by kernel_rfl) (fun _ _ _ h => h) (Or.inl ⟨by rfl, ?_⟩) (by assumption) ?_
          rotate_left; · (intro w hSw; (try dsimp only at hSw); go_simp; try with_reducible rfl)
          (try simp only [Act.put, List.setIfInBounds_toArray, List.set_cons_zero, List.set_cons_succ, List.getElem_toArray, List.getElem_cons_zero, List.getElem_cons_succ])
          refine wpAnyH_done (by kernel_rfl) ?_ _
          have B9 := Lib.hid (WX.out.trans ((WR2.out.trans (BFF.mono WR2.out.size)).mono WX.out.size))
          clear cv0 s6 s7 hbf BFF
          rw [strB_append, strB_append, HDD.out]
          go_wp2_with fail
          refine (SE.out _).mono ?_
          rintro e wz ⟨rfl, hbz⟩
          have BZ := Lib.hid (B9.out.trans (hbz.mono B9.out.size))
          clear hbz
          go_wp2_with fail
          go_ret
          exact ⟨by rw [← EQD.out, ← seal_eq]; rfl, BZ.out⟩
        · refine AllReadyH.cons rfl (fun K hK => ?_) AllReadyH.nil
          (try simp only [List.getElem_toArray, List.getElem_cons_zero, List.getElem_cons_succ])
          go_simp
          refine hK.out _ _ trivial (fun hHeld2 => ?_)
          clear hK K hHeld
          have hHeld := hHeld2
          clear hHeld2
          (try simp only [Act.put, List.setIfInBounds_toArray, List.set_cons_zero, List.set_cons_succ, List.getElem_toArray, List.getElem_cons_zero, List.getElem_cons_succ])
          refine wpAnyH_ready (rs := [2]) (by kernel_rfl) (by simp) ?_
          refine AllReadyH.cons rfl (fun K hK => ?_) AllReadyH.nil
          (try simp only [List.getElem_toArray, List.getElem_cons_zero, List.getElem_cons_succ])
          go_simp
          (refine FL.out.mono ?_; rintro e wf ⟨rfl, hbf⟩)
          have BFF := BD.out.trans (hbf.mono BD.out.size)
          refine hK.out _ _ trivial (fun hHeld2 => ?_)
          clear hK K hHeld
          have hHeld := hHeld2
          clear hHeld2
          (try simp only [Act.put, List.setIfInBounds_toArray, List.set_cons_zero, List.set_cons_succ, List.getElem_toArray, List.getElem_cons_zero, List.getElem_cons_succ])
          refine wpAnyH_take (i := 3) (v := ?_) rfl (by kernel_rfl) (by kernel_rfl) (by kernel_rfl) (fun _ _ _ h => h) (Or.inl ⟨by rfl, ?_⟩) (by assumption) ?_
          rotate_left; · (intro w hSw; (try dsimp only at hSw); go_simp; try with_reducible rfl)
          (try simp only [Act.put, List.setIfInBounds_toArray, List.set_cons_zero, List.set_cons_succ, List.getElem_toArray, List.getElem_cons_zero, List.getElem_cons_succ])
          refine wpAnyH_take (i := 6) (v := ?_) rfl (by kernel_rfl) (by kernel_rfl) (by kernel_rfl) (fun _ _ _ h => h) (Or.inl ⟨by rfl, ?_⟩) (by assumption) ?_
          rotate_left; · (intro w hSw; (try dsimp only at hSw); go_simp; try with_reducible rfl)
          (try simp only [Act.put, List.setIfInBounds_toArray, List.set_cons_zero, List.set_cons_succ, List.getElem_toArray, List.getElem_cons_zero, List.getElem_cons_succ])
          refine wpAnyH_take (i := 7) (v := ?_) rfl (by kernel_rfl) (by kernel_rfl) (by kernel_rfl) (fun _ _ _ h => h) (Or.inl ⟨by rfl, ?_⟩) (by assumption) ?_
          rotate_left; · (intro w hSw; (try dsimp only at hSw); go_simp; try with_reducible rfl)
          (try simp only [Act.put, List.setIfInBounds_toArray, List.set_cons_zero, List.set_cons_succ, List.getElem_toArray, List.getElem_cons_zero, List.getElem_cons_succ])
          refine wpAnyH_done (by kernel_rfl) ?_ _
          have B9 := Lib.hid (WX.out.trans ((WR2.out.trans (BFF.mono WR2.out.size)).mono WX.out.size))
          clear cv0 s6 s7 hbf BFF
          rw [strB_append, strB_append, HDD.out]
          go_wp2_with fail
          refine (SE.out _).mono ?_
          rintro e wz ⟨rfl, hbz⟩
          have BZ := Lib.hid (B9.out.trans (hbz.mono B9.out.size))
          clear hbz
          go_wp2_with fail
          go_ret
          exact ⟨by rw [← EQD.out, ← seal_eq]; rfl, BZ.out⟩

/-- The reference's Encode. -/
theorem renc_any (p : Par) (w : World) (hc : Cells w p.X (iv p.ins)) (hg : p.good = true) : Calls Tryd.prog 47 #[p.v] w fun e w' => e = .returned (.string (strB (encP p))) ∧ Below w.heap.size w w' := by
  have hf := good_fields hg
  obtain ⟨kind, nonce, frm, base, ins, ack, sum, X, c⟩ := p
  dsimp only at hc hf
  rcases hf with ⟨k | k, ⟨a, b⟩, _⟩ | ⟨k, hi, ⟨a, b⟩, _⟩ | ⟨k, ⟨a, b⟩, _⟩ | ⟨k, ⟨a, b⟩, _⟩ | ⟨k, ⟨a, b⟩, _⟩
  · subst k; exact renc1 nonce frm base ins ack sum X c w ⟨a, b⟩
  · subst k; exact renc2 nonce frm base ins ack sum X c w ⟨a, b⟩
  · subst k
    obtain ⟨hl, hb, hf, hx⟩ := isIn_of hi
    exact renc3 nonce frm base ins ack sum X c w hc hf ⟨a, b⟩ hb hl hx
  · subst k; exact renc4 nonce frm base ins ack sum X c w ⟨a, by omega⟩
  · subst k; exact renc5 nonce frm base ins ack sum X c w ⟨a, by omega⟩
  · subst k; exact renc6 nonce frm base ins ack sum X c w ⟨a, by omega⟩
end

end Go.Proofs.YtgdbpicelnoacaaDoor
