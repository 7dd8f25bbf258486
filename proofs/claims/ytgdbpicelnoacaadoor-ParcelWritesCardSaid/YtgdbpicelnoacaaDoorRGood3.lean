/- This text proves what the reference says of whether a packet of inputs can be, and of all kinds, over the loaded program. -/
import Derived.Test.YtgdbpicelnoacaaDoorRef24a
import Derived.Test.YtgdbpicelnoacaaDoorRefSame
import Derived.Test.YtgdbpicelnoacaaDoorDecPlain
namespace Go.Proofs.YtgdbpicelnoacaaDoor
section
open Go.RowKit Go.WideShapes
set_option linter.unusedSimpArgs false

theorem within_false {n low high : Int} (h : ¬ (low ≤ n ∧ n ≤ high)) : within n low high = false := by
  cases hw : within n low high with
  | false => rfl
  | true => exact absurd (within_iff.1 hw) h
def inR (x : Int) : Bool := within x 0 255
theorem noIn_all (l : List Int) : (!noIn l) = l.all inR := by
  unfold noIn inR
  induction l with
  | nil => rfl
  | cons x r ih =>
    simp only [List.any_cons, List.all_cons, Bool.not_or, Bool.not_not, ih]
/-- Good, of inputs, in the reference's order. -/
theorem good3 (p : Par) (hk : p.kind = 3) : p.good = ((within p.frm 1 1073741824 && (within p.ack 0 1073741824 && (within p.base 0 255 && (within (p.ins.length : Int) 1 32 && p.ins.all inR)))) && p.same ⟨3, 0, p.frm, p.base, p.ins, p.ack, 0, p.X, p.c⟩) := by
  unfold Par.good Par.own
  rw [if_neg (by omega), if_neg (by omega), if_neg (by omega), if_pos hk]
  have e : p.isIn = (within (p.ins.length : Int) 1 32 && within p.base 0 255 && within p.frm 1 1073741824 && p.ins.all inR) := by
    unfold Par.isIn
    rw [← noIn_all]
  rw [e]
  have es : p.same ⟨p.kind, 0, p.frm, p.base, p.ins, p.ack, 0, p.X, p.c⟩ = p.same ⟨3, 0, p.frm, p.base, p.ins, p.ack, 0, p.X, p.c⟩ := by rw [hk]
  cases h1 : within (p.ins.length : Int) 1 32 <;> cases h2 : within p.base 0 255 <;> cases h3 : within p.frm 1 1073741824 <;> cases h4 : p.ins.all inR <;> simp [Par.bare, es]
theorem good_none (p : Par) (hk : ¬ (1 ≤ p.kind ∧ p.kind ≤ 6)) : p.good = false := by
  cases h : p.good with
  | false => rfl
  | true => exact absurd (good_kind h) hk

set_option maxRecDepth 100000 in
set_option maxHeartbeats 6400000 in
theorem rgood1 (nonce frm base : Int) (ins : List Int) (ack sum : Int) (X : Option Addr) (c : Nat) (w : World) (hc : Cells w X (iv ins)) (hl : ins.length ≤ 1000000) : Calls Tryd.prog 43 #[.agg #[.int .i64 1, .int .i64 nonce, .int .i64 frm, .int .i64 base, .slice X ins.length c, .int .i64 ack, .int .u64 sum]] w fun e w' => e = .returned (.bool (Par.good ⟨1, nonce, frm, base, ins, ack, sum, X, c⟩)) ∧ Below w.heap.size w w' := by
  have bt := below_two w (.cells #[.int .i64 1, .int .i64 nonce, .int .i64 frm, .int .i64 base, .slice X ins.length c, .int .i64 ack, .int .u64 sum] 61) (.cells #[.int .i64 1, .int .i64 nonce, .int .i64 0, .int .i64 0, .slice none 0 0, .int .i64 0, .int .u64 0] 61)
  have BT := Lib.hid bt
  have RS := Lib.hid (rsame_any ⟨1, nonce, frm, base, ins, ack, sum, X, c⟩ ⟨1, nonce, 0, 0, [], 0, 0, none, 0⟩ _ (hc.below bt) (Cells.nil _ _) hl)
  unfold Par.v at RS
  dsimp only at RS
  by_cases h1 : 0 ≤ nonce
  · by_cases h2 : nonce ≤ 4294967295
    · have G : Hid (Par.good ⟨1, nonce, frm, base, ins, ack, sum, X, c⟩ = Par.same ⟨1, nonce, frm, base, ins, ack, sum, X, c⟩ ⟨1, nonce, 0, 0, [], 0, 0, none, 0⟩) := Lib.hid (by
        unfold Par.good Par.own
        simp [within_iff.2 (And.intro h1 h2)])
      clear bt hc hl
      go_enter Tryd.func43, Tryd.ntmps43
      go_wp2_with fail
      refine RS.out.mono ?_
      rintro e w9 ⟨rfl, hb9⟩
      have B9 := Lib.hid (BT.out.trans (hb9.mono BT.out.size))
      clear hb9
      go_wp2_with fail
      go_ret
      exact ⟨by rw [G.out]; rfl, B9.out⟩
    · have G : Hid (Par.good ⟨1, nonce, frm, base, ins, ack, sum, X, c⟩ = false) := Lib.hid (by
        unfold Par.good Par.own
        simp [within_false (fun h : 0 ≤ nonce ∧ nonce ≤ 4294967295 => h2 h.2)])
      have q : decide (nonce ≤ 4294967295) = false := by simpa using h2
      clear bt hc hl h2 RS
      go_enter Tryd.func43, Tryd.ntmps43
      go_wp2_with fail
      go_ret
      exact ⟨by rw [G.out]; rfl, BT.out⟩
  · have G : Hid (Par.good ⟨1, nonce, frm, base, ins, ack, sum, X, c⟩ = false) := Lib.hid (by
      unfold Par.good Par.own
      simp [within_false (fun h : 0 ≤ nonce ∧ nonce ≤ 4294967295 => h1 h.1)])
    have q : decide (0 ≤ nonce) = false := by simpa using h1
    clear bt hc hl h1 RS
    go_enter Tryd.func43, Tryd.ntmps43
    go_wp2_with fail
    go_ret
    exact ⟨by rw [G.out]; rfl, BT.out⟩

set_option maxRecDepth 100000 in
set_option maxHeartbeats 6400000 in
theorem rgood2 (nonce frm base : Int) (ins : List Int) (ack sum : Int) (X : Option Addr) (c : Nat) (w : World) (hc : Cells w X (iv ins)) (hl : ins.length ≤ 1000000) : Calls Tryd.prog 43 #[.agg #[.int .i64 2, .int .i64 nonce, .int .i64 frm, .int .i64 base, .slice X ins.length c, .int .i64 ack, .int .u64 sum]] w fun e w' => e = .returned (.bool (Par.good ⟨2, nonce, frm, base, ins, ack, sum, X, c⟩)) ∧ Below w.heap.size w w' := by
  have bt := below_two w (.cells #[.int .i64 2, .int .i64 nonce, .int .i64 frm, .int .i64 base, .slice X ins.length c, .int .i64 ack, .int .u64 sum] 61) (.cells #[.int .i64 2, .int .i64 nonce, .int .i64 0, .int .i64 0, .slice none 0 0, .int .i64 0, .int .u64 0] 61)
  have BT := Lib.hid bt
  have RS := Lib.hid (rsame_any ⟨2, nonce, frm, base, ins, ack, sum, X, c⟩ ⟨2, nonce, 0, 0, [], 0, 0, none, 0⟩ _ (hc.below bt) (Cells.nil _ _) hl)
  unfold Par.v at RS
  dsimp only at RS
  by_cases h1 : 0 ≤ nonce
  · by_cases h2 : nonce ≤ 4294967295
    · have G : Hid (Par.good ⟨2, nonce, frm, base, ins, ack, sum, X, c⟩ = Par.same ⟨2, nonce, frm, base, ins, ack, sum, X, c⟩ ⟨2, nonce, 0, 0, [], 0, 0, none, 0⟩) := Lib.hid (by
        unfold Par.good Par.own
        simp [within_iff.2 (And.intro h1 h2)])
      clear bt hc hl
      go_enter Tryd.func43, Tryd.ntmps43
      go_wp2_with fail
      refine RS.out.mono ?_
      rintro e w9 ⟨rfl, hb9⟩
      have B9 := Lib.hid (BT.out.trans (hb9.mono BT.out.size))
      clear hb9
      go_wp2_with fail
      go_ret
      exact ⟨by rw [G.out]; rfl, B9.out⟩
    · have G : Hid (Par.good ⟨2, nonce, frm, base, ins, ack, sum, X, c⟩ = false) := Lib.hid (by
        unfold Par.good Par.own
        simp [within_false (fun h : 0 ≤ nonce ∧ nonce ≤ 4294967295 => h2 h.2)])
      have q : decide (nonce ≤ 4294967295) = false := by simpa using h2
      clear bt hc hl h2 RS
      go_enter Tryd.func43, Tryd.ntmps43
      go_wp2_with fail
      go_ret
      exact ⟨by rw [G.out]; rfl, BT.out⟩
  · have G : Hid (Par.good ⟨2, nonce, frm, base, ins, ack, sum, X, c⟩ = false) := Lib.hid (by
      unfold Par.good Par.own
      simp [within_false (fun h : 0 ≤ nonce ∧ nonce ≤ 4294967295 => h1 h.1)])
    have q : decide (0 ≤ nonce) = false := by simpa using h1
    clear bt hc hl h1 RS
    go_enter Tryd.func43, Tryd.ntmps43
    go_wp2_with fail
    go_ret
    exact ⟨by rw [G.out]; rfl, BT.out⟩

set_option maxRecDepth 100000 in
set_option maxHeartbeats 6400000 in
theorem rgood4 (nonce frm base : Int) (ins : List Int) (ack sum : Int) (X : Option Addr) (c : Nat) (w : World) (hc : Cells w X (iv ins)) (hl : ins.length ≤ 1000000) : Calls Tryd.prog 43 #[.agg #[.int .i64 4, .int .i64 nonce, .int .i64 frm, .int .i64 base, .slice X ins.length c, .int .i64 ack, .int .u64 sum]] w fun e w' => e = .returned (.bool (Par.good ⟨4, nonce, frm, base, ins, ack, sum, X, c⟩)) ∧ Below w.heap.size w w' := by
  have bt := below_two w (.cells #[.int .i64 4, .int .i64 nonce, .int .i64 frm, .int .i64 base, .slice X ins.length c, .int .i64 ack, .int .u64 sum] 61) (.cells #[.int .i64 4, .int .i64 0, .int .i64 frm, .int .i64 0, .slice none 0 0, .int .i64 0, .int .u64 sum] 61)
  have BT := Lib.hid bt
  have RS := Lib.hid (rsame_any ⟨4, nonce, frm, base, ins, ack, sum, X, c⟩ ⟨4, 0, frm, 0, [], 0, sum, none, 0⟩ _ (hc.below bt) (Cells.nil _ _) hl)
  unfold Par.v at RS
  dsimp only at RS
  have FR := Lib.hid (frame_any frm 0)
  cases hw : within frm 0 1073741824 with
  | true =>
    have G : Hid (Par.good ⟨4, nonce, frm, base, ins, ack, sum, X, c⟩ = Par.same ⟨4, nonce, frm, base, ins, ack, sum, X, c⟩ ⟨4, 0, frm, 0, [], 0, sum, none, 0⟩) := Lib.hid (by
      unfold Par.good Par.own
      simp [hw])
    rw [hw] at FR
    clear bt hc hl hw
    go_enter Tryd.func43, Tryd.ntmps43
    go_wp2_with fail
    refine (FR.out _).mono ?_
    rintro e w1 ⟨rfl, rfl⟩
    go_wp2_with fail
    refine RS.out.mono ?_
    rintro e w9 ⟨rfl, hb9⟩
    have B9 := Lib.hid (BT.out.trans (hb9.mono BT.out.size))
    clear hb9
    go_wp2_with fail
    go_ret
    exact ⟨by rw [G.out]; rfl, B9.out⟩
  | false =>
    have G : Hid (Par.good ⟨4, nonce, frm, base, ins, ack, sum, X, c⟩ = false) := Lib.hid (by
      unfold Par.good Par.own
      simp [hw])
    rw [hw] at FR
    clear bt hc hl hw RS
    go_enter Tryd.func43, Tryd.ntmps43
    go_wp2_with fail
    refine (FR.out _).mono ?_
    rintro e w1 ⟨rfl, rfl⟩
    go_wp2_with fail
    go_ret
    exact ⟨by rw [G.out]; rfl, BT.out⟩

set_option maxRecDepth 100000 in
set_option maxHeartbeats 6400000 in
theorem rgood5 (nonce frm base : Int) (ins : List Int) (ack sum : Int) (X : Option Addr) (c : Nat) (w : World) (hc : Cells w X (iv ins)) (hl : ins.length ≤ 1000000) : Calls Tryd.prog 43 #[.agg #[.int .i64 5, .int .i64 nonce, .int .i64 frm, .int .i64 base, .slice X ins.length c, .int .i64 ack, .int .u64 sum]] w fun e w' => e = .returned (.bool (Par.good ⟨5, nonce, frm, base, ins, ack, sum, X, c⟩)) ∧ Below w.heap.size w w' := by
  have bt := below_two w (.cells #[.int .i64 5, .int .i64 nonce, .int .i64 frm, .int .i64 base, .slice X ins.length c, .int .i64 ack, .int .u64 sum] 61) (.cells #[.int .i64 5, .int .i64 0, .int .i64 0, .int .i64 0, .slice none 0 0, .int .i64 ack, .int .u64 0] 61)
  have BT := Lib.hid bt
  have RS := Lib.hid (rsame_any ⟨5, nonce, frm, base, ins, ack, sum, X, c⟩ ⟨5, 0, 0, 0, [], ack, 0, none, 0⟩ _ (hc.below bt) (Cells.nil _ _) hl)
  unfold Par.v at RS
  dsimp only at RS
  have FR := Lib.hid (frame_any ack 0)
  cases hw : within ack 0 1073741824 with
  | true =>
    have G : Hid (Par.good ⟨5, nonce, frm, base, ins, ack, sum, X, c⟩ = Par.same ⟨5, nonce, frm, base, ins, ack, sum, X, c⟩ ⟨5, 0, 0, 0, [], ack, 0, none, 0⟩) := Lib.hid (by
      unfold Par.good Par.own
      simp [hw])
    rw [hw] at FR
    clear bt hc hl hw
    go_enter Tryd.func43, Tryd.ntmps43
    go_wp2_with fail
    refine (FR.out _).mono ?_
    rintro e w1 ⟨rfl, rfl⟩
    go_wp2_with fail
    refine RS.out.mono ?_
    rintro e w9 ⟨rfl, hb9⟩
    have B9 := Lib.hid (BT.out.trans (hb9.mono BT.out.size))
    clear hb9
    go_wp2_with fail
    go_ret
    exact ⟨by rw [G.out]; rfl, B9.out⟩
  | false =>
    have G : Hid (Par.good ⟨5, nonce, frm, base, ins, ack, sum, X, c⟩ = false) := Lib.hid (by
      unfold Par.good Par.own
      simp [hw])
    rw [hw] at FR
    clear bt hc hl hw RS
    go_enter Tryd.func43, Tryd.ntmps43
    go_wp2_with fail
    refine (FR.out _).mono ?_
    rintro e w1 ⟨rfl, rfl⟩
    go_wp2_with fail
    go_ret
    exact ⟨by rw [G.out]; rfl, BT.out⟩

set_option maxRecDepth 100000 in
set_option maxHeartbeats 6400000 in
theorem rgood6 (nonce frm base : Int) (ins : List Int) (ack sum : Int) (X : Option Addr) (c : Nat) (w : World) (hc : Cells w X (iv ins)) (hl : ins.length ≤ 1000000) : Calls Tryd.prog 43 #[.agg #[.int .i64 6, .int .i64 nonce, .int .i64 frm, .int .i64 base, .slice X ins.length c, .int .i64 ack, .int .u64 sum]] w fun e w' => e = .returned (.bool (Par.good ⟨6, nonce, frm, base, ins, ack, sum, X, c⟩)) ∧ Below w.heap.size w w' := by
  have bt := below_two w (.cells #[.int .i64 6, .int .i64 nonce, .int .i64 frm, .int .i64 base, .slice X ins.length c, .int .i64 ack, .int .u64 sum] 61) (.cells #[.int .i64 6, .int .i64 0, .int .i64 frm, .int .i64 0, .slice none 0 0, .int .i64 0, .int .u64 0] 61)
  have BT := Lib.hid bt
  have RS := Lib.hid (rsame_any ⟨6, nonce, frm, base, ins, ack, sum, X, c⟩ ⟨6, 0, frm, 0, [], 0, 0, none, 0⟩ _ (hc.below bt) (Cells.nil _ _) hl)
  unfold Par.v at RS
  dsimp only at RS
  have FR := Lib.hid (frame_any frm 0)
  cases hw : within frm 0 1073741824 with
  | true =>
    have G : Hid (Par.good ⟨6, nonce, frm, base, ins, ack, sum, X, c⟩ = Par.same ⟨6, nonce, frm, base, ins, ack, sum, X, c⟩ ⟨6, 0, frm, 0, [], 0, 0, none, 0⟩) := Lib.hid (by
      unfold Par.good Par.own
      simp [hw])
    rw [hw] at FR
    clear bt hc hl hw
    go_enter Tryd.func43, Tryd.ntmps43
    go_wp2_with fail
    refine (FR.out _).mono ?_
    rintro e w1 ⟨rfl, rfl⟩
    go_wp2_with fail
    refine RS.out.mono ?_
    rintro e w9 ⟨rfl, hb9⟩
    have B9 := Lib.hid (BT.out.trans (hb9.mono BT.out.size))
    clear hb9
    go_wp2_with fail
    go_ret
    exact ⟨by rw [G.out]; rfl, B9.out⟩
  | false =>
    have G : Hid (Par.good ⟨6, nonce, frm, base, ins, ack, sum, X, c⟩ = false) := Lib.hid (by
      unfold Par.good Par.own
      simp [hw])
    rw [hw] at FR
    clear bt hc hl hw RS
    go_enter Tryd.func43, Tryd.ntmps43
    go_wp2_with fail
    refine (FR.out _).mono ?_
    rintro e w1 ⟨rfl, rfl⟩
    go_wp2_with fail
    go_ret
    exact ⟨by rw [G.out]; rfl, BT.out⟩

set_option maxRecDepth 100000 in
set_option maxHeartbeats 6400000 in
theorem rgood0 (kind nonce frm base : Int) (ins : List Int) (ack sum : Int) (X : Option Addr) (c : Nat) (w : World) (hk : ¬ (1 ≤ kind ∧ kind ≤ 6)) : Calls Tryd.prog 43 #[.agg #[.int .i64 kind, .int .i64 nonce, .int .i64 frm, .int .i64 base, .slice X ins.length c, .int .i64 ack, .int .u64 sum]] w fun e w' => e = .returned (.bool (Par.good ⟨kind, nonce, frm, base, ins, ack, sum, X, c⟩)) ∧ Below w.heap.size w w' := by
  have BT := Lib.hid (below_two w (.cells #[.int .i64 kind, .int .i64 nonce, .int .i64 frm, .int .i64 base, .slice X ins.length c, .int .i64 ack, .int .u64 sum] 61) (.cells #[.int .i64 kind, .int .i64 0, .int .i64 0, .int .i64 0, .slice none 0 0, .int .i64 0, .int .u64 0] 61))
  have G := Lib.hid (good_none ⟨kind, nonce, frm, base, ins, ack, sum, X, c⟩ hk)
  have k1 : (kind == 1) = false := by rw [beq_eq_false_iff_ne]; omega
  have k2 : (kind == 2) = false := by rw [beq_eq_false_iff_ne]; omega
  have k3 : (kind == 3) = false := by rw [beq_eq_false_iff_ne]; omega
  have k4 : (kind == 4) = false := by rw [beq_eq_false_iff_ne]; omega
  have k5 : (kind == 5) = false := by rw [beq_eq_false_iff_ne]; omega
  have k6 : (kind == 6) = false := by rw [beq_eq_false_iff_ne]; omega
  clear hk
  go_enter Tryd.func43, Tryd.ntmps43
  go_wp2_with fail
  go_ret
  exact ⟨by rw [G.out]; rfl, BT.out⟩
end

section
open Go.RowKit Go.WideShapes
set_option linter.unusedSimpArgs false

set_option maxRecDepth 100000 in
set_option maxHeartbeats 12800000 in
theorem rgood3 (nonce frm base : Int) (ins : List Int) (ack sum : Int) (X : Option Addr) (c : Nat) (w : World) (hc : Cells w X (iv ins)) (hl : ins.length ≤ 1000000) : Calls Tryd.prog 43 #[.agg #[.int .i64 3, .int .i64 nonce, .int .i64 frm, .int .i64 base, .slice X ins.length c, .int .i64 ack, .int .u64 sum]] w fun e w' => e = .returned (.bool (Par.good (⟨3, nonce, frm, base, ins, ack, sum, X, c⟩ : Par))) ∧ Below w.heap.size w w' := by
  have bt := below_two w (.cells #[.int .i64 3, .int .i64 nonce, .int .i64 frm, .int .i64 base, .slice X ins.length c, .int .i64 ack, .int .u64 sum] 61) (.cells #[.int .i64 3, .int .i64 0, .int .i64 frm, .int .i64 base, .slice X ins.length c, .int .i64 ack, .int .u64 0] 61)
  have RS := Lib.hid (rsame_any ⟨3, nonce, frm, base, ins, ack, sum, X, c⟩ ⟨3, 0, frm, base, ins, ack, 0, X, c⟩ _ (hc.below bt) (hc.below bt) hl)
  have GG := Lib.hid (good3 ⟨3, nonce, frm, base, ins, ack, sum, X, c⟩ rfl)
  have CC := Lib.hid (hc.below bt)
  have BT := Lib.hid bt
  clear bt hc
  unfold Par.v at RS
  dsimp only at RS GG
  obtain ⟨g, hg⟩ : ∃ g, Par.good (⟨3, nonce, frm, base, ins, ack, sum, X, c⟩ : Par) = g := ⟨_, rfl⟩
  rw [hg] at GG ⊢
  clear hg
  obtain ⟨sm, hsm⟩ : ∃ sm, Par.same (⟨3, nonce, frm, base, ins, ack, sum, X, c⟩ : Par) ⟨3, 0, frm, base, ins, ack, 0, X, c⟩ = sm := ⟨_, rfl⟩
  rw [hsm] at GG RS
  clear hsm
  obtain ⟨len, hlen⟩ : ∃ len, ins.length = len := ⟨_, rfl⟩
  have LN := Lib.hid hlen
  rw [hlen] at hl GG RS CC BT ⊢
  clear hlen
  have FA := Lib.hid (frame_any frm 1)
  have FB := Lib.hid (frame_any ack 0)
  obtain ⟨fa, hfa⟩ : ∃ fa, within frm 1 1073741824 = fa := ⟨_, rfl⟩
  obtain ⟨fb, hfb⟩ : ∃ fb, within ack 0 1073741824 = fb := ⟨_, rfl⟩
  rw [hfa] at FA GG
  rw [hfb] at FB GG
  clear hfa hfb
  have l6 : (len : Int) ≤ 1000000 := by omega
  cases fa with
  | false =>
    go_enter Tryd.func43, Tryd.ntmps43
    go_wp2_with fail
    refine (FA.out _).mono ?_
    rintro e w1 ⟨rfl, rfl⟩
    go_wp2_with fail
    have G : Hid (g = false) := Lib.hid (by rw [GG.out]; simp)
    clear RS GG
    go_loop [4, 5] (fun ov kv => ∃ k : Nat, k ≤ len ∧ kv = .int .i64 k ∧ ov = .bool false) (fun _ kv => len - (intOf kv).toNat)
    case atStart => exact ⟨0, Nat.zero_le _, rfl, rfl⟩
    case round =>
      obtain ⟨k, hk, rfl, rfl⟩ := hrel
      by_cases hlt : k < len
      · have i0 : (0 : Int) ≤ (k : Int) := by omega
        have i1 : (k : Int) < (len : Int) := by omega
        go_wp2
        go_round
        case rel => exact ⟨k + 1, by omega, by go_num, rfl⟩
        case measure => simp [intOf]; omega
      · obtain rfl : k = len := by omega
        go_wp2
        go_ret
        exact ⟨by rw [G.out]; rfl, BT.out⟩
  | true =>
  cases fb with
  | false =>
    go_enter Tryd.func43, Tryd.ntmps43
    go_wp2_with fail
    refine (FA.out _).mono ?_
    rintro e w1 ⟨rfl, rfl⟩
    go_wp2_with fail
    refine (FB.out _).mono ?_
    rintro e w1 ⟨rfl, rfl⟩
    go_wp2_with fail
    have G : Hid (g = false) := Lib.hid (by rw [GG.out]; simp)
    clear RS GG
    go_loop [4, 5] (fun ov kv => ∃ k : Nat, k ≤ len ∧ kv = .int .i64 k ∧ ov = .bool false) (fun _ kv => len - (intOf kv).toNat)
    case atStart => exact ⟨0, Nat.zero_le _, rfl, rfl⟩
    case round =>
      obtain ⟨k, hk, rfl, rfl⟩ := hrel
      by_cases hlt : k < len
      · have i0 : (0 : Int) ≤ (k : Int) := by omega
        have i1 : (k : Int) < (len : Int) := by omega
        go_wp2
        go_round
        case rel => exact ⟨k + 1, by omega, by go_num, rfl⟩
        case measure => simp [intOf]; omega
      · obtain rfl : k = len := by omega
        go_wp2
        go_ret
        exact ⟨by rw [G.out]; rfl, BT.out⟩
  | true =>
  by_cases h : 0 ≤ base
  case neg =>
    have qq : decide (0 ≤ base) = false := by simpa using h
    have WH : Hid (within base 0 255 = false) := Lib.hid (within_false (fun h' => h h'.1))
    clear h
    go_enter Tryd.func43, Tryd.ntmps43
    go_wp2_with fail
    refine (FA.out _).mono ?_
    rintro e w1 ⟨rfl, rfl⟩
    go_wp2_with fail
    refine (FB.out _).mono ?_
    rintro e w1 ⟨rfl, rfl⟩
    go_wp2_with fail
    have G : Hid (g = false) := Lib.hid (by rw [GG.out]; rw [WH.out]; simp)
    clear RS GG
    go_loop [4, 5] (fun ov kv => ∃ k : Nat, k ≤ len ∧ kv = .int .i64 k ∧ ov = .bool false) (fun _ kv => len - (intOf kv).toNat)
    case atStart => exact ⟨0, Nat.zero_le _, rfl, rfl⟩
    case round =>
      obtain ⟨k, hk, rfl, rfl⟩ := hrel
      by_cases hlt : k < len
      · have i0 : (0 : Int) ≤ (k : Int) := by omega
        have i1 : (k : Int) < (len : Int) := by omega
        go_wp2
        go_round
        case rel => exact ⟨k + 1, by omega, by go_num, rfl⟩
        case measure => simp [intOf]; omega
      · obtain rfl : k = len := by omega
        go_wp2
        go_ret
        exact ⟨by rw [G.out]; rfl, BT.out⟩
  have hb0 := h
  clear h
  by_cases h : base ≤ 255
  case neg =>
    have qq : decide (base ≤ 255) = false := by simpa using h
    have WH : Hid (within base 0 255 = false) := Lib.hid (within_false (fun h' => h h'.2))
    clear h
    go_enter Tryd.func43, Tryd.ntmps43
    go_wp2_with fail
    refine (FA.out _).mono ?_
    rintro e w1 ⟨rfl, rfl⟩
    go_wp2_with fail
    refine (FB.out _).mono ?_
    rintro e w1 ⟨rfl, rfl⟩
    go_wp2_with fail
    have G : Hid (g = false) := Lib.hid (by rw [GG.out]; rw [WH.out]; simp)
    clear RS GG
    go_loop [4, 5] (fun ov kv => ∃ k : Nat, k ≤ len ∧ kv = .int .i64 k ∧ ov = .bool false) (fun _ kv => len - (intOf kv).toNat)
    case atStart => exact ⟨0, Nat.zero_le _, rfl, rfl⟩
    case round =>
      obtain ⟨k, hk, rfl, rfl⟩ := hrel
      by_cases hlt : k < len
      · have i0 : (0 : Int) ≤ (k : Int) := by omega
        have i1 : (k : Int) < (len : Int) := by omega
        go_wp2
        go_round
        case rel => exact ⟨k + 1, by omega, by go_num, rfl⟩
        case measure => simp [intOf]; omega
      · obtain rfl : k = len := by omega
        go_wp2
        go_ret
        exact ⟨by rw [G.out]; rfl, BT.out⟩
  have hb1 := h
  clear h
  by_cases h : 1 ≤ len
  case neg =>
    have qq : decide ((1 : Int) ≤ (len : Int)) = false := by simp; omega
    have WH : Hid (within (len : Int) 1 32 = false) := Lib.hid (within_false (fun h' => h (by omega)))
    clear h
    go_enter Tryd.func43, Tryd.ntmps43
    go_wp2_with fail
    refine (FA.out _).mono ?_
    rintro e w1 ⟨rfl, rfl⟩
    go_wp2_with fail
    refine (FB.out _).mono ?_
    rintro e w1 ⟨rfl, rfl⟩
    go_wp2_with fail
    have G : Hid (g = false) := Lib.hid (by rw [GG.out]; rw [WH.out]; simp)
    clear RS GG
    go_loop [4, 5] (fun ov kv => ∃ k : Nat, k ≤ len ∧ kv = .int .i64 k ∧ ov = .bool false) (fun _ kv => len - (intOf kv).toNat)
    case atStart => exact ⟨0, Nat.zero_le _, rfl, rfl⟩
    case round =>
      obtain ⟨k, hk, rfl, rfl⟩ := hrel
      by_cases hlt : k < len
      · have i0 : (0 : Int) ≤ (k : Int) := by omega
        have i1 : (k : Int) < (len : Int) := by omega
        go_wp2
        go_round
        case rel => exact ⟨k + 1, by omega, by go_num, rfl⟩
        case measure => simp [intOf]; omega
      · obtain rfl : k = len := by omega
        go_wp2
        go_ret
        exact ⟨by rw [G.out]; rfl, BT.out⟩
  have hl0 : (1 : Int) ≤ (len : Int) := by omega
  clear h
  by_cases h : len ≤ 32
  case neg =>
    have qq : decide ((len : Int) ≤ 32) = false := by simp; omega
    have WH : Hid (within (len : Int) 1 32 = false) := Lib.hid (within_false (fun h' => h (by omega)))
    clear h
    go_enter Tryd.func43, Tryd.ntmps43
    go_wp2_with fail
    refine (FA.out _).mono ?_
    rintro e w1 ⟨rfl, rfl⟩
    go_wp2_with fail
    refine (FB.out _).mono ?_
    rintro e w1 ⟨rfl, rfl⟩
    go_wp2_with fail
    have G : Hid (g = false) := Lib.hid (by rw [GG.out]; rw [WH.out]; simp)
    clear RS GG
    go_loop [4, 5] (fun ov kv => ∃ k : Nat, k ≤ len ∧ kv = .int .i64 k ∧ ov = .bool false) (fun _ kv => len - (intOf kv).toNat)
    case atStart => exact ⟨0, Nat.zero_le _, rfl, rfl⟩
    case round =>
      obtain ⟨k, hk, rfl, rfl⟩ := hrel
      by_cases hlt : k < len
      · have i0 : (0 : Int) ≤ (k : Int) := by omega
        have i1 : (k : Int) < (len : Int) := by omega
        go_wp2
        go_round
        case rel => exact ⟨k + 1, by omega, by go_num, rfl⟩
        case measure => simp [intOf]; omega
      · obtain rfl : k = len := by omega
        go_wp2
        go_ret
        exact ⟨by rw [G.out]; rfl, BT.out⟩
  have hl1 : (len : Int) ≤ 32 := by omega
  have G : Hid (g = (ins.all inR && sm)) := Lib.hid (by rw [GG.out, within_iff.2 ⟨hb0, hb1⟩, within_iff.2 ⟨hl0, hl1⟩]; simp)
  clear h GG
  go_enter Tryd.func43, Tryd.ntmps43
  go_wp2_with fail
  refine (FA.out _).mono ?_
  rintro e w1 ⟨rfl, rfl⟩
  go_wp2_with fail
  refine (FB.out _).mono ?_
  rintro e w1 ⟨rfl, rfl⟩
  go_wp2_with fail
  go_loop [4, 5] (fun ov kv => ∃ k : Nat, k ≤ len ∧ kv = .int .i64 k ∧ ov = .bool ((ins.take k).all inR)) (fun _ kv => len - (intOf kv).toNat)
  case atStart => exact ⟨0, Nat.zero_le _, rfl, rfl⟩
  case round =>
    obtain ⟨k, hk, rfl, rfl⟩ := hrel
    by_cases hlt : k < len
    · have i0 : (0 : Int) ≤ (k : Int) := by omega
      have i1 : (k : Int) < (len : Int) := by omega
      obtain ⟨x, hx⟩ : ∃ x, ins[k]? = some x := ⟨ins[k]'(by rw [LN.out]; exact hlt), by simp [show k < ins.length by rw [LN.out]; exact hlt]⟩
      obtain ⟨xb, xo, hX, hcx⟩ := CC.out k (.int .i64 x) (by simp [iv, hx])
      have TK : Hid ((ins.take (k + 1)).all inR = ((ins.take k).all inR && inR x)) := Lib.hid (by
        obtain ⟨hkl, he⟩ := List.getElem?_eq_some_iff.1 hx
        rw [List.take_succ_eq_append_getElem hkl, he]
        simp)
      obtain ⟨t, ht⟩ : ∃ t, (ins.take k).all inR = t := ⟨_, rfl⟩
      rw [ht] at TK ⊢
      subst hX
      clear ht hx
      cases t with
      | false =>
        go_wp2
        go_round
        case rel => exact ⟨k + 1, by omega, by go_num, by rw [TK.out]; rfl⟩
        case measure => simp [intOf]; omega
      | true =>
        by_cases h0 : 0 ≤ x
        · by_cases h1 : x ≤ 255
          · have e : inR x = true := within_iff.2 ⟨h0, h1⟩
            rw [e] at TK
            go_wp2
            go_round
            case rel => exact ⟨k + 1, by omega, by go_num, by rw [TK.out]; first | rfl | simp [h1]⟩
            case measure => simp [intOf]; omega
          · have e : inR x = false := within_false (fun h => h1 h.2)
            have q : decide (x ≤ 255) = false := by simpa using h1
            rw [e] at TK
            clear h1
            go_wp2
            go_round
            case rel => exact ⟨k + 1, by omega, by go_num, by rw [TK.out]; first | rfl | simp [q]⟩
            case measure => simp [intOf]; omega
        · have e : inR x = false := within_false (fun h => h0 h.1)
          have q : decide (0 ≤ x) = false := by simpa using h0
          rw [e] at TK
          clear h0
          go_wp2
          go_round
          case rel => exact ⟨k + 1, by omega, by go_num, by rw [TK.out]; rfl⟩
          case measure => simp [intOf]; omega
    · obtain rfl : k = len := by omega
      have htk : ins.take k = ins := List.take_of_length_le (by rw [LN.out]; exact Nat.le_refl _)
      rw [htk]
      obtain ⟨t, ht⟩ : ∃ t, ins.all inR = t := ⟨_, rfl⟩
      rw [ht] at G ⊢
      clear ht htk
      cases t with
      | false =>
        go_wp2
        go_ret
        exact ⟨by rw [G.out]; rfl, BT.out⟩
      | true =>
        go_wp2_with fail
        refine RS.out.mono ?_
        rintro e w9 ⟨rfl, hb9⟩
        have B9 := Lib.hid (BT.out.trans (hb9.mono BT.out.size))
        clear hb9
        go_wp2_with fail
        go_ret
        exact ⟨by rw [G.out]; rfl, B9.out⟩

/-- The reference's Good. -/
theorem rgood_any (p : Par) (w : World) (hc : Cells w p.X (iv p.ins)) (hl : p.ins.length ≤ 1000000) : Calls Tryd.prog 43 #[p.v] w fun e w' => e = .returned (.bool p.good) ∧ Below w.heap.size w w' := by
  obtain ⟨kind, nonce, frm, base, ins, ack, sum, X, c⟩ := p
  by_cases hk : 1 ≤ kind ∧ kind ≤ 6
  · have hks : kind = 1 ∨ kind = 2 ∨ kind = 3 ∨ kind = 4 ∨ kind = 5 ∨ kind = 6 := by omega
    rcases hks with rfl | rfl | rfl | rfl | rfl | rfl
    · exact rgood1 nonce frm base ins ack sum X c w hc hl
    · exact rgood2 nonce frm base ins ack sum X c w hc hl
    · exact rgood3 nonce frm base ins ack sum X c w hc hl
    · exact rgood4 nonce frm base ins ack sum X c w hc hl
    · exact rgood5 nonce frm base ins ack sum X c w hc hl
    · exact rgood6 nonce frm base ins ack sum X c w hc hl
  · exact rgood0 kind nonce frm base ins ack sum X c w hk
end

end Go.Proofs.YtgdbpicelnoacaaDoor
