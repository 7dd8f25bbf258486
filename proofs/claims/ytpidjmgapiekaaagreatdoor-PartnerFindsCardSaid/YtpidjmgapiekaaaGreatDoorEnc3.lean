/- This text proves what a packet is written as, over the loaded program. -/
import Derived.Test.YtpidjmgapiekaaaGreatDoorEnc2
namespace Go.Proofs.YtpidjmgapiekaaaGreatDoor
open Go.RowKit Go.WideShapes
set_option linter.unusedSimpArgs false

theorem wrap_in64 (x : Int) : In64 (IntKind.i64.wrap x) := by
  have e : IntKind.i64.wrap x = if x % 18446744073709551616 ≥ 9223372036854775808 then x % 18446744073709551616 - 18446744073709551616 else x % 18446744073709551616 := by
    simp [IntKind.wrap, IntKind.signed, IntKind.bits]
  rw [e]
  unfold In64
  split
  · constructor <;> omega
  · constructor <;> omega

set_option maxRecDepth 100000 in
set_option maxHeartbeats 6400000 in
theorem body_any {A : Nat → Addr} {w : World} {wb : Nat} {gp : List Nat} {W : Wri} (h : WAt A w wb gp W) (hok : POk W) (hG : s_Glob w A) (hn : ∀ j, j < 5 → j ∉ wb :: gp) (p : Par) (hp : p.ok w) (hl : p.kind = 3 → p.ins.length ≤ 100) (hX : p.kind = 3 → ∀ b o, p.X = some ⟨b, o, none⟩ → b ∉ wb :: gp) :
    Calls Tryz.prog 72 #[.agg #[.pointer (some ⟨wb, 0, none⟩)], p.v] w (WDone A w wb gp (W.page p)) := by
  obtain ⟨kind, nonce, frm, base, ins, ack, sum, X, c⟩ := p
  have HP := Lib.hid hp
  obtain ⟨o1, o2, o3, o4, o5, o6, o7, o8, o9⟩ := hp
  unfold Par.v Wri.page
  dsimp only at hl o2 o3 o4 o5 o6 o8 o9 hX ⊢
  have hb1 := below_two w (.cells #[.pointer (some ⟨wb, 0, none⟩)] 125) (.cells #[.int .i64 kind, .int .i64 nonce, .int .i64 frm, .int .i64 base, .slice X ins.length c, .int .i64 ack, .int .u64 sum] 57)
  have a1 := heap_alloc_new (w.alloc (.cells #[.pointer (some ⟨wb, 0, none⟩)] 125)) (.cells #[.int .i64 kind, .int .i64 nonce, .int .i64 frm, .int .i64 base, .slice X ins.length c, .int .i64 ack, .int .u64 sum] 57)
  have a0 := (alloc_old (w.alloc (.cells #[.pointer (some ⟨wb, 0, none⟩)] 125)) (.cells #[.int .i64 kind, .int .i64 nonce, .int .i64 frm, .int .i64 base, .slice X ins.length c, .int .i64 ack, .int .u64 sum] 57) w.heap.size (by rw [size_alloc1]; omega)).trans (heap_alloc_new w _)
  rw [size_alloc1] at a1
  obtain ⟨w1, hw1⟩ : ∃ w1, ((w.alloc (.cells #[.pointer (some ⟨wb, 0, none⟩)] 125)).alloc (.cells #[.int .i64 kind, .int .i64 nonce, .int .i64 frm, .int .i64 base, .slice X ins.length c, .int .i64 ack, .int .u64 sum] 57)) = w1 := ⟨_, rfl⟩
  rw [hw1] at hb1 a1 a0
  have BX := Lib.hid (And.intro a0 a1)
  have HB := Lib.hid hb1
  have NN : Hid (w.heap.size ∉ wb :: gp ∧ w.heap.size + 1 ∉ wb :: gp) := Lib.hid ⟨fun hm => by
      rcases List.mem_cons.1 hm with e | hm
      · have := h.lt; omega
      · have := h.2.1 _ hm; omega, fun hm => by
      rcases List.mem_cons.1 hm with e | hm
      · have := h.lt; omega
      · have := h.2.1 _ hm; omega⟩
  have HN := Lib.hid hn
  have XN := Lib.hid hX
  have HL := Lib.hid hl
  have G1 := Lib.hid (hG.below hb1)
  have L1 := Lib.hid (WLeft.start (h.below hb1))
  have A1 := Lib.hid (h.below hb1)
  have OK := Lib.hid hok
  have O := Lib.hid (And.intro o2 (And.intro o3 (And.intro o5 o6)))
  clear h hok hG hn hX hb1 a0 a1 o1 o2 o3 o4 o5 o6 o7 o8 o9 hl
  by_cases k1 : kind = 1
  · subst k1
    have E1 := Lib.hid hw1
    clear hw1 
    simp (config := { decide := true }) only [if_true, if_false, true_or, or_true, or_false]
    go_enter Tryz.func72, Tryz.ntmps72
    go_wp2_with fail
    rw [E1.out]
    refine (L1.out.step (fun g hg => count_any hg OK.out.ok G1.out nonce O.out.1.2)).mono ?_
    rintro e w2 ⟨rfl, hl⟩
    have F := Lib.hid (WLeft.ahead HB.out hl)
    clear hl
    go_wp2
    go_end0
    exact ⟨rfl, F.out⟩
  by_cases k2 : kind = 2
  · subst k2
    have E1 := Lib.hid hw1
    clear hw1 k1
    simp (config := { decide := true }) only [if_true, if_false, true_or, or_true, or_false]
    go_enter Tryz.func72, Tryz.ntmps72
    go_wp2_with fail
    rw [E1.out]
    refine (L1.out.step (fun g hg => count_any hg OK.out.ok G1.out nonce O.out.1.2)).mono ?_
    rintro e w2 ⟨rfl, hl⟩
    have F := Lib.hid (WLeft.ahead HB.out hl)
    clear hl
    go_wp2
    go_end0
    exact ⟨rfl, F.out⟩
  by_cases k5 : kind = 5
  · subst k5
    have E1 := Lib.hid hw1
    clear hw1 k1 k2
    simp (config := { decide := true }) only [if_true, if_false, true_or, or_true, or_false]
    go_enter Tryz.func72, Tryz.ntmps72
    go_wp2_with fail
    rw [E1.out]
    refine (L1.out.step (fun g hg => count_any hg OK.out.ok G1.out ack O.out.2.2.1.2)).mono ?_
    rintro e w2 ⟨rfl, hl⟩
    have F := Lib.hid (WLeft.ahead HB.out hl)
    clear hl
    go_wp2
    go_end0
    exact ⟨rfl, F.out⟩
  by_cases k6 : kind = 6
  · subst k6
    have E1 := Lib.hid hw1
    clear hw1 k1 k2 k5
    simp (config := { decide := true }) only [if_true, if_false, true_or, or_true, or_false]
    go_enter Tryz.func72, Tryz.ntmps72
    go_wp2_with fail
    rw [E1.out]
    refine (L1.out.step (fun g hg => count_any hg OK.out.ok G1.out frm O.out.2.1.2)).mono ?_
    rintro e w2 ⟨rfl, hl⟩
    have F := Lib.hid (WLeft.ahead HB.out hl)
    clear hl
    go_wp2
    go_end0
    exact ⟨rfl, F.out⟩
  by_cases k3 : kind = 3
  · subst k3
    have E1 := Lib.hid hw1
    clear hw1 k1 k2 k5 k6
    simp (config := { decide := true }) only [if_true, if_false, true_or, or_true, or_false]
    have IN := fun g (hg : WAt A w1 wb g W) (hj : ∀ j, j < 5 → j ∉ wb :: g) (hx : ∀ b o, X = some ⟨b, o, none⟩ → b ∉ wb :: g) => inputs_any hg OK.out G1.out hj ⟨3, nonce, frm, base, ins, ack, sum, X, c⟩ (HP.out.below HB.out) (HL.out rfl) hx
    unfold Par.v at IN
    dsimp only at IN
    have I2 := Lib.hid IN
    clear IN
    go_enter Tryz.func72, Tryz.ntmps72
    go_wp2_with fail
    rw [E1.out]
    refine (I2.out gp A1.out HN.out (XN.out (by first | trivial | rfl))).mono ?_
    rintro e w2 ⟨rfl, hl⟩
    have F := Lib.hid (WLeft.ahead HB.out hl)
    clear hl
    go_wp2
    go_end0
    exact ⟨rfl, F.out⟩
  by_cases k4 : kind = 4
  · subst k4
    have E1 := Lib.hid hw1
    clear hw1 k1 k2 k3 k5 k6
    simp (config := { decide := true }) only [if_true, if_false, true_or, or_true, or_false]
    obtain ⟨sg, hsg⟩ : ∃ sg, IntKind.i64.wrap sum = sg := ⟨_, rfl⟩
    rw [hsg]
    have hsi : In64 sg := by rw [← hsg]; exact wrap_in64 sum
    have HSI := Lib.hid hsi
    clear hsi
    go_enter Tryz.func72, Tryz.ntmps72
    go_wp2_with fail
    rw [E1.out]
    refine (L1.out.step (fun g hg => count_any hg OK.out.ok G1.out frm O.out.2.1.2)).mono ?_
    rintro e w2 ⟨rfl, hl⟩
    have L2 := Lib.hid hl
    clear hl
    have x0 := L2.out.box BX.out.1 NN.out.1
    have x1 := L2.out.box BX.out.2 NN.out.2
    have p0 : w2.cell? ⟨w.heap.size, 0, none⟩ = some (.pointer (some ⟨wb, 0, none⟩)) := by simp only [World.cell?, x0]; rfl
    have q6 : w2.cell? ⟨w.heap.size + 1, 6, none⟩ = some (.int .u64 sum) := by simp only [World.cell?, x1]; rfl
    clear x0 x1
    go_wp2_with fail
    refine (L2.out.step (fun g hg => num_any hg (OK.out.count _).ok (L2.out.glob G1.out HN.out) sg HSI.out.1 HSI.out.2)).mono ?_
    rintro e w3 ⟨rfl, hl⟩
    have F := Lib.hid (WLeft.ahead HB.out hl)
    clear hl
    go_wp2
    go_end0
    exact ⟨rfl, F.out⟩
  have E1 := Lib.hid hw1
  have K : Hid ((if kind = 1 ∨ kind = 2 then W.count nonce else if kind = 3 then (((((W.count frm).count ack).byte base).count ins.length).put (flagsL (turnsL base ins))).ins base ins else if kind = 4 then (W.count frm).put (groupsL (zig (IntKind.i64.wrap sum))) else if kind = 5 then W.count ack else if kind = 6 then W.count frm else W) = W) := Lib.hid (by simp [k1, k2, k3, k4, k5, k6])
  rw [K.out]
  have F := Lib.hid (WLeft.ahead HB.out L1.out)
  clear hw1
  go_enter Tryz.func72, Tryz.ntmps72
  go_wp2_with fail
  rw [E1.out]
  go_end0
  exact ⟨rfl, F.out⟩

end Go.Proofs.YtpidjmgapiekaaaGreatDoor
