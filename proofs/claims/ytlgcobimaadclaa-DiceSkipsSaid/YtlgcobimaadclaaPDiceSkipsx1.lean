-- PRINTED BY print.sh 35421559b90ae4d0a3588c463048766b98c2df88dd9212a6774a882060cdf62d: not written by this session
import Derived.Test.YtlgcobimaadclaaPDiceSkipsx0
namespace Go.Proofs.Ytlgcobimaadclaa.PDiceSkips
open Go.RowKit Go.Proofs.YtlgcobimaadclaaW.PrintWords Go.Proofs.YtlgcobimaadclaaW.PrintLast Go.Proofs.YtlgcobimaadclaaW.PrintMore
attribute [local go_sem] max2_int min2_int max_two min_two max_three min_three max_four min_four   -- for this text's walks alone
set_option linter.unusedVariables false
set_option linter.unusedSimpArgs false

/-! ### dice_Skip: function 13 -/
def dice_Skip.f (a0 : Int) (a1 : Int) : Option (Int) := some (wrap64 (IntKind.u64.wrap ((IntKind.u64.wrap (a0)) + (IntKind.u64.wrap ((IntKind.u64.wrap (a1)) * 11400714819323198485)))))
set_option maxHeartbeats 8000000 in
set_option maxRecDepth 100000 in
theorem dice_Skip.calls (a0 : Int) (a1 : Int) (r : Int) (w : World) (h : dice_Skip.f a0 a1 = some r) :
    Calls Try.prog 13 #[.int .i64 a0, .int .i64 a1] w fun e w' => e = .returned (.int .i64 r) ∧ Drawn0 w w' := by
  have H : (some (wrap64 (IntKind.u64.wrap ((IntKind.u64.wrap (a0)) + (IntKind.u64.wrap ((IntKind.u64.wrap (a1)) * 11400714819323198485)))))) = some r := h
  clear h
  obtain rfl := Option.some.inj H
  go_enter Try.func13, Try.ntmps13
  go_wp2
  go_ret
  exact ⟨by first | rfl | (simp; done) | (simp [*]; done), by repeat (first | exact Drawn0.refl _ | apply Drawn0.step)⟩

/-! ### dice_mix: function 35 -/
def dice_mix.f (a0 : Int) : Option (Int) := some (Go.bits .xor .u64 (IntKind.u64.wrap ((Go.bits .xor .u64 (IntKind.u64.wrap ((Go.bits .xor .u64 a0 (a0 / 1073741824)) * 13787848793156543929)) ((IntKind.u64.wrap ((Go.bits .xor .u64 a0 (a0 / 1073741824)) * 13787848793156543929)) / 134217728)) * 10723151780598845931)) ((IntKind.u64.wrap ((Go.bits .xor .u64 (IntKind.u64.wrap ((Go.bits .xor .u64 a0 (a0 / 1073741824)) * 13787848793156543929)) ((IntKind.u64.wrap ((Go.bits .xor .u64 a0 (a0 / 1073741824)) * 13787848793156543929)) / 134217728)) * 10723151780598845931)) / 2147483648))
set_option maxHeartbeats 8000000 in
set_option maxRecDepth 100000 in
theorem dice_mix.calls (a0 : Int) (r : Int) (w : World) (h : dice_mix.f a0 = some r) :
    Calls Try.prog 35 #[.int .u64 a0] w fun e w' => e = .returned (.int .u64 r) ∧ Drawn0 w w' := by
  have H : (some (Go.bits .xor .u64 (IntKind.u64.wrap ((Go.bits .xor .u64 (IntKind.u64.wrap ((Go.bits .xor .u64 a0 (a0 / 1073741824)) * 13787848793156543929)) ((IntKind.u64.wrap ((Go.bits .xor .u64 a0 (a0 / 1073741824)) * 13787848793156543929)) / 134217728)) * 10723151780598845931)) ((IntKind.u64.wrap ((Go.bits .xor .u64 (IntKind.u64.wrap ((Go.bits .xor .u64 a0 (a0 / 1073741824)) * 13787848793156543929)) ((IntKind.u64.wrap ((Go.bits .xor .u64 a0 (a0 / 1073741824)) * 13787848793156543929)) / 134217728)) * 10723151780598845931)) / 2147483648))) = some r := h
  clear h
  obtain rfl := Option.some.inj H
  go_enter Try.func35, Try.ntmps35
  go_wp2
  go_ret
  exact ⟨by first | rfl | (simp; done) | (simp [*]; done), by repeat (first | exact Drawn0.refl _ | apply Drawn0.step)⟩

/-! ### dice_Next: function 12 -/
def dice_Next.f (a0 : Int) : Option (Int × Int) := (dice_Skip.f a0 1).bind fun t101 => ((dice_mix.f (IntKind.u64.wrap (t101))).bind fun t102 => (some (t101, t102)))
set_option maxHeartbeats 8000000 in
set_option maxRecDepth 100000 in
theorem dice_Next.calls (a0 : Int) (r1 : Int) (r2 : Int) (w : World) (h : dice_Next.f a0 = some (r1, r2)) :
    Calls Try.prog 12 #[.int .i64 a0] w fun e w' => e = .returned (.tuple #[.int .i64 r1, .int .u64 r2]) ∧ Drawn0 w w' := by
  have H : ((dice_Skip.f a0 1).bind fun t101 => ((dice_mix.f (IntKind.u64.wrap (t101))).bind fun t102 => (some (t101, t102)))) = some (r1, r2) := h
  clear h
  replace H := Option.bind_eq_some_iff.mp H
  obtain ⟨t101, A20, H⟩ := H
  replace H : ((dice_mix.f (IntKind.u64.wrap (t101))).bind fun t102 => (some (t101, t102))) = some (r1, r2) := H
  have A2 := Aside0.mk A20
  clear A20
  replace H := Option.bind_eq_some_iff.mp H
  obtain ⟨t102, A30, H⟩ := H
  replace H : (some (t101, t102)) = some (r1, r2) := H
  have A3 := Aside0.mk A30
  clear A30
  simp only [Option.some.injEq, Prod.mk.injEq] at H
  obtain ⟨rfl, rfl⟩ := H
  go_enter Try.func12, Try.ntmps12
  go_wp2_with (first | ((with_reducible refine gate_callee (f := 13) rfl ?_); refine goesL_ (some 6) rfl rfl Try.func13 (by kernel_rfl) rfl #[.int .i64 a0, .int .i64 1] rfl (by (try simp only [List.map_toArray, List.map_cons, List.map_nil]); first | done | rfl | (simp only [List.length_drop, List.length_take]; rfl)) ?_; (with_reducible refine (dice_Skip.calls a0 1 t101 _ A2.out).mono ?_); rintro e w' ⟨rfl, ⟨nd, rfl⟩⟩; refine ⟨_, rfl, ?_⟩) | ((with_reducible refine gate_callee (f := 35) rfl ?_); refine goesL_ (some 10) rfl rfl Try.func35 (by kernel_rfl) rfl #[.int .u64 (IntKind.u64.wrap (t101))] rfl (by (try simp only [List.map_toArray, List.map_cons, List.map_nil]); first | done | rfl | (simp only [List.length_drop, List.length_take]; rfl)) ?_; (with_reducible refine (dice_mix.calls (IntKind.u64.wrap (t101)) t102 _ A3.out).mono ?_); rintro e w' ⟨rfl, ⟨nd, rfl⟩⟩; refine ⟨_, rfl, ?_⟩))
  go_ret2
  exact ⟨by first | rfl | (simp; done) | (simp [*]; done), by repeat (first | exact Drawn0.refl _ | apply Drawn0.step)⟩

/-! ### dice_Draw: function 21 -/
def dice_Draw.f (a0 : Int) (a1 : Int) : Option (Int × Int) := (dice_Next.f a0).bind fun bt103 => (if a1 ≤ 0 then (some (bt103.1, 0)) else (if (IntKind.u64.wrap (a1)) = 0 then (none) else (some (bt103.1, wrap64 (Int.tmod bt103.2 (IntKind.u64.wrap (a1)))))))
set_option maxHeartbeats 8000000 in
set_option maxRecDepth 100000 in
theorem dice_Draw.calls (a0 : Int) (a1 : Int) (r1 : Int) (r2 : Int) (w : World) (h : dice_Draw.f a0 a1 = some (r1, r2)) :
    Calls Try.prog 21 #[.int .i64 a0, .int .i64 a1] w fun e w' => e = .returned (.tuple #[.int .i64 r1, .int .i64 r2]) ∧ Drawn0 w w' := by
  have H : ((dice_Next.f a0).bind fun bt103 => (if a1 ≤ 0 then (some (bt103.1, 0)) else (if (IntKind.u64.wrap (a1)) = 0 then (none) else (some (bt103.1, wrap64 (Int.tmod bt103.2 (IntKind.u64.wrap (a1)))))))) = some (r1, r2) := h
  clear h
  replace H := Option.bind_eq_some_iff.mp H
  obtain ⟨⟨t103, t104⟩, A30, H⟩ := H
  replace H : (if a1 ≤ 0 then (some (t103, 0)) else (if (IntKind.u64.wrap (a1)) = 0 then (none) else (some (t103, wrap64 (Int.tmod t104 (IntKind.u64.wrap (a1))))))) = some (r1, r2) := H
  have A3 := Aside0.mk A30
  clear A30
  by_cases c4 : a1 ≤ 0
  · rw [if_pos c4] at H
    have c4b0 : decide (a1 ≤ 0) = true := decide_eq_true c4
    clear c4
    simp only [Option.some.injEq, Prod.mk.injEq] at H
    obtain ⟨rfl, rfl⟩ := H
    go_enter Try.func21, Try.ntmps21
    go_wp2_with (first | (go_at_call 12; (with_reducible refine (dice_Next.calls a0 t103 t104 _ A3.out).mono ?_); rintro e w' ⟨rfl, ⟨nd, rfl⟩⟩; (try first | exact ⟨rfl, _, World.drewN_drewN _ _ _⟩ | exact ⟨rfl, _, Eq.trans (World.drewN_drewN _ _ _) (congrArg (World.drewN _) (Nat.add_assoc _ _ _))⟩)))
    repeat (go_quiet (first | (go_at_call 12; (with_reducible refine (dice_Next.calls a0 t103 t104 _ A3.out).mono ?_); rintro e w' ⟨rfl, ⟨nd, rfl⟩⟩; (try first | exact ⟨rfl, _, World.drewN_drewN _ _ _⟩ | exact ⟨rfl, _, Eq.trans (World.drewN_drewN _ _ _) (congrArg (World.drewN _) (Nat.add_assoc _ _ _))⟩))); try go_wp2_with (first | (go_at_call 12; (with_reducible refine (dice_Next.calls a0 t103 t104 _ A3.out).mono ?_); rintro e w' ⟨rfl, ⟨nd, rfl⟩⟩; (try first | exact ⟨rfl, _, World.drewN_drewN _ _ _⟩ | exact ⟨rfl, _, Eq.trans (World.drewN_drewN _ _ _) (congrArg (World.drewN _) (Nat.add_assoc _ _ _))⟩))))
    go_ret2
    exact ⟨by first | rfl | (simp; done) | (simp [*]; done), by repeat (first | exact Drawn0.refl _ | apply Drawn0.step)⟩
  · rw [if_neg c4] at H
    have c4b0 : decide (a1 ≤ 0) = false := decide_eq_false c4
    clear c4
    by_cases c5 : (IntKind.u64.wrap (a1)) = 0
    · rw [if_pos c5] at H
      exact absurd H (by simp)
    · rw [if_neg c5] at H
      have c5b0 : ((IntKind.u64.wrap (a1)) == 0) = false := beq_eq_false_iff_ne.mpr c5
      have c5b1 : ((IntKind.u64.wrap (a1)) != 0) = true := bne_iff_ne.mpr c5
      simp only [Option.some.injEq, Prod.mk.injEq] at H
      obtain ⟨rfl, rfl⟩ := H
      go_enter Try.func21, Try.ntmps21
      go_wp2_with (first | (go_at_call 12; (with_reducible refine (dice_Next.calls a0 t103 t104 _ A3.out).mono ?_); rintro e w' ⟨rfl, ⟨nd, rfl⟩⟩; (try first | exact ⟨rfl, _, World.drewN_drewN _ _ _⟩ | exact ⟨rfl, _, Eq.trans (World.drewN_drewN _ _ _) (congrArg (World.drewN _) (Nat.add_assoc _ _ _))⟩)))
      repeat (go_quiet (first | (go_at_call 12; (with_reducible refine (dice_Next.calls a0 t103 t104 _ A3.out).mono ?_); rintro e w' ⟨rfl, ⟨nd, rfl⟩⟩; (try first | exact ⟨rfl, _, World.drewN_drewN _ _ _⟩ | exact ⟨rfl, _, Eq.trans (World.drewN_drewN _ _ _) (congrArg (World.drewN _) (Nat.add_assoc _ _ _))⟩))); try go_wp2_with (first | (go_at_call 12; (with_reducible refine (dice_Next.calls a0 t103 t104 _ A3.out).mono ?_); rintro e w' ⟨rfl, ⟨nd, rfl⟩⟩; (try first | exact ⟨rfl, _, World.drewN_drewN _ _ _⟩ | exact ⟨rfl, _, Eq.trans (World.drewN_drewN _ _ _) (congrArg (World.drewN _) (Nat.add_assoc _ _ _))⟩))))
      go_ret2
      exact ⟨by first | rfl | (simp; done) | (simp [*]; done), by repeat (first | exact Drawn0.refl _ | apply Drawn0.step)⟩

/-! ### dice_Back: function 27 -/
def dice_Back.f (a0 : Int) : Option (Int) := (dice_Skip.f a0 (-1)).bind fun t105 => (some t105)
set_option maxHeartbeats 8000000 in
set_option maxRecDepth 100000 in
theorem dice_Back.calls (a0 : Int) (r : Int) (w : World) (h : dice_Back.f a0 = some r) :
    Calls Try.prog 27 #[.int .i64 a0] w fun e w' => e = .returned (.int .i64 r) ∧ Drawn0 w w' := by
  have H : ((dice_Skip.f a0 (-1)).bind fun t105 => (some t105)) = some r := h
  clear h
  replace H := Option.bind_eq_some_iff.mp H
  obtain ⟨t105, A20, H⟩ := H
  replace H : (some t105) = some r := H
  have A2 := Aside0.mk A20
  clear A20
  obtain rfl := Option.some.inj H
  go_enter Try.func27, Try.ntmps27
  go_wp2_with (first | ((with_reducible refine gate_callee (f := 13) rfl ?_); refine goesL_ (some 4) rfl rfl Try.func13 (by kernel_rfl) rfl #[.int .i64 a0, .int .i64 (-1)] rfl (by (try simp only [List.map_toArray, List.map_cons, List.map_nil]); first | done | rfl | (simp only [List.length_drop, List.length_take]; rfl)) ?_; (with_reducible refine (dice_Skip.calls a0 (-1) t105 _ A2.out).mono ?_); rintro e w' ⟨rfl, ⟨nd, rfl⟩⟩; refine ⟨_, rfl, ?_⟩))
  go_ret
  exact ⟨by first | rfl | (simp; done) | (simp [*]; done), by repeat (first | exact Drawn0.refl _ | apply Drawn0.step)⟩

/-! ### pasodoblelaw04_awake: function 11 -/
def pasodoblelaw04_awake.f  : Option (Bool) := (dice_Next.f 0).bind fun bt106 => ((dice_Draw.f 0 6).bind fun bt108 => (if bt106.1 = (-7046029254386353131) then (if bt106.2 = 16294208416658607535 then (if bt108.1 = bt106.1 then (if bt108.2 = 1 then ((dice_Back.f bt106.1).bind fun t110 => (some (t110 == 0))) else (some false)) else (some false)) else (some false)) else (some false)))
set_option maxHeartbeats 8000000 in
set_option maxRecDepth 100000 in
theorem pasodoblelaw04_awake.calls  (r : Bool) (w : World) (h : pasodoblelaw04_awake.f  = some r) :
    Calls Try.prog 11 #[] w fun e w' => e = .returned (.bool r) ∧ Drawn0 w w' := by
  have H : ((dice_Next.f 0).bind fun bt106 => ((dice_Draw.f 0 6).bind fun bt108 => (if bt106.1 = (-7046029254386353131) then (if bt106.2 = 16294208416658607535 then (if bt108.1 = bt106.1 then (if bt108.2 = 1 then ((dice_Back.f bt106.1).bind fun t110 => (some (t110 == 0))) else (some false)) else (some false)) else (some false)) else (some false)))) = some r := h
  clear h
  replace H := Option.bind_eq_some_iff.mp H
  obtain ⟨⟨t106, t107⟩, A10, H⟩ := H
  replace H : ((dice_Draw.f 0 6).bind fun bt108 => (if t106 = (-7046029254386353131) then (if t107 = 16294208416658607535 then (if bt108.1 = t106 then (if bt108.2 = 1 then ((dice_Back.f t106).bind fun t110 => (some (t110 == 0))) else (some false)) else (some false)) else (some false)) else (some false))) = some r := H
  have A1 := Aside0.mk A10
  clear A10
  replace H := Option.bind_eq_some_iff.mp H
  obtain ⟨⟨t108, t109⟩, A20, H⟩ := H
  replace H : (if t106 = (-7046029254386353131) then (if t107 = 16294208416658607535 then (if t108 = t106 then (if t109 = 1 then ((dice_Back.f t106).bind fun t110 => (some (t110 == 0))) else (some false)) else (some false)) else (some false)) else (some false)) = some r := H
  have A2 := Aside0.mk A20
  clear A20
  by_cases c3 : t106 = (-7046029254386353131)
  · rw [if_pos c3] at H
    have c3b0 : (t106 == (-7046029254386353131)) = true := beq_iff_eq.mpr c3
    have c3b1 : (t106 != (-7046029254386353131)) = false := bne_eq_false_iff_eq.mpr c3
    clear c3
    by_cases c4 : t107 = 16294208416658607535
    · rw [if_pos c4] at H
      have c4b0 : (t107 == 16294208416658607535) = true := beq_iff_eq.mpr c4
      have c4b1 : (t107 != 16294208416658607535) = false := bne_eq_false_iff_eq.mpr c4
      clear c4
      by_cases c5 : t108 = t106
      · rw [if_pos c5] at H
        have c5b0 : (t108 == t106) = true := beq_iff_eq.mpr c5
        have c5b1 : (t108 != t106) = false := bne_eq_false_iff_eq.mpr c5
        clear c5
        by_cases c6 : t109 = 1
        · rw [if_pos c6] at H
          have c6b0 : (t109 == 1) = true := beq_iff_eq.mpr c6
          have c6b1 : (t109 != 1) = false := bne_eq_false_iff_eq.mpr c6
          clear c6
          replace H := Option.bind_eq_some_iff.mp H
          obtain ⟨t110, A70, H⟩ := H
          replace H : (some (t110 == 0)) = some r := H
          have A7 := Aside0.mk A70
          clear A70
          obtain rfl := Option.some.inj H
          go_enter Try.func11, Try.ntmps11
          go_wp2_with (first | ((with_reducible refine gate_callee (f := 12) rfl ?_); refine goesL_ (some 6) rfl rfl Try.func12 (by kernel_rfl) rfl #[.int .i64 0] rfl (by (try simp only [List.map_toArray, List.map_cons, List.map_nil]); first | done | rfl | (simp only [List.length_drop, List.length_take]; rfl)) ?_; (with_reducible refine (dice_Next.calls 0 t106 t107 _ A1.out).mono ?_); rintro e w' ⟨rfl, ⟨nd, rfl⟩⟩; refine ⟨_, rfl, ?_⟩) | ((with_reducible refine gate_callee (f := 21) rfl ?_); refine goesL_ (some 10) rfl rfl Try.func21 (by kernel_rfl) rfl #[.int .i64 0, .int .i64 6] rfl (by (try simp only [List.map_toArray, List.map_cons, List.map_nil]); first | done | rfl | (simp only [List.length_drop, List.length_take]; rfl)) ?_; (with_reducible refine (dice_Draw.calls 0 6 t108 t109 _ A2.out).mono ?_); rintro e w' ⟨rfl, ⟨nd, rfl⟩⟩; refine ⟨_, rfl, ?_⟩) | (go_at_call 27; (with_reducible refine (dice_Back.calls t106 t110 _ A7.out).mono ?_); rintro e w' ⟨rfl, ⟨nd, rfl⟩⟩))
          go_ret
          exact ⟨by first | rfl | (simp; done) | (simp [*]; done), by repeat (first | exact Drawn0.refl _ | apply Drawn0.step)⟩
        · rw [if_neg c6] at H
          have c6b0 : (t109 == 1) = false := beq_eq_false_iff_ne.mpr c6
          have c6b1 : (t109 != 1) = true := bne_iff_ne.mpr c6
          obtain rfl := Option.some.inj H
          go_enter Try.func11, Try.ntmps11
          go_wp2_with (first | ((with_reducible refine gate_callee (f := 12) rfl ?_); refine goesL_ (some 6) rfl rfl Try.func12 (by kernel_rfl) rfl #[.int .i64 0] rfl (by (try simp only [List.map_toArray, List.map_cons, List.map_nil]); first | done | rfl | (simp only [List.length_drop, List.length_take]; rfl)) ?_; (with_reducible refine (dice_Next.calls 0 t106 t107 _ A1.out).mono ?_); rintro e w' ⟨rfl, ⟨nd, rfl⟩⟩; refine ⟨_, rfl, ?_⟩) | ((with_reducible refine gate_callee (f := 21) rfl ?_); refine goesL_ (some 10) rfl rfl Try.func21 (by kernel_rfl) rfl #[.int .i64 0, .int .i64 6] rfl (by (try simp only [List.map_toArray, List.map_cons, List.map_nil]); first | done | rfl | (simp only [List.length_drop, List.length_take]; rfl)) ?_; (with_reducible refine (dice_Draw.calls 0 6 t108 t109 _ A2.out).mono ?_); rintro e w' ⟨rfl, ⟨nd, rfl⟩⟩; refine ⟨_, rfl, ?_⟩))
          go_ret
          exact ⟨by first | rfl | (simp; done) | (simp [*]; done), by repeat (first | exact Drawn0.refl _ | apply Drawn0.step)⟩
      · rw [if_neg c5] at H
        have c5b0 : (t108 == t106) = false := beq_eq_false_iff_ne.mpr c5
        have c5b1 : (t108 != t106) = true := bne_iff_ne.mpr c5
        obtain rfl := Option.some.inj H
        go_enter Try.func11, Try.ntmps11
        go_wp2_with (first | ((with_reducible refine gate_callee (f := 12) rfl ?_); refine goesL_ (some 6) rfl rfl Try.func12 (by kernel_rfl) rfl #[.int .i64 0] rfl (by (try simp only [List.map_toArray, List.map_cons, List.map_nil]); first | done | rfl | (simp only [List.length_drop, List.length_take]; rfl)) ?_; (with_reducible refine (dice_Next.calls 0 t106 t107 _ A1.out).mono ?_); rintro e w' ⟨rfl, ⟨nd, rfl⟩⟩; refine ⟨_, rfl, ?_⟩) | ((with_reducible refine gate_callee (f := 21) rfl ?_); refine goesL_ (some 10) rfl rfl Try.func21 (by kernel_rfl) rfl #[.int .i64 0, .int .i64 6] rfl (by (try simp only [List.map_toArray, List.map_cons, List.map_nil]); first | done | rfl | (simp only [List.length_drop, List.length_take]; rfl)) ?_; (with_reducible refine (dice_Draw.calls 0 6 t108 t109 _ A2.out).mono ?_); rintro e w' ⟨rfl, ⟨nd, rfl⟩⟩; refine ⟨_, rfl, ?_⟩))
        go_ret
        exact ⟨by first | rfl | (simp; done) | (simp [*]; done), by repeat (first | exact Drawn0.refl _ | apply Drawn0.step)⟩
    · rw [if_neg c4] at H
      have c4b0 : (t107 == 16294208416658607535) = false := beq_eq_false_iff_ne.mpr c4
      have c4b1 : (t107 != 16294208416658607535) = true := bne_iff_ne.mpr c4
      obtain rfl := Option.some.inj H
      go_enter Try.func11, Try.ntmps11
      go_wp2_with (first | ((with_reducible refine gate_callee (f := 12) rfl ?_); refine goesL_ (some 6) rfl rfl Try.func12 (by kernel_rfl) rfl #[.int .i64 0] rfl (by (try simp only [List.map_toArray, List.map_cons, List.map_nil]); first | done | rfl | (simp only [List.length_drop, List.length_take]; rfl)) ?_; (with_reducible refine (dice_Next.calls 0 t106 t107 _ A1.out).mono ?_); rintro e w' ⟨rfl, ⟨nd, rfl⟩⟩; refine ⟨_, rfl, ?_⟩) | ((with_reducible refine gate_callee (f := 21) rfl ?_); refine goesL_ (some 10) rfl rfl Try.func21 (by kernel_rfl) rfl #[.int .i64 0, .int .i64 6] rfl (by (try simp only [List.map_toArray, List.map_cons, List.map_nil]); first | done | rfl | (simp only [List.length_drop, List.length_take]; rfl)) ?_; (with_reducible refine (dice_Draw.calls 0 6 t108 t109 _ A2.out).mono ?_); rintro e w' ⟨rfl, ⟨nd, rfl⟩⟩; refine ⟨_, rfl, ?_⟩))
      go_ret
      exact ⟨by first | rfl | (simp; done) | (simp [*]; done), by repeat (first | exact Drawn0.refl _ | apply Drawn0.step)⟩
  · rw [if_neg c3] at H
    have c3b0 : (t106 == (-7046029254386353131)) = false := beq_eq_false_iff_ne.mpr c3
    have c3b1 : (t106 != (-7046029254386353131)) = true := bne_iff_ne.mpr c3
    obtain rfl := Option.some.inj H
    go_enter Try.func11, Try.ntmps11
    go_wp2_with (first | ((with_reducible refine gate_callee (f := 12) rfl ?_); refine goesL_ (some 6) rfl rfl Try.func12 (by kernel_rfl) rfl #[.int .i64 0] rfl (by (try simp only [List.map_toArray, List.map_cons, List.map_nil]); first | done | rfl | (simp only [List.length_drop, List.length_take]; rfl)) ?_; (with_reducible refine (dice_Next.calls 0 t106 t107 _ A1.out).mono ?_); rintro e w' ⟨rfl, ⟨nd, rfl⟩⟩; refine ⟨_, rfl, ?_⟩) | ((with_reducible refine gate_callee (f := 21) rfl ?_); refine goesL_ (some 10) rfl rfl Try.func21 (by kernel_rfl) rfl #[.int .i64 0, .int .i64 6] rfl (by (try simp only [List.map_toArray, List.map_cons, List.map_nil]); first | done | rfl | (simp only [List.length_drop, List.length_take]; rfl)) ?_; (with_reducible refine (dice_Draw.calls 0 6 t108 t109 _ A2.out).mono ?_); rintro e w' ⟨rfl, ⟨nd, rfl⟩⟩; refine ⟨_, rfl, ?_⟩))
    go_ret
    exact ⟨by first | rfl | (simp; done) | (simp [*]; done), by repeat (first | exact Drawn0.refl _ | apply Drawn0.step)⟩

/-! ### pasodoblelaw04_DiceSkips: function 3 -/
def pasodoblelaw04_DiceSkips.l0 : Nat → Int → Int → Int → Int → Int → Option (Bool)
  | 0, _, _, _, _, _ => none
  | k + 1, x0, x2, x7, x8, x9 => if x9 < x7 then ((dice_Next.f x8).bind fun bt112 => (pasodoblelaw04_DiceSkips.l0 k x0 x2 x7 bt112.1 (wrap64 (x9 + 1)))) else ((dice_Skip.f x0 x2).bind fun t114 => ((dice_Skip.f x0 x7).bind fun t115 => (if t115 = x8 then ((dice_Skip.f x8 (wrap64 (-x7))).bind fun t116 => (if t116 = x0 then ((dice_Skip.f t114 (wrap64 (-x2))).bind fun t117 => (if t117 = x0 then ((dice_Skip.f x0 0).bind fun t118 => (if t118 = x0 then ((dice_Skip.f t114 x7).bind fun t119 => ((dice_Skip.f x8 x2).bind fun t120 => (some (t119 == t120)))) else (some false))) else (some false))) else (some false))) else (some false))))
def pasodoblelaw04_DiceSkips.f (k : Nat) (a0 : Int) (a1 : Int) (a2 : Int) : Option (Bool) := (pasodoblelaw04_awake.f).bind fun t111 => (if t111 = true then (pasodoblelaw04_DiceSkips.l0 k a0 a2 (wrap64 (Int.tmod (IntKind.u64.wrap (a1)) 200)) a0 0) else (some false))
theorem pasodoblelaw04_DiceSkips.mono_l : ∀ k, (∀ y0 y1 y2 y3 y4, LeO (pasodoblelaw04_DiceSkips.l0 k y0 y1 y2 y3 y4) (pasodoblelaw04_DiceSkips.l0 (k + 1) y0 y1 y2 y3 y4))
  | 0 => fun _ _ _ _ _ r h => by simp [pasodoblelaw04_DiceSkips.l0] at h
  | k + 1 => by
    have ih0 := pasodoblelaw04_DiceSkips.mono_l k
    · intro y0 y1 y2 y3 y4
      unfold pasodoblelaw04_DiceSkips.l0
      repeat' first
      | (with_reducible exact ih0 _ _ _ _ _)
      | (with_reducible exact LeO.refl _)
      | (with_reducible exact LeO.none _)
      | (with_reducible refine LeO.ite ?_ ?_)
      | (with_reducible refine LeO.bind ?_ (fun _ => ?_))
      | exact ih0 _ _ _ _ _
      | exact LeO.none _
      | refine LeO.ite ?_ ?_
      | refine LeO.bind ?_ (fun _ => ?_)
theorem pasodoblelaw04_DiceSkips.mono : ∀ a0 a1 a2 k, LeO (pasodoblelaw04_DiceSkips.f k a0 a1 a2) (pasodoblelaw04_DiceSkips.f (k + 1) a0 a1 a2) := by
  intro a0 a1 a2 k
  have ih0 := pasodoblelaw04_DiceSkips.mono_l k
  unfold pasodoblelaw04_DiceSkips.f
  repeat' first
      | (with_reducible exact ih0 _ _ _ _ _)
      | (with_reducible exact LeO.refl _)
      | (with_reducible exact LeO.none _)
      | (with_reducible refine LeO.ite ?_ ?_)
      | (with_reducible refine LeO.bind ?_ (fun _ => ?_))
      | exact ih0 _ _ _ _ _
      | exact LeO.none _
      | refine LeO.ite ?_ ?_
      | refine LeO.bind ?_ (fun _ => ?_)
set_option maxHeartbeats 8000000 in
set_option maxRecDepth 100000 in
theorem pasodoblelaw04_DiceSkips.calls (k : Nat) (a0 : Int) (a1 : Int) (a2 : Int) (r : Bool) (w : World) (h : pasodoblelaw04_DiceSkips.f k a0 a1 a2 = some r) :
    Calls Try.prog 3 #[.int .i64 a0, .int .i64 a1, .int .i64 a2] w fun e w' => e = .returned (.bool r) ∧ Drawn0 w w' := by
  have H : ((pasodoblelaw04_awake.f).bind fun t111 => (if t111 = true then (pasodoblelaw04_DiceSkips.l0 k a0 a2 (wrap64 (Int.tmod (IntKind.u64.wrap (a1)) 200)) a0 0) else (some false))) = some r := h
  clear h
  replace H := Option.bind_eq_some_iff.mp H
  obtain ⟨t111, A40, H⟩ := H
  replace H : (if t111 = true then (pasodoblelaw04_DiceSkips.l0 k a0 a2 (wrap64 (Int.tmod (IntKind.u64.wrap (a1)) 200)) a0 0) else (some false)) = some r := H
  have A4 := Aside0.mk A40
  clear A40
  by_cases c5 : t111 = true
  · subst c5
    have H1 : (pasodoblelaw04_DiceSkips.l0 k a0 a2 (wrap64 (Int.tmod (IntKind.u64.wrap (a1)) 200)) a0 0) = some r := by rw [if_pos rfl] at H; exact H
    clear H
    have H := H1
    clear H1
    have H' := Aside0.mk H
    clear H
    go_enter Try.func3, Try.ntmps3
    go_wp2_with (first | ((with_reducible refine gate_callee (f := 11) rfl ?_); refine goesL_ (some 11) rfl rfl Try.func11 (by kernel_rfl) rfl #[] rfl (by (try simp only [List.map_toArray, List.map_cons, List.map_nil]); first | done | rfl | (simp only [List.length_drop, List.length_take]; rfl)) ?_; (with_reducible refine (pasodoblelaw04_awake.calls  true _ A4.out).mono ?_); rintro e w' ⟨rfl, ⟨nd, rfl⟩⟩; refine ⟨_, rfl, ?_⟩))
    go_loopg [8, 9] k (fun kq v8 v9 w' => ∃ (x8_1 : Int) (x9_1 : Int), v8 = .int .i64 x8_1 ∧ v9 = .int .i64 x9_1 ∧ Aside0 (pasodoblelaw04_DiceSkips.l0 kq a0 a2 (wrap64 (Int.tmod (IntKind.u64.wrap (a1)) 200)) x8_1 x9_1 = some r) ∧ Aside0 (kq ≤ k) ∧ Drawn0 w w')
    case atStart => exact ⟨(a0), (0), (by first | rfl | (simp; done) | (simp [*]; done)), (by first | rfl | (simp; done) | (simp [*]; done)), H', ⟨Nat.le_refl _⟩, by repeat (first | exact Drawn0.refl _ | apply Drawn0.step)⟩
    case round =>
      clear H'
      try clear c1
      try clear p2
      try clear c3
      try clear c5
      obtain ⟨x8_1, x9_1, rfl, rfl, HA, HK1, ⟨m1, rfl⟩⟩ := hrel
      cases gk with
      | zero => exact absurd HA.out (by simp [pasodoblelaw04_DiceSkips.l0])
      | succ k1 =>
        have H := HA.out
        clear HA
        simp only [pasodoblelaw04_DiceSkips.l0] at H
        by_cases c6 : x9_1 < (wrap64 (Int.tmod (IntKind.u64.wrap (a1)) 200))
        · rw [if_pos c6] at H
          have c6b0 : decide (x9_1 < (wrap64 (Int.tmod (IntKind.u64.wrap (a1)) 200))) = true := decide_eq_true c6
          clear c6
          replace H := Option.bind_eq_some_iff.mp H
          obtain ⟨⟨t112, t113⟩, A70, H⟩ := H
          replace H : (pasodoblelaw04_DiceSkips.l0 k1 a0 a2 (wrap64 (Int.tmod (IntKind.u64.wrap (a1)) 200)) t112 (wrap64 (x9_1 + 1))) = some r := H
          have A7 := Aside0.mk A70
          clear A70
          have H' := Aside0.mk H
          clear H
          go_wp2_with (first | ((with_reducible refine gate_callee (f := 12) rfl ?_); refine goesL_ (some 25) rfl rfl Try.func12 (by kernel_rfl) rfl #[.int .i64 x8_1] rfl (by (try simp only [List.map_toArray, List.map_cons, List.map_nil]); first | done | rfl | (simp only [List.length_drop, List.length_take]; rfl)) ?_; (with_reducible refine (dice_Next.calls x8_1 t112 t113 _ A7.out).mono ?_); rintro e w' ⟨rfl, ⟨nd, rfl⟩⟩; refine ⟨_, rfl, ?_⟩))
          go_roundg k1
          case measure => have := HK1.out; omega
          case rel => exact ⟨(t112), (wrap64 (x9_1 + 1)), (by first | rfl | (simp; done) | (simp [*]; done)), (by first | rfl | (simp; done) | (simp [*]; done)), H', ⟨by have := HK1.out; omega⟩, by repeat (first | exact Drawn0.refl _ | apply Drawn0.step)⟩
        · rw [if_neg c6] at H
          have c6b0 : decide (x9_1 < (wrap64 (Int.tmod (IntKind.u64.wrap (a1)) 200))) = false := decide_eq_false c6
          clear c6
          replace H := Option.bind_eq_some_iff.mp H
          obtain ⟨t114, A80, H⟩ := H
          replace H : ((dice_Skip.f a0 (wrap64 (Int.tmod (IntKind.u64.wrap (a1)) 200))).bind fun t115 => (if t115 = x8_1 then ((dice_Skip.f x8_1 (wrap64 (-(wrap64 (Int.tmod (IntKind.u64.wrap (a1)) 200))))).bind fun t116 => (if t116 = a0 then ((dice_Skip.f t114 (wrap64 (-a2))).bind fun t117 => (if t117 = a0 then ((dice_Skip.f a0 0).bind fun t118 => (if t118 = a0 then ((dice_Skip.f t114 (wrap64 (Int.tmod (IntKind.u64.wrap (a1)) 200))).bind fun t119 => ((dice_Skip.f x8_1 a2).bind fun t120 => (some (t119 == t120)))) else (some false))) else (some false))) else (some false))) else (some false))) = some r := H
          have A8 := Aside0.mk A80
          clear A80
          replace H := Option.bind_eq_some_iff.mp H
          obtain ⟨t115, A90, H⟩ := H
          replace H : (if t115 = x8_1 then ((dice_Skip.f x8_1 (wrap64 (-(wrap64 (Int.tmod (IntKind.u64.wrap (a1)) 200))))).bind fun t116 => (if t116 = a0 then ((dice_Skip.f t114 (wrap64 (-a2))).bind fun t117 => (if t117 = a0 then ((dice_Skip.f a0 0).bind fun t118 => (if t118 = a0 then ((dice_Skip.f t114 (wrap64 (Int.tmod (IntKind.u64.wrap (a1)) 200))).bind fun t119 => ((dice_Skip.f x8_1 a2).bind fun t120 => (some (t119 == t120)))) else (some false))) else (some false))) else (some false))) else (some false)) = some r := H
          have A9 := Aside0.mk A90
          clear A90
          by_cases c10 : t115 = x8_1
          · rw [if_pos c10] at H
            have c10b0 : (t115 == x8_1) = true := beq_iff_eq.mpr c10
            have c10b1 : (t115 != x8_1) = false := bne_eq_false_iff_eq.mpr c10
            clear c10
            replace H := Option.bind_eq_some_iff.mp H
            obtain ⟨t116, A110, H⟩ := H
            replace H : (if t116 = a0 then ((dice_Skip.f t114 (wrap64 (-a2))).bind fun t117 => (if t117 = a0 then ((dice_Skip.f a0 0).bind fun t118 => (if t118 = a0 then ((dice_Skip.f t114 (wrap64 (Int.tmod (IntKind.u64.wrap (a1)) 200))).bind fun t119 => ((dice_Skip.f x8_1 a2).bind fun t120 => (some (t119 == t120)))) else (some false))) else (some false))) else (some false)) = some r := H
            have A11 := Aside0.mk A110
            clear A110
            by_cases c12 : t116 = a0
            · rw [if_pos c12] at H
              have c12b0 : (t116 == a0) = true := beq_iff_eq.mpr c12
              have c12b1 : (t116 != a0) = false := bne_eq_false_iff_eq.mpr c12
              clear c12
              replace H := Option.bind_eq_some_iff.mp H
              obtain ⟨t117, A130, H⟩ := H
              replace H : (if t117 = a0 then ((dice_Skip.f a0 0).bind fun t118 => (if t118 = a0 then ((dice_Skip.f t114 (wrap64 (Int.tmod (IntKind.u64.wrap (a1)) 200))).bind fun t119 => ((dice_Skip.f x8_1 a2).bind fun t120 => (some (t119 == t120)))) else (some false))) else (some false)) = some r := H
              have A13 := Aside0.mk A130
              clear A130
              by_cases c14 : t117 = a0
              · rw [if_pos c14] at H
                have c14b0 : (t117 == a0) = true := beq_iff_eq.mpr c14
                have c14b1 : (t117 != a0) = false := bne_eq_false_iff_eq.mpr c14
                clear c14
                replace H := Option.bind_eq_some_iff.mp H
                obtain ⟨t118, A150, H⟩ := H
                replace H : (if t118 = a0 then ((dice_Skip.f t114 (wrap64 (Int.tmod (IntKind.u64.wrap (a1)) 200))).bind fun t119 => ((dice_Skip.f x8_1 a2).bind fun t120 => (some (t119 == t120)))) else (some false)) = some r := H
                have A15 := Aside0.mk A150
                clear A150
                by_cases c16 : t118 = a0
                · rw [if_pos c16] at H
                  have c16b0 : (t118 == a0) = true := beq_iff_eq.mpr c16
                  have c16b1 : (t118 != a0) = false := bne_eq_false_iff_eq.mpr c16
                  clear c16
                  replace H := Option.bind_eq_some_iff.mp H
                  obtain ⟨t119, A170, H⟩ := H
                  replace H : ((dice_Skip.f x8_1 a2).bind fun t120 => (some (t119 == t120))) = some r := H
                  have A17 := Aside0.mk A170
                  clear A170
                  replace H := Option.bind_eq_some_iff.mp H
                  obtain ⟨t120, A180, H⟩ := H
                  replace H : (some (t119 == t120)) = some r := H
                  have A18 := Aside0.mk A180
                  clear A180
                  obtain rfl := Option.some.inj H
                  go_wp2_with (first | ((with_reducible refine gate_callee (f := 13) rfl ?_); refine goesL_ (some 30) rfl rfl Try.func13 (by kernel_rfl) rfl #[.int .i64 a0, .int .i64 a2] rfl (by (try simp only [List.map_toArray, List.map_cons, List.map_nil]); first | done | rfl | (simp only [List.length_drop, List.length_take]; rfl)) ?_; (with_reducible refine (dice_Skip.calls a0 a2 t114 _ A8.out).mono ?_); rintro e w' ⟨rfl, ⟨nd, rfl⟩⟩; refine ⟨_, rfl, ?_⟩) | ((with_reducible refine gate_callee (f := 13) rfl ?_); refine goesL_ (some 33) rfl rfl Try.func13 (by kernel_rfl) rfl #[.int .i64 a0, .int .i64 (wrap64 (Int.tmod (IntKind.u64.wrap (a1)) 200))] rfl (by (try simp only [List.map_toArray, List.map_cons, List.map_nil]); first | done | rfl | (simp only [List.length_drop, List.length_take]; rfl)) ?_; (with_reducible refine (dice_Skip.calls a0 (wrap64 (Int.tmod (IntKind.u64.wrap (a1)) 200)) t115 _ A9.out).mono ?_); rintro e w' ⟨rfl, ⟨nd, rfl⟩⟩; refine ⟨_, rfl, ?_⟩) | (go_at_call 13; (with_reducible refine (dice_Skip.calls x8_1 (wrap64 (-(wrap64 (Int.tmod (IntKind.u64.wrap (a1)) 200)))) t116 _ A11.out).mono ?_); rintro e w' ⟨rfl, ⟨nd, rfl⟩⟩) | (go_at_call 13; (with_reducible refine (dice_Skip.calls t114 (wrap64 (-a2)) t117 _ A13.out).mono ?_); rintro e w' ⟨rfl, ⟨nd, rfl⟩⟩) | (go_at_call 13; (with_reducible refine (dice_Skip.calls a0 0 t118 _ A15.out).mono ?_); rintro e w' ⟨rfl, ⟨nd, rfl⟩⟩) | (go_at_call 13; (with_reducible refine (dice_Skip.calls t114 (wrap64 (Int.tmod (IntKind.u64.wrap (a1)) 200)) t119 _ A17.out).mono ?_); rintro e w' ⟨rfl, ⟨nd, rfl⟩⟩) | (go_at_call 13; (with_reducible refine (dice_Skip.calls x8_1 a2 t120 _ A18.out).mono ?_); rintro e w' ⟨rfl, ⟨nd, rfl⟩⟩))
                  go_ret
                  exact ⟨by first | rfl | (simp; done) | (simp [*]; done), by repeat (first | exact Drawn0.refl _ | apply Drawn0.step)⟩
                · rw [if_neg c16] at H
                  have c16b0 : (t118 == a0) = false := beq_eq_false_iff_ne.mpr c16
                  have c16b1 : (t118 != a0) = true := bne_iff_ne.mpr c16
                  obtain rfl := Option.some.inj H
                  go_wp2_with (first | ((with_reducible refine gate_callee (f := 13) rfl ?_); refine goesL_ (some 30) rfl rfl Try.func13 (by kernel_rfl) rfl #[.int .i64 a0, .int .i64 a2] rfl (by (try simp only [List.map_toArray, List.map_cons, List.map_nil]); first | done | rfl | (simp only [List.length_drop, List.length_take]; rfl)) ?_; (with_reducible refine (dice_Skip.calls a0 a2 t114 _ A8.out).mono ?_); rintro e w' ⟨rfl, ⟨nd, rfl⟩⟩; refine ⟨_, rfl, ?_⟩) | ((with_reducible refine gate_callee (f := 13) rfl ?_); refine goesL_ (some 33) rfl rfl Try.func13 (by kernel_rfl) rfl #[.int .i64 a0, .int .i64 (wrap64 (Int.tmod (IntKind.u64.wrap (a1)) 200))] rfl (by (try simp only [List.map_toArray, List.map_cons, List.map_nil]); first | done | rfl | (simp only [List.length_drop, List.length_take]; rfl)) ?_; (with_reducible refine (dice_Skip.calls a0 (wrap64 (Int.tmod (IntKind.u64.wrap (a1)) 200)) t115 _ A9.out).mono ?_); rintro e w' ⟨rfl, ⟨nd, rfl⟩⟩; refine ⟨_, rfl, ?_⟩) | (go_at_call 13; (with_reducible refine (dice_Skip.calls x8_1 (wrap64 (-(wrap64 (Int.tmod (IntKind.u64.wrap (a1)) 200)))) t116 _ A11.out).mono ?_); rintro e w' ⟨rfl, ⟨nd, rfl⟩⟩) | (go_at_call 13; (with_reducible refine (dice_Skip.calls t114 (wrap64 (-a2)) t117 _ A13.out).mono ?_); rintro e w' ⟨rfl, ⟨nd, rfl⟩⟩) | (go_at_call 13; (with_reducible refine (dice_Skip.calls a0 0 t118 _ A15.out).mono ?_); rintro e w' ⟨rfl, ⟨nd, rfl⟩⟩))
                  go_ret
                  exact ⟨by first | rfl | (simp; done) | (simp [*]; done), by repeat (first | exact Drawn0.refl _ | apply Drawn0.step)⟩
              · rw [if_neg c14] at H
                have c14b0 : (t117 == a0) = false := beq_eq_false_iff_ne.mpr c14
                have c14b1 : (t117 != a0) = true := bne_iff_ne.mpr c14
                obtain rfl := Option.some.inj H
                go_wp2_with (first | ((with_reducible refine gate_callee (f := 13) rfl ?_); refine goesL_ (some 30) rfl rfl Try.func13 (by kernel_rfl) rfl #[.int .i64 a0, .int .i64 a2] rfl (by (try simp only [List.map_toArray, List.map_cons, List.map_nil]); first | done | rfl | (simp only [List.length_drop, List.length_take]; rfl)) ?_; (with_reducible refine (dice_Skip.calls a0 a2 t114 _ A8.out).mono ?_); rintro e w' ⟨rfl, ⟨nd, rfl⟩⟩; refine ⟨_, rfl, ?_⟩) | ((with_reducible refine gate_callee (f := 13) rfl ?_); refine goesL_ (some 33) rfl rfl Try.func13 (by kernel_rfl) rfl #[.int .i64 a0, .int .i64 (wrap64 (Int.tmod (IntKind.u64.wrap (a1)) 200))] rfl (by (try simp only [List.map_toArray, List.map_cons, List.map_nil]); first | done | rfl | (simp only [List.length_drop, List.length_take]; rfl)) ?_; (with_reducible refine (dice_Skip.calls a0 (wrap64 (Int.tmod (IntKind.u64.wrap (a1)) 200)) t115 _ A9.out).mono ?_); rintro e w' ⟨rfl, ⟨nd, rfl⟩⟩; refine ⟨_, rfl, ?_⟩) | (go_at_call 13; (with_reducible refine (dice_Skip.calls x8_1 (wrap64 (-(wrap64 (Int.tmod (IntKind.u64.wrap (a1)) 200)))) t116 _ A11.out).mono ?_); rintro e w' ⟨rfl, ⟨nd, rfl⟩⟩) | (go_at_call 13; (with_reducible refine (dice_Skip.calls t114 (wrap64 (-a2)) t117 _ A13.out).mono ?_); rintro e w' ⟨rfl, ⟨nd, rfl⟩⟩))
                go_ret
                exact ⟨by first | rfl | (simp; done) | (simp [*]; done), by repeat (first | exact Drawn0.refl _ | apply Drawn0.step)⟩
            · rw [if_neg c12] at H
              have c12b0 : (t116 == a0) = false := beq_eq_false_iff_ne.mpr c12
              have c12b1 : (t116 != a0) = true := bne_iff_ne.mpr c12
              obtain rfl := Option.some.inj H
              go_wp2_with (first | ((with_reducible refine gate_callee (f := 13) rfl ?_); refine goesL_ (some 30) rfl rfl Try.func13 (by kernel_rfl) rfl #[.int .i64 a0, .int .i64 a2] rfl (by (try simp only [List.map_toArray, List.map_cons, List.map_nil]); first | done | rfl | (simp only [List.length_drop, List.length_take]; rfl)) ?_; (with_reducible refine (dice_Skip.calls a0 a2 t114 _ A8.out).mono ?_); rintro e w' ⟨rfl, ⟨nd, rfl⟩⟩; refine ⟨_, rfl, ?_⟩) | ((with_reducible refine gate_callee (f := 13) rfl ?_); refine goesL_ (some 33) rfl rfl Try.func13 (by kernel_rfl) rfl #[.int .i64 a0, .int .i64 (wrap64 (Int.tmod (IntKind.u64.wrap (a1)) 200))] rfl (by (try simp only [List.map_toArray, List.map_cons, List.map_nil]); first | done | rfl | (simp only [List.length_drop, List.length_take]; rfl)) ?_; (with_reducible refine (dice_Skip.calls a0 (wrap64 (Int.tmod (IntKind.u64.wrap (a1)) 200)) t115 _ A9.out).mono ?_); rintro e w' ⟨rfl, ⟨nd, rfl⟩⟩; refine ⟨_, rfl, ?_⟩) | (go_at_call 13; (with_reducible refine (dice_Skip.calls x8_1 (wrap64 (-(wrap64 (Int.tmod (IntKind.u64.wrap (a1)) 200)))) t116 _ A11.out).mono ?_); rintro e w' ⟨rfl, ⟨nd, rfl⟩⟩))
              go_ret
              exact ⟨by first | rfl | (simp; done) | (simp [*]; done), by repeat (first | exact Drawn0.refl _ | apply Drawn0.step)⟩
          · rw [if_neg c10] at H
            have c10b0 : (t115 == x8_1) = false := beq_eq_false_iff_ne.mpr c10
            have c10b1 : (t115 != x8_1) = true := bne_iff_ne.mpr c10
            obtain rfl := Option.some.inj H
            go_wp2_with (first | ((with_reducible refine gate_callee (f := 13) rfl ?_); refine goesL_ (some 30) rfl rfl Try.func13 (by kernel_rfl) rfl #[.int .i64 a0, .int .i64 a2] rfl (by (try simp only [List.map_toArray, List.map_cons, List.map_nil]); first | done | rfl | (simp only [List.length_drop, List.length_take]; rfl)) ?_; (with_reducible refine (dice_Skip.calls a0 a2 t114 _ A8.out).mono ?_); rintro e w' ⟨rfl, ⟨nd, rfl⟩⟩; refine ⟨_, rfl, ?_⟩) | ((with_reducible refine gate_callee (f := 13) rfl ?_); refine goesL_ (some 33) rfl rfl Try.func13 (by kernel_rfl) rfl #[.int .i64 a0, .int .i64 (wrap64 (Int.tmod (IntKind.u64.wrap (a1)) 200))] rfl (by (try simp only [List.map_toArray, List.map_cons, List.map_nil]); first | done | rfl | (simp only [List.length_drop, List.length_take]; rfl)) ?_; (with_reducible refine (dice_Skip.calls a0 (wrap64 (Int.tmod (IntKind.u64.wrap (a1)) 200)) t115 _ A9.out).mono ?_); rintro e w' ⟨rfl, ⟨nd, rfl⟩⟩; refine ⟨_, rfl, ?_⟩))
            go_ret
            exact ⟨by first | rfl | (simp; done) | (simp [*]; done), by repeat (first | exact Drawn0.refl _ | apply Drawn0.step)⟩
  · replace c5 := Bool.eq_false_iff.mpr c5
    subst c5
    have H1 : (some false) = some r := by rw [if_neg (show ¬ (false = true) by decide)] at H; exact H
    clear H
    have H := H1
    clear H1
    obtain rfl := Option.some.inj H
    go_enter Try.func3, Try.ntmps3
    go_wp2_with (first | ((with_reducible refine gate_callee (f := 11) rfl ?_); refine goesL_ (some 11) rfl rfl Try.func11 (by kernel_rfl) rfl #[] rfl (by (try simp only [List.map_toArray, List.map_cons, List.map_nil]); first | done | rfl | (simp only [List.length_drop, List.length_take]; rfl)) ?_; (with_reducible refine (pasodoblelaw04_awake.calls  false _ A4.out).mono ?_); rintro e w' ⟨rfl, ⟨nd, rfl⟩⟩; refine ⟨_, rfl, ?_⟩))
    go_ret
    exact ⟨by first | rfl | (simp; done) | (simp [*]; done), by repeat (first | exact Drawn0.refl _ | apply Drawn0.step)⟩

/-- THE ONE PURE STATEMENT of pasodoblelaw04_DiceSkips: yours. -/
def pasodoblelaw04_DiceSkips.Pure : Prop := ∀ (a0 : Int) (a1 : Int) (a2 : Int), (Lit.int .i64 a0).wf = true → (Lit.int .i64 a1).wf = true → (Lit.int .i64 a2).wf = true → ∃ k, pasodoblelaw04_DiceSkips.f k a0 a1 a2 = some true
theorem pasodoblelaw04_DiceSkips.walk (P : pasodoblelaw04_DiceSkips.Pure) (a0 : Int) (a1 : Int) (a2 : Int) (w : World) (w0 : (Lit.int .i64 a0).wf = true) (w1 : (Lit.int .i64 a1).wf = true) (w2 : (Lit.int .i64 a2).wf = true) :
    Calls Try.prog 3 #[.int .i64 a0, .int .i64 a1, .int .i64 a2] w fun e w' => e = .returned (.bool true) ∧ Below w.heap.size w w' := by
  obtain ⟨k, h⟩ := P a0 a1 a2 w0 w1 w2
  refine (pasodoblelaw04_DiceSkips.calls k a0 a1 a2 true w h).mono ?_
  rintro e w' ⟨rfl, hd⟩
  exact ⟨rfl, hd.below⟩

end Go.Proofs.Ytlgcobimaadclaa.PDiceSkips
