/- This text proves what the reference's queue refuses, lists and forgets, over the loaded program. -/
import Derived.Test.YtkpbjahjiajodaaDoorRQ2
namespace Go.Proofs.YtkpbjahjiajodaaDoor
open Go.RowKit Go.WideShapes
set_option linter.unusedSimpArgs false

/-- The number of an answer. -/
def qNum : Option Nat → Nat
  | none => 0
  | some 0 => 1
  | some 1 => 2
  | some 2 => 8
  | some 3 => 9
  | some 4 => 6
  | some _ => 0

section
variable {w : World} {rb : Nat} {fp : List Nat} {sv gv : Value} {q : Que} {G : List (Int × Int)}

set_option maxRecDepth 100000 in
set_option maxHeartbeats 1600000 in
theorem rqput_err (h : RqAt w rb fp sv gv q G) (hok : q.ok) (f x : Int) (j : Nat) (he : q.err f x = some j) :
    Calls Tryd.prog 47 #[.pointer (some ⟨rb, 0, none⟩), .int .i64 f, .int .i64 x] w (Reads w (.int .i64 (qNum (some j)))) := by
  have LA := Lib.hid (fun k => rqlast_any (h.drewN k) hok)
  have ok1 := hok.1
  have ok2 := hok.2.1
  have ok3 := hok.2.2
  obtain ⟨L, hL⟩ : ∃ x, q.last = x := ⟨_, rfl⟩
  have hL' := hL
  unfold Que.last at hL'
  obtain ⟨A, cap, hsv⟩ := h.row.lens
  have c1 := h.c1
  have c5 := h.c5
  have H := Lib.hid h
  obtain ⟨l, hl⟩ : ∃ l, q.xs.length = l := ⟨_, rfl⟩
  rw [hl] at hsv ok2 ok3 hL'
  subst hsv
  unfold Que.err at he
  rw [hL, hl] at he
  rw [hL] at LA
  obtain ⟨cl, hcl⟩ : ∃ b, q.closed = b := ⟨_, rfl⟩
  rw [hcl] at he c5
  have ew : IntKind.i64.wrap (L + 1) = L + 1 := IntWalk.i64_in _ (by omega)
  clear h hok hcl hL hl
  by_cases e1 : x < 0 ∨ 255 < x
  · rw [if_pos e1] at he
    cases he
    by_cases e1' : x < 0
    · have t1 : decide (x < 0) = true := by simpa using e1'
      clear e1 e1'
      go_enter Tryd.func47, Tryd.ntmps47
      go_wp2
      go_ret
      exact ⟨rfl, 0, rfl⟩
    · have t1 : decide (x < 0) = false := by simpa using e1'
      have t2 : decide (255 < x) = true := by simp; omega
      clear e1 e1'
      go_enter Tryd.func47, Tryd.ntmps47
      go_wp2
      go_ret
      exact ⟨rfl, 0, rfl⟩
  · rw [if_neg e1] at he
    have t1 : decide (x < 0) = false := by simp; omega
    have t2 : decide (255 < x) = false := by simp; omega
    clear e1
    cases cl
    case true =>
      simp at he
      subst he
      go_enter Tryd.func47, Tryd.ntmps47
      go_wp2
      go_ret
      exact ⟨rfl, 0, rfl⟩
    case false =>
      rw [if_neg (by simp)] at he
      by_cases e3 : f ≤ L
      · rw [if_pos e3] at he
        cases he
        have t3 : decide (f ≤ L) = true := by simpa using e3
        clear e3
        go_enter Tryd.func47, Tryd.ntmps47
        go_wp2_with fail
        refine (LA.out 0).mono ?_
        rintro e w1 ⟨rfl, k1, rfl⟩
        go_wp2
        go_ret
        exact ⟨rfl, k1, rfl⟩
      · rw [if_neg e3] at he
        have t3 : decide (f ≤ L) = false := by simpa using e3
        by_cases e4 : L + 1 < f
        · rw [if_pos e4] at he
          cases he
          have t4 : decide (L + 1 < f) = true := by simpa using e4
          clear e3 e4
          go_enter Tryd.func47, Tryd.ntmps47
          go_wp2_with fail
          refine (LA.out 0).mono ?_
          rintro e w1 ⟨rfl, k1, rfl⟩
          go_wp2_with fail
          refine (LA.out _).mono ?_
          rintro e w1 ⟨rfl, k2, rfl⟩
          go_wp2
          go_ret
          exact ⟨rfl, k1 + k2, by first | rfl | (rw [World.drewN_drewN])⟩
        · rw [if_neg e4] at he
          have t4 : decide (L + 1 < f) = false := by simpa using e4
          split at he
          case isFalse => cases he
          case isTrue e5 =>
          cases he
          clear e3 e4
          by_cases e6 : 1073741824 < f
          · have t5 : decide (1073741824 < f) = true := by simpa using e6
            clear e5 e6
            go_enter Tryd.func47, Tryd.ntmps47
            go_wp2_with fail
            refine (LA.out 0).mono ?_
            rintro e w1 ⟨rfl, k1, rfl⟩
            go_wp2_with fail
            refine (LA.out _).mono ?_
            rintro e w1 ⟨rfl, k2, rfl⟩
            go_wp2
            go_ret
            exact ⟨rfl, k1 + k2, by first | rfl | (rw [World.drewN_drewN])⟩
          · have t5 : decide (1073741824 < f) = false := by simpa using e6
            have t6 : decide ((256 : Int) ≤ (l : Int)) = true := by simp; omega
            clear e5 e6
            go_enter Tryd.func47, Tryd.ntmps47
            go_wp2_with fail
            refine (LA.out 0).mono ?_
            rintro e w1 ⟨rfl, k1, rfl⟩
            go_wp2_with fail
            refine (LA.out _).mono ?_
            rintro e w1 ⟨rfl, k2, rfl⟩
            go_wp2
            go_ret
            exact ⟨rfl, k1 + k2, by first | rfl | (rw [World.drewN_drewN])⟩
end

/-- What Same holds on to. -/
theorem rsame_ints (A B : Option Addr) (c1 c2 : Nat) (xs ys : List Int) (w : World) (h1 : Cells w A (xs.map (Value.int .i64))) (h2 : Cells w B (ys.map (Value.int .i64))) (hl : xs.length ≤ 1000000) (hxy : xs = ys) :
    Calls Tryd.prog 53 #[.slice A xs.length c1, .slice B ys.length c2] w (Reads w (.bool true)) := by
  subst hxy
  obtain ⟨n, hn⟩ : ∃ n, xs.length = n := ⟨_, rfl⟩
  have HN := Lib.hid hn
  have H1 := Lib.hid h1
  have H2 := Lib.hid h2
  rw [hn] at hl ⊢
  clear hn h1 h2
  go_enter Tryd.func53, Tryd.ntmps53
  go_wp2_with fail
  go_loopw [5] (fun iv wz => ∃ i : Nat, i ≤ n ∧ iv = .int .i64 i ∧ ∃ k, wz = w.drewN k) (fun iv _ => n - (intOf iv).toNat)
  case atStart => exact ⟨0, Nat.zero_le _, rfl, 0, rfl⟩
  case round =>
    obtain ⟨i, hi, rfl, k, rfl⟩ := hrel
    by_cases hin : i < n
    · obtain ⟨x, hx⟩ : ∃ x, xs[i]? = some x := ⟨xs[i]'(by rw [HN.out]; exact hin), by simp [HN.out, hin]⟩
      obtain ⟨b, o, rfl, m0⟩ := H1.out i (.int .i64 x) (by simp [hx])
      obtain ⟨b', o', rfl, m1⟩ := H2.out i (.int .i64 x) (by simp [hx])
      have hi0 : (0 : Int) ≤ (i : Int) := by omega
      have hi1 : (i : Int) < (n : Int) := by omega
      have ei : IntKind.i64.wrap ((i : Int) + 1) = (i : Int) + 1 := IntWalk.i64_in _ (by omega)
      clear hx
      go_wp2_with fail
      go_quiet (fail)
      go_wp2_with fail
      exact ⟨⟨i + 1, by omega, by go_num, k + nq, by first | rfl | rw [World.drewN_drewN]⟩, by simp [intOf]; omega⟩
    · have hi2 : (n : Int) ≤ (i : Int) := by omega
      clear hin
      go_wp2
      go_ret
      exact ⟨rfl, k, rfl⟩

end Go.Proofs.YtkpbjahjiajodaaDoor
