/- This text proves what the line's methods compute, over the loaded program: sending, doubling, taking, dropping, spoiling. -/
import Derived.Test.YtkpbjahjiajodaaDoorLine
namespace Go.Proofs.YtkpbjahjiajodaaDoor
open Go.RowKit Go.WideShapes

/-- The api's errors that the line's laws load lie where the program lays them. -/
def GlobL (w : World) (A : Nat → Addr) : Prop := ∀ j, j = 0 ∨ j = 1 ∨ j = 4 ∨ j = 5 ∨ j = 6 → w.cell? ⟨j, 0, none⟩ = some (.iface 129 (.pointer (some (A j))))
theorem GlobL.below {w w' : World} {A : Nat → Addr} (h : GlobL w A) (hb : Below w.heap.size w w') : GlobL w' A := fun j hj => (hb.cell (World.block_lt_of_cell? w _ (h j hj))).trans (h j hj)
theorem GlobL.kept {w w' : World} {A : Nat → Addr} {fp : List Nat} (h : GlobL w A) (hk : Kept fp w w') (hf : ∀ j, j ≤ 6 → j ∉ fp) : GlobL w' A := fun j hj => hk.cell (h j hj) (hf j (by omega))
theorem GlobL.drewN {w : World} {A : Nat → Addr} (h : GlobL w A) (n : Nat) : GlobL (w.drewN n) A := h

/-- What an answer says of an error: none, or one that wraps the j-th of the api's, new since a world. -/
def ErrIs (B : Nat) (w : World) (A : Nat → Addr) (v : Value) : Option Nat → Prop
  | none => v = .nilIface
  | some j => ∃ b, v = .iface 126 (.pointer (some ⟨b, 0, none⟩)) ∧ WrapsT w v (A j) ∧ B ≤ b

/-- What a line's call leaves: its answer, and the line. -/
def LOut (w : World) (lb : Nat) (gp : List Nat) (A : Nat → Addr) (L' : Lin) (err : Option Nat) (mk : Value → Value) (e : Ending) (w' : World) : Prop :=
  ∃ v, e = .returned (mk v) ∧ ErrIs w.heap.size w' A v err ∧ LLeft w lb gp L' w'

section
variable {w : World} {lb : Nat} {gp : List Nat} {sv : Value} {L : Lin} {A : Nat → Addr}

theorem LLeft.same {w' : World} (h : LAt w lb gp sv L) (hb : Below w.heap.size w w') : LLeft w lb gp L w' := ⟨gp, sv, h.below hb, Kept.of_below hb, fun _ hx => .inl hx⟩
theorem LOut.of_refused {a : Addr} {j : Nat} {e : Ending} {w' : World} (ha : A j = a) (h : LAt w lb gp sv L) (hR : RefT w a e w') : LOut w lb gp A L (some j) id e w' := by
  obtain ⟨v, he, hw, hb, b, hv, hs⟩ := hR
  subst ha
  exact ⟨v, he, ⟨b, hv, hw, hs⟩, LLeft.same h hb⟩
theorem LOut.of_done {L' : Lin} {e : Ending} {w' : World} (h : LDone w lb gp L' .nilIface e w') : LOut w lb gp A L' none id e w' := ⟨.nilIface, h.1, rfl, h.2⟩
theorem LOut.of_bad {L' : Lin} {j : Nat} {mk : Value → Value} {e : Ending} {w' : World} (h : LBad w lb gp L' (A j) mk e w') : LOut w lb gp A L' (some j) mk e w' := by
  obtain ⟨v, b, hv, he, hw, hb, hl⟩ := h
  exact ⟨v, he, ⟨b, hv, hw, hb⟩, hl⟩

/-- add, as a whole: counted at place K. -/
def Lin.addR (L : Lin) (L' : Lin) : Lin × Option Nat := if L.most ≤ L.ts.length then (L.full, some 4) else (L', none)

theorem add_any (h : LAt w lb gp sv L) (hok : L.ok) (hG : GlobL w A) (s t : ByteArray) (K : Nat) (hK : K = 2 ∨ K = 6) (cK : Int) (hcK : w.cell? ⟨lb, K, none⟩ = some (.int .i64 cK)) (hcK1 : 0 ≤ cK) (hcK2 : cK ≤ 1000000)
    (L' : Lin) (hL' : ∀ sv, ((L.push (s, t)).cells sv).setIfInBounds K (.int .i64 (cK + 1)) = L'.cells sv) (hts : L'.ts = L.ts ++ [(s, t)]) :
    Calls Tryd.prog 59 #[.pointer (some ⟨lb, 0, none⟩), .agg #[.string s, .string t], .pointer (some ⟨lb, K, none⟩)] w (LOut w lb gp A (L.addR L').1 (L.addR L').2 id) := by
  unfold Lin.addR
  by_cases hf : L.most ≤ L.ts.length
  · rw [if_pos hf]
    exact (add_full h hok s t K hf (A 4) (hG 4 (by omega))).mono fun e w' h => LOut.of_bad h
  · rw [if_neg hf]
    exact (add_ok0 h hok s t K hf hK cK hcK hcK1 hcK2 L' hL' hts).mono fun e w' h => LOut.of_done h

/-- Send. -/
def Lin.send (L : Lin) (s : ByteArray) : Lin × Option Nat := if 512 < s.size then (L, some 6) else L.addR { L.push (s, s) with c0 := L.c0 + 1 }

theorem send_any (h : LAt w lb gp sv L) (hok : L.ok) (hG : GlobL w A) (s : ByteArray) (hs : s.size ≤ maxLen) :
    Calls Tryd.prog 26 #[.pointer (some ⟨lb, 0, none⟩), .string s] w (LOut w lb gp A (L.send s).1 (L.send s).2 id) := by
  unfold Lin.send
  simp only [maxLen] at hs
  by_cases hl : 512 < s.size
  · rw [if_pos hl]
    have hl' : (512 : Int) < (s.size : Int) := by omega
    have c6 := hG 6 (by omega)
    have H := Lib.hid h
    clear h hG hl
    go_enter Tryd.func26, Tryd.ntmps26
    go_wp2_with fail
    refine (lwrong_any _ _).mono ?_
    rintro e w1 hR
    obtain ⟨v, rfl, _⟩ := id hR
    have O := Lib.hid (LOut.of_refused (A := A) (j := 6) rfl H.out hR)
    clear hR
    go_wp2
    go_ret
    exact O.out
  · rw [if_neg hl]
    have hl' : (s.size : Int) ≤ (512 : Int) := by omega
    have hadd := add_any h hok hG s s 2 (.inl rfl) L.c0 h.at2 hok.1 hok.2.1 { L.push (s, s) with c0 := L.c0 + 1 } (fun sv => rfl) rfl
    have AD := Lib.hid hadd
    clear h hG hl hok hadd
    go_enter Tryd.func26, Tryd.ntmps26
    go_wp2_with fail
    refine AD.out.mono ?_
    rintro e w1 hR
    obtain ⟨v, rfl, _⟩ := id hR
    have O := Lib.hid hR
    clear hR
    go_wp2
    go_ret
    exact O.out

theorem send_nil (hG : GlobL w A) (s : ByteArray) : Calls Tryd.prog 26 #[.pointer none, .string s] w (RefT w (A 1)) := by
  have c1 := hG 1 (by omega)
  clear hG
  go_enter Tryd.func26, Tryd.ntmps26
  go_wp2_with fail
  refine (lwrong_any _ _).mono ?_
  rintro e w1 ⟨v, rfl, hR⟩
  go_wp2
  go_ret
  exact ⟨v, rfl, hR⟩

/-- at. -/
theorem at_ok (h : LAt w lb gp sv L) (hok : L.ok) (i : Nat) (hi : i < L.ts.length) : ∃ g o cap, sv = .slice (some ⟨g, o, none⟩) L.ts.length cap ∧ g ∈ gp ∧ RowAt w 100 2 g o cap L.ts.length (textCells L.ts) ∧
    Calls Tryd.prog 60 #[.pointer (some ⟨lb, 0, none⟩), .int .i64 i] w (fun e w' => e = .returned (.tuple #[.pointer (some ⟨g, o + i * 2, none⟩), .nilIface]) ∧ w = w') := by
  rcases h.row with ⟨_, h0, _⟩ | ⟨g, o, cap, rfl, hg, hr⟩
  · omega
  · refine ⟨g, o, cap, rfl, hg, hr, ?_⟩
    have c1 := h.at1
    obtain ⟨l, hl⟩ : ∃ l, L.ts.length = l := ⟨_, rfl⟩
    obtain ⟨_, _, _, _, _, _, _, _, _, _, _, _, hk3, _⟩ := hok
    rw [hl] at c1 hi hk3
    have t1 : decide ((i : Int) < 0) = false := by simp
    have t2 : (i : Int) < (l : Int) := by omega
    have t3 : (0 : Int) ≤ (i : Int) := by omega
    clear h hr hl hi
    go_enter Tryd.func60, Tryd.ntmps60
    go_wp2_with fail
    go_ret2
    exact ⟨rfl, rfl⟩

theorem at_none (h : LAt w lb gp sv L) (hok : L.ok) (hG : GlobL w A) (i : Int) (hi : i < 0 ∨ (L.ts.length : Int) ≤ i) :
    Calls Tryd.prog 60 #[.pointer (some ⟨lb, 0, none⟩), .int .i64 i] w (fun e w' => ∃ v, e = .returned (.tuple #[.pointer none, v]) ∧ RefT w (A 5) (.returned v) w') := by
  obtain ⟨X, cap, rfl, _⟩ := h.row.slice
  have c1 := h.at1
  have c5 := hG 5 (by omega)
  obtain ⟨l, hl⟩ : ∃ l, L.ts.length = l := ⟨_, rfl⟩
  obtain ⟨_, _, _, _, _, _, _, _, _, _, _, _, hk3, _⟩ := hok
  rw [hl] at c1 hi hk3
  clear h hl hG
  by_cases h0 : i < 0
  · clear hi
    go_enter Tryd.func60, Tryd.ntmps60
    go_wp2_with fail
    refine (lwrong_any _ _).mono ?_
    rintro e w1 ⟨v, rfl, hR⟩
    go_wp2
    go_ret2
    exact ⟨v, rfl, v, rfl, hR⟩
  · have t1 : decide (i < 0) = false := by simp; omega
    have t2 : (l : Int) ≤ i := by omega
    clear hi h0
    go_enter Tryd.func60, Tryd.ntmps60
    go_wp2_with fail
    refine (lwrong_any _ _).mono ?_
    rintro e w1 ⟨v, rfl, hR⟩
    go_wp2
    go_ret2
    exact ⟨v, rfl, v, rfl, hR⟩

theorem at_nil (hG : GlobL w A) (i : Int) : Calls Tryd.prog 60 #[.pointer none, .int .i64 i] w (fun e w' => ∃ v, e = .returned (.tuple #[.pointer none, v]) ∧ RefT w (A 1) (.returned v) w') := by
  have c1 := hG 1 (by omega)
  clear hG
  go_enter Tryd.func60, Tryd.ntmps60
  go_wp2_with fail
  refine (lwrong_any _ _).mono ?_
  rintro e w1 ⟨v, rfl, hR⟩
  go_wp2
  go_ret2
  exact ⟨v, rfl, v, rfl, hR⟩

end

end Go.Proofs.YtkpbjahjiajodaaDoor
