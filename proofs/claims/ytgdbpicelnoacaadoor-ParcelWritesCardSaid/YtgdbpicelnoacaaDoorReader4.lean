/- This text proves what the strand's reader computes, over the loaded program: the end, and a text. -/
import Derived.Test.YtgdbpicelnoacaaDoorReader3
namespace Go.Proofs.YtgdbpicelnoacaaDoor
open Go.RowKit Go.WideShapes

section
variable {A : Nat → Addr} {w w' : World} {rb : Nat} {R R' : Rdr}

/-- What the end tells. -/
def Rdr.right (R : Rdr) : Bool := !R.bad && R.rest.isEmpty
def EndB (A : Nat → Addr) (w : World) (o : Option Nat) (e : Ending) (w' : World) : Prop := ∃ v, e = .returned v ∧ Below w.heap.size w w' ∧ (o = none ∧ v = .nilIface ∨ ∃ j, o = some j ∧ WrapsT w' v (A j))
theorem EndB.of_at (A : Nat → Addr) (w : World) (s : ByteArray) (j : Nat) : EndB A w (some j) (.returned (.iface 108 (.pointer (some ⟨w.heap.size, 0, none⟩)))) (w.alloc (.cells #[.string s, .iface 139 (.pointer (some (A j)))] 110)) := ⟨_, rfl, (Below.refl _ _).alloc (Nat.le_refl _) _, .inr ⟨j, rfl, ⟨_, _, rfl, heap_alloc_new _ _, rfl⟩⟩⟩

theorem end_nil (hG : Glob w A) : Calls Tryd.prog 26 #[.pointer none] w (EndB A w (some 3)) := by
  have g := hG 3 (by decide)
  clear hG
  go_enter Tryd.func26, Tryd.ntmps26
  go_wp2_with fail
  refine (at_any _ _ _ _).mono ?_
  rintro e w1 ⟨rfl, rfl⟩
  go_wp2_with fail
  go_ret
  exact EndB.of_at A w _ 3

set_option maxRecDepth 100000 in
theorem end_any (h : RdAt w rb R) (hG : Glob w A) : Calls Tryd.prog 26 #[.pointer (some ⟨rb, 0, none⟩)] w (EndB A w (if R.right then none else some 0)) := by
  have g := hG 0 (by decide)
  obtain ⟨S, h2, h3, h4⟩ := h
  have c0 : w.cell? ⟨rb, 0, none⟩ = some (.string S) := by simp [World.cell?, h4]
  have c1 : w.cell? ⟨rb, 1, none⟩ = some (.bool R.bad) := by simp [World.cell?, h4]
  have e1 : S.toList.isEmpty = R.rest.isEmpty := by rw [bytes_none, h2]
  unfold Rdr.right
  generalize R.bad = bad at *
  generalize R.rest.isEmpty = em at *
  clear hG h2 h3 h4
  cases bad with
  | true =>
    go_enter Tryd.func26, Tryd.ntmps26
    go_wp2_with fail
    refine (at_any _ _ _ _).mono ?_
    rintro e w1 ⟨rfl, rfl⟩
    go_wp2_with fail
    go_ret
    exact EndB.of_at A w _ 0
  | false =>
    cases em with
    | false =>
      go_enter Tryd.func26, Tryd.ntmps26
      go_wp2_with fail
      refine (at_any _ _ _ _).mono ?_
      rintro e w1 ⟨rfl, rfl⟩
      go_wp2_with fail
      go_ret
      exact EndB.of_at A w _ 0
    | true =>
      go_enter Tryd.func26, Tryd.ntmps26
      go_wp2_with fail
      go_ret
      exact ⟨_, rfl, Below.refl _ _, .inl ⟨rfl, rfl⟩⟩

/-- Text. -/
def Rdr.text (R : Rdr) (top : Int) : Rdr × List UInt8 :=
  if R.bad then (R, []) else
    match R.number 18446744073709551615 with
    | (_, none) => (R.spoil, [])
    | (Q, some n) => if top < (n : Int) ∨ Q.rest.length < n then (R.spoil, []) else ({ Q with rest := Q.rest.drop n }, Q.rest.take n)

/-- What is laid back, spoiled. -/
theorem RdAt.back {S : ByteArray} (h : RdAt w rb R') (hS : S.data.toList = R.rest) (h2 : S.size ≤ maxLen) : RLeft w rb R.spoil ((w.setCell ⟨rb, 0, none⟩ (.string S)).setCell ⟨rb, 1, none⟩ (.bool true)) := by
  obtain ⟨S', _, _, h4⟩ := h
  refine ⟨⟨S, hS, h2, ?_⟩, (Kept.setCell w rb 0 _).trans (Kept.setCell _ rb 1 _) (by simp)⟩
  rw [heap_setCell_of (heap_setCell_of h4 0 _)]
  rfl

set_option maxRecDepth 100000 in
set_option maxHeartbeats 3200000 in
theorem rtext_any (h : RdAt w rb R) (top : Int) (ht1 : -9223372036854775808 ≤ top) (ht2 : top ≤ 9223372036854775807) :
    Calls Tryd.prog 35 #[.pointer (some ⟨rb, 0, none⟩), .int .i64 top] w fun e w' => (∃ X : ByteArray, e = .returned (.string X) ∧ X.data.toList = (R.text top).2 ∧ X.size ≤ maxLen) ∧ RLeft w rb (R.text top).1 w' := by
  have RT := Lib.hid (right_any h)
  have H := Lib.hid h
  have NT := Lib.hid (number_any h 18446744073709551615)
  obtain ⟨S, h2, h3, h4⟩ := h
  have c0 : w.cell? ⟨rb, 0, none⟩ = some (.string S) := by simp [World.cell?, h4]
  have H2 := Lib.hid (And.intro h2 h3)
  clear h2 h3 h4
  cases hb : R.bad with
  | true =>
    have N : Hid (R.text top = (R, [])) := Lib.hid (by simp [Rdr.text, hb])
    rw [hb] at RT
    clear NT hb ht1 ht2
    go_enter Tryd.func35, Tryd.ntmps35
    go_wp2_with fail
    refine RT.out.mono ?_
    rintro e w1 ⟨rfl, rfl⟩
    go_wp2_with fail
    go_ret
    rw [N.out]
    exact ⟨⟨_, rfl, rfl, Nat.zero_le _⟩, RLeft.same H.out⟩
  | false =>
    rw [hb] at RT
    obtain ⟨Q, o, hp⟩ : ∃ Q o, R.number 18446744073709551615 = (Q, o) := ⟨_, _, rfl⟩
    rw [hp] at NT
    dsimp only at NT
    cases o with
    | none =>
      have N : Hid (R.text top = (R.spoil, [])) := Lib.hid (by simp [Rdr.text, hb, hp])
      clear hb hp ht1 ht2
      unfold numV at NT
      go_enter Tryd.func35, Tryd.ntmps35
      go_wp2_with fail
      refine RT.out.mono ?_
      rintro e w1 ⟨rfl, rfl⟩
      go_wp2_with fail
      refine NT.out.mono ?_
      rintro e w1 ⟨rfl, hr1, hk1⟩
      have R1 := Lib.hid hr1
      have K1 := Lib.hid hk1
      obtain ⟨S1, h21, h31, h41⟩ := hr1
      have c0' : w1.cell? ⟨rb, 0, none⟩ = some (.string S1) := by simp [World.cell?, h41]
      have c1' : w1.cell? ⟨rb, 1, none⟩ = some (.bool Q.bad) := by simp [World.cell?, h41]
      have f0 : w1.frozen? ⟨rb, 0, none⟩ = false := by simp [World.frozen?, h41]
      have f1 : w1.frozen? ⟨rb, 1, none⟩ = false := by simp [World.frozen?, h41]
      clear hk1 h21 h31 h41 c0
      go_wp2_with fail
      go_ret
      rw [N.out]
      obtain ⟨a1, a2⟩ := R1.out.back (R := R) H2.out.1 H2.out.2
      exact ⟨⟨_, rfl, rfl, Nat.zero_le _⟩, a1, K1.out.trans a2 (by simp)⟩
    | some n =>
      unfold numV at NT
      by_cases hbad : top < (n : Int) ∨ Q.rest.length < n
      · have N : Hid (R.text top = (R.spoil, [])) := Lib.hid (by simp [Rdr.text, hb, hp, hbad])
        have hw1 : ∀ _ : ¬ top < 0, IntKind.u64.wrap top = top := fun _ => by rw [wrapU]; omega
        have hsplit : top < 0 ∨ (¬ top < 0 ∧ top < (n : Int)) ∨ (¬ top < 0 ∧ ¬ top < (n : Int) ∧ Q.rest.length < n) := by omega
        clear hb hp ht1 ht2 hbad
        have fin : ∀ w1, RdAt w1 rb Q → Kept [rb] w w1 → (∃ X : ByteArray, Ending.returned (.string ⟨#[]⟩) = .returned (.string X) ∧ X.data.toList = (R.text top).2 ∧ X.size ≤ maxLen) ∧ RLeft w rb (R.text top).1 ((w1.setCell ⟨rb, 0, none⟩ (.string S)).setCell ⟨rb, 1, none⟩ (.bool true)) := fun w1 r1 k1 => by
          rw [N.out]
          obtain ⟨a1, a2⟩ := r1.back (R := R) H2.out.1 H2.out.2
          exact ⟨⟨_, rfl, rfl, Nat.zero_le _⟩, a1, k1.trans a2 (by simp)⟩
        have FIN := Lib.hid fin
        clear fin
        rcases hsplit with q | ⟨q, q2⟩ | ⟨q, q2, q3⟩
        · clear hw1
          go_enter Tryd.func35, Tryd.ntmps35
          go_wp2_with fail
          refine RT.out.mono ?_
          rintro e w1 ⟨rfl, rfl⟩
          go_wp2_with fail
          refine NT.out.mono ?_
          rintro e w1 ⟨rfl, hr1, hk1⟩
          have R1 := Lib.hid hr1
          have K1 := Lib.hid hk1
          obtain ⟨S1, h21, h31, h41⟩ := hr1
          have c0' : w1.cell? ⟨rb, 0, none⟩ = some (.string S1) := by simp [World.cell?, h41]
          have c1' : w1.cell? ⟨rb, 1, none⟩ = some (.bool Q.bad) := by simp [World.cell?, h41]
          have f0 : w1.frozen? ⟨rb, 0, none⟩ = false := by simp [World.frozen?, h41]
          have f1 : w1.frozen? ⟨rb, 1, none⟩ = false := by simp [World.frozen?, h41]
          have hsz : Q.rest.length = S1.size := by rw [← h21]; rfl
          clear hk1 h21 h31 h41 c0 hsz
          go_wp2_with fail
          go_ret
          exact FIN.out w1 R1.out K1.out
        · have t0 : decide (top < 0) = false := by simpa using q
          have hw2 := hw1 q
          clear hw1 q
          go_enter Tryd.func35, Tryd.ntmps35
          go_wp2_with fail
          refine RT.out.mono ?_
          rintro e w1 ⟨rfl, rfl⟩
          go_wp2_with fail
          refine NT.out.mono ?_
          rintro e w1 ⟨rfl, hr1, hk1⟩
          have R1 := Lib.hid hr1
          have K1 := Lib.hid hk1
          obtain ⟨S1, h21, h31, h41⟩ := hr1
          have c0' : w1.cell? ⟨rb, 0, none⟩ = some (.string S1) := by simp [World.cell?, h41]
          have c1' : w1.cell? ⟨rb, 1, none⟩ = some (.bool Q.bad) := by simp [World.cell?, h41]
          have f0 : w1.frozen? ⟨rb, 0, none⟩ = false := by simp [World.frozen?, h41]
          have f1 : w1.frozen? ⟨rb, 1, none⟩ = false := by simp [World.frozen?, h41]
          have hsz : Q.rest.length = S1.size := by rw [← h21]; rfl
          clear hk1 h21 h31 h41 c0 hsz
          go_wp2_with fail
          go_ret
          exact FIN.out w1 R1.out K1.out
        · have t0 : decide (top < 0) = false := by simpa using q
          have t1 : decide (top < (n : Int)) = false := by simpa using q2
          have hw2 := hw1 q
          have Q3 := Lib.hid q3
          clear hw1 q q2 q3
          go_enter Tryd.func35, Tryd.ntmps35
          go_wp2_with fail
          refine RT.out.mono ?_
          rintro e w1 ⟨rfl, rfl⟩
          go_wp2_with fail
          refine NT.out.mono ?_
          rintro e w1 ⟨rfl, hr1, hk1⟩
          have R1 := Lib.hid hr1
          have K1 := Lib.hid hk1
          obtain ⟨S1, h21, h31, h41⟩ := hr1
          have c0' : w1.cell? ⟨rb, 0, none⟩ = some (.string S1) := by simp [World.cell?, h41]
          have c1' : w1.cell? ⟨rb, 1, none⟩ = some (.bool Q.bad) := by simp [World.cell?, h41]
          have f0 : w1.frozen? ⟨rb, 0, none⟩ = false := by simp [World.frozen?, h41]
          have f1 : w1.frozen? ⟨rb, 1, none⟩ = false := by simp [World.frozen?, h41]
          have hsz : Q.rest.length = S1.size := by rw [← h21]; rfl
          have t2 : S1.size < n := by rw [← hsz]; exact Q3.out
          have hw3 : IntKind.u64.wrap (S1.size : Int) = (S1.size : Int) := by rw [wrapU]; simp only [maxLen] at h31; omega
          clear hk1 h21 h31 h41 c0 hsz
          go_wp2_with fail
          go_ret
          exact FIN.out w1 R1.out K1.out
      · have N : Hid (R.text top = ({ Q with rest := Q.rest.drop n }, Q.rest.take n)) := Lib.hid (by simp [Rdr.text, hb, hp, hbad])
        have hnt : (n : Int) ≤ top := by omega
        have hnl : n ≤ Q.rest.length := by omega
        have t0 : decide (top < 0) = false := by simp; omega
        have t1 : decide (top < (n : Int)) = false := by simp; omega
        have hw1 : IntKind.u64.wrap top = top := by rw [wrapU]; omega
        have HN := Lib.hid hnl
        clear hb hp ht1 ht2 hbad hnl
        go_enter Tryd.func35, Tryd.ntmps35
        go_wp2_with fail
        refine RT.out.mono ?_
        rintro e w1 ⟨rfl, rfl⟩
        go_wp2_with fail
        refine NT.out.mono ?_
        rintro e w1 ⟨rfl, hr1, hk1⟩
        have R1 := Lib.hid hr1
        have K1 := Lib.hid hk1
        obtain ⟨S1, h21, h31, h41⟩ := hr1
        have c0' : w1.cell? ⟨rb, 0, none⟩ = some (.string S1) := by simp [World.cell?, h41]
        have f0 : w1.frozen? ⟨rb, 0, none⟩ = false := by simp [World.frozen?, h41]
        have hsz : Q.rest.length = S1.size := by rw [← h21]; rfl
        have hn1 : n ≤ S1.size := by rw [← hsz]; exact HN.out
        have t2 : decide (S1.size < n) = false := by simp; omega
        have hw3 : IntKind.u64.wrap (S1.size : Int) = (S1.size : Int) := by rw [wrapU]; simp only [maxLen] at h31; omega
        have S2 := Lib.hid (And.intro h21 h31)
        clear hk1 h21 h31 h41 c0 hsz
        go_wp2_with fail
        go_ret
        rw [N.out]
        have hd := R1.out.dropped (S := S1.extract n S1.size) (by have := S2.out.2; simp only [ByteArray.size_extract]; omega)
        rw [extract_list, S2.out.1] at hd
        refine ⟨⟨_, rfl, by rw [extract_take, S2.out.1], by have := S2.out.2; simp only [ByteArray.size_extract]; omega⟩, hd.1, K1.out.trans hd.2 (by simp)⟩
end

end Go.Proofs.YtgdbpicelnoacaaDoor
