/- This text proves what the line's methods compute, over the loaded program: doubling, taking, dropping, whether one is clean. -/
import Derived.Test.YtkpbjahjiajodaaDoorLine2
namespace Go.Proofs.YtkpbjahjiajodaaDoor
open Go.RowKit Go.WideShapes

section
variable {w : World} {lb : Nat} {gp : List Nat} {sv : Value} {L : Lin} {A : Nat → Addr}

/-- Double. -/
def Lin.has (L : Lin) (i : Int) : Prop := 0 ≤ i ∧ i < L.ts.length
instance (L : Lin) (i : Int) : Decidable (L.has i) := inferInstanceAs (Decidable (_ ∧ _))
def Lin.at (L : Lin) (i : Int) : ByteArray × ByteArray := L.ts.getD i.toNat (ByteArray.empty, ByteArray.empty)
def Lin.double (L : Lin) (i : Int) : Lin × Option Nat := if L.has i then L.addR { L.push (L.at i) with c4 := L.c4 + 1 } else (L, some 5)

theorem not_has {L : Lin} {i : Int} (h : ¬ L.has i) : i < 0 ∨ (L.ts.length : Int) ≤ i := by unfold Lin.has at h; omega

theorem now_cell {g o cap n i : Nat} {ts : List (ByteArray × ByteArray)} {t : ByteArray × ByteArray} (hr : RowAt w 100 2 g o cap n (textCells ts)) (h : ts[i]? = some t) : w.cell? ⟨g, o + i * 2, none⟩ = some (.string t.1) := hr.cell _ _ (textCells_now ts i t h)
theorem was_cell {g o cap n i : Nat} {ts : List (ByteArray × ByteArray)} {t : ByteArray × ByteArray} (hr : RowAt w 100 2 g o cap n (textCells ts)) (h : ts[i]? = some t) : w.cell? ⟨g, o + i * 2 + 1, none⟩ = some (.string t.2) := hr.cell _ _ (textCells_was ts i t h)

theorem LLeft.undrew {k : Nat} {w' : World} {L' : Lin} (h : LLeft (w.drewN k) lb gp L' w') : LLeft w lb gp L' w' := by
  obtain ⟨gp', sv', h1, h2, h3⟩ := h
  exact ⟨gp', sv', h1, (Kept.drewN _ w k).trans h2 (fun x hx => .inl hx), h3⟩

set_option maxRecDepth 100000 in
set_option maxHeartbeats 1600000 in
theorem double_any (h : LAt w lb gp sv L) (hok : L.ok) (hG : GlobL w A) (i : Int) :
    Calls Tryd.prog 28 #[.pointer (some ⟨lb, 0, none⟩), .int .i64 i] w (LOut w lb gp A (L.double i).1 (L.double i).2 id) := by
  unfold Lin.double
  by_cases hi : L.has i
  · rw [if_pos hi]
    obtain ⟨j, rfl⟩ : ∃ j : Nat, i = j := ⟨i.toNat, by unfold Lin.has at hi; omega⟩
    have hj : j < L.ts.length := by unfold Lin.has at hi; omega
    obtain ⟨t, ht⟩ : ∃ t, L.ts[j]? = some t := ⟨L.ts[j], by simp [hj]⟩
    have hat : L.at j = t := by simp [Lin.at, List.getD, ht]
    obtain ⟨g, o, cap, rfl, hg, hr, hC⟩ := at_ok h hok j hj
    have n0 := now_cell hr ht
    have n1 := was_cell hr ht
    have hadd := fun k => add_any (h.drewN k) hok (hG.drewN k) t.1 t.2 6 (.inr rfl) L.c4 (h.drewN k).at6 hok.2.2.2.2.2.2.2.2.1 hok.2.2.2.2.2.2.2.2.2.1 { L.push t with c4 := L.c4 + 1 } (fun sv => rfl) rfl
    rw [hat]
    have AD := Lib.hid hadd
    have CC := Lib.hid hC
    obtain ⟨t1, t2⟩ := t
    simp only at n0 n1
    clear h hG hi hj hok hadd hat ht hr hC hg
    go_enter Tryd.func28, Tryd.ntmps28
    go_wp2_with fail
    refine CC.out.mono ?_
    rintro e w1 ⟨rfl, rfl⟩
    go_wp2_with fail
    go_still_tail 8, (by kernel_rfl)
    go_wp2_with fail
    refine (AD.out 1).mono ?_
    rintro e w1 hR
    obtain ⟨v, rfl, hv, hl⟩ := hR
    have O : Hid (LOut w lb gp A (L.addR { L.push (t1, t2) with c4 := L.c4 + 1 }).1 (L.addR { L.push (t1, t2) with c4 := L.c4 + 1 }).2 id (.returned v) w1) := Lib.hid ⟨v, rfl, hv, hl.undrew⟩
    clear hv hl
    go_wp2
    go_ret
    exact O.out
  · rw [if_neg hi]
    have hC := at_none h hok hG i (not_has hi)
    have CC := Lib.hid hC
    have H := Lib.hid h
    clear h hG hi hok hC
    go_enter Tryd.func28, Tryd.ntmps28
    go_wp2_with fail
    refine CC.out.mono ?_
    rintro e w1 ⟨v, rfl, hR⟩
    obtain ⟨v', hv, hw, hb, b, rfl, hs⟩ := id hR
    obtain rfl : v = _ := by simpa using hv
    have O := Lib.hid (LOut.of_refused (A := A) (j := 5) rfl H.out hR)
    clear hR hv hw hb hs
    go_wp2
    go_ret
    exact O.out

theorem bytes_eq (x y : ByteArray) : (x.toList == y.toList) = decide (x = y) := by
  by_cases e : x = y
  · subst e; simp
  · rw [decide_eq_false e]
    simp only [ByteArray.toList_eq, beq_eq_false_iff_ne, ne_eq]
    exact fun h => e (ByteArray.ext (Array.toList_inj.1 h))

/-- Clean. -/
def Lin.clean (L : Lin) (i : Int) : Bool := decide (L.has i) && decide ((L.at i).1 = (L.at i).2)

set_option maxRecDepth 100000 in
theorem clean_any (h : LAt w lb gp sv L) (hok : L.ok) (hG : GlobL w A) (i : Int) :
    Calls Tryd.prog 31 #[.pointer (some ⟨lb, 0, none⟩), .int .i64 i] w (fun e w' => e = .returned (.bool (L.clean i)) ∧ Below w.heap.size w w') := by
  unfold Lin.clean
  by_cases hi : L.has i
  · obtain ⟨j, rfl⟩ : ∃ j : Nat, i = j := ⟨i.toNat, by unfold Lin.has at hi; omega⟩
    have hj : j < L.ts.length := by unfold Lin.has at hi; omega
    obtain ⟨t, ht⟩ : ∃ t, L.ts[j]? = some t := ⟨L.ts[j], by simp [hj]⟩
    have hat : L.at j = t := by simp [Lin.at, List.getD, ht]
    obtain ⟨g, o, cap, rfl, hg, hr, hC⟩ := at_ok h hok j hj
    have n0 := now_cell hr ht
    have n1 := was_cell hr ht
    have e1 : (decide (L.has j) && decide ((L.at j).1 = (L.at j).2)) = decide (t.1 = t.2) := by rw [hat]; simp [hi]
    rw [e1]
    have CC := Lib.hid hC
    obtain ⟨t1, t2⟩ := t
    simp only at n0 n1 ⊢
    clear h hG hi hj hok hat ht hr hC hg e1
    go_enter Tryd.func31, Tryd.ntmps31
    go_wp2_with fail
    refine CC.out.mono ?_
    rintro e w1 ⟨rfl, rfl⟩
    go_wp2_with fail
    go_quiet (fail)
    go_wp2
    go_ret
    exact ⟨by rw [← bytes_eq]; rfl, ⟨rfl, rfl, rfl, Nat.le_refl _, fun _ _ => rfl⟩⟩
  · have e1 : (decide (L.has i) && decide ((L.at i).1 = (L.at i).2)) = false := by simp [hi]
    rw [e1]
    have hC := at_none h hok hG i (not_has hi)
    have CC := Lib.hid hC
    clear h hG hi hok hC e1
    go_enter Tryd.func31, Tryd.ntmps31
    go_wp2_with fail
    refine CC.out.mono ?_
    rintro e w1 ⟨v, rfl, hR⟩
    obtain ⟨v', hv, hw, hb, b, rfl, hs⟩ := hR
    obtain rfl : v = _ := by simpa using hv
    have O := Lib.hid hb
    clear hv hw hb hs
    go_wp2_with fail
    go_quiet (fail)
    go_wp2
    go_ret
    exact ⟨rfl, O.out.trans ⟨rfl, rfl, rfl, Nat.le_refl _, fun _ _ => rfl⟩⟩
theorem clean_nil (hG : GlobL w A) (i : Int) : Calls Tryd.prog 31 #[.pointer none, .int .i64 i] w (fun e w' => e = .returned (.bool false) ∧ Below w.heap.size w w') := by
  have CC := Lib.hid (at_nil hG i)
  clear hG
  go_enter Tryd.func31, Tryd.ntmps31
  go_wp2_with fail
  refine CC.out.mono ?_
  rintro e w1 ⟨v, rfl, hR⟩
  obtain ⟨v', hv, hw, hb, b, rfl, hs⟩ := hR
  obtain rfl : v = _ := by simpa using hv
  have O := Lib.hid hb
  clear hv hw hb hs
  go_wp2_with fail
  go_quiet (fail)
  go_wp2
  go_ret
  exact ⟨rfl, O.out.trans ⟨rfl, rfl, rfl, Nat.le_refl _, fun _ _ => rfl⟩⟩

end

end Go.Proofs.YtkpbjahjiajodaaDoor
