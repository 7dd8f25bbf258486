/- This text proves what the reference's line does when a text is sent or doubled, over the loaded program. -/
import Derived.Test.YtkpbjahjiajodaaDoorRLine5
namespace Go.Proofs.YtkpbjahjiajodaaDoor
open Go.RowKit Go.WideShapes

/-- The number of an answer. -/
def refNum : Option Nat → Nat
  | none => 0
  | some 0 => 1
  | some 1 => 2
  | some 4 => 6
  | some 5 => 7
  | some 6 => 4
  | some _ => 0

section
variable {w : World} {rb : Nat} {sv : Value} {L : Lin}

theorem rsend_any (h : RAt w rb sv L) (hok : L.ok) (s : ByteArray) (hs : s.size ≤ maxLen) :
    Calls Tryd.prog 39 #[.pointer (some ⟨rb, 0, none⟩), .string s] w (RDone w rb (L.send s).1 (.int .i64 (refNum (L.send s).2))) := by
  unfold Lin.send
  simp only [maxLen] at hs
  by_cases hl : 512 < s.size
  · rw [if_pos hl]
    have hl' : (512 : Int) < (s.size : Int) := by omega
    have H := Lib.hid h
    clear h hl hok
    go_enter Tryd.func39, Tryd.ntmps39
    go_wp2_with fail
    go_ret
    exact ⟨rfl, _, H.out, Kept.refl _ _⟩
  · rw [if_neg hl]
    have hl' : (s.size : Int) ≤ (512 : Int) := by omega
    have AD : Hid (Calls Tryd.prog 65 #[.pointer (some ⟨rb, 0, none⟩), .agg #[.string s, .string s], .int .i64 0] w (RDone w rb (L.addR { L.push (s, s) with c0 := L.c0 + 1 }).1 (.int .i64 (refNum (L.addR { L.push (s, s) with c0 := L.c0 + 1 }).2)))) := Lib.hid (by
      unfold Lin.addR
      by_cases hf : L.most ≤ L.ts.length
      · rw [if_pos hf]; exact radd_full h hok s s 0 hf
      · rw [if_neg hf]; exact radd_room0 h hok s s (by omega))
    clear h hl hok
    go_enter Tryd.func39, Tryd.ntmps39
    go_wp2_with fail
    refine AD.out.mono ?_
    rintro e w1 ⟨rfl, hR⟩
    have O := Lib.hid hR
    clear hR
    go_wp2
    go_ret
    exact ⟨rfl, O.out⟩

set_option maxRecDepth 100000 in
set_option maxHeartbeats 1600000 in
theorem rdouble_any (h : RAt w rb sv L) (hok : L.ok) (i : Int) :
    Calls Tryd.prog 41 #[.pointer (some ⟨rb, 0, none⟩), .int .i64 i] w (RDone w rb (L.double i).1 (.int .i64 (refNum (L.double i).2))) := by
  unfold Lin.double
  by_cases hi : L.has i
  · rw [if_pos hi]
    obtain ⟨j, rfl⟩ : ∃ j : Nat, i = j := ⟨i.toNat, by unfold Lin.has at hi; omega⟩
    have hj : j < L.ts.length := by unfold Lin.has at hi; omega
    obtain ⟨t, ht⟩ : ∃ t, L.ts[j]? = some t := ⟨L.ts[j], by simp [hj]⟩
    have hat : L.at j = t := by simp [Lin.at, List.getD, ht]
    have HAS := Lib.hid (rhas_yes h (j : Int) hi)
    obtain ⟨g, o, cap, rfl, hr⟩ : ∃ g o cap, sv = .slice (some ⟨g, o, none⟩) L.ts.length cap ∧ RowAt w 79 2 g o cap L.ts.length (textCells L.ts) := by
      rcases h.row with ⟨_, h2, _⟩ | h
      · omega
      · exact h
    obtain ⟨n0, n1⟩ := rnow_cell hr ht
    have c1 := h.at1
    obtain ⟨l, hll⟩ : ∃ l, L.ts.length = l := ⟨_, rfl⟩
    rw [hll] at c1 hj
    have j0 : (0 : Int) ≤ (j : Int) := by omega
    have j1 : (j : Int) < (l : Int) := by omega
    rw [hat]
    obtain ⟨t1, t2⟩ := t
    have AD : Hid (∀ k, Calls Tryd.prog 65 #[.pointer (some ⟨rb, 0, none⟩), .agg #[.string t1, .string t2], .int .i64 4] (w.drewN k) (RDone (w.drewN k) rb (L.addR { L.push (t1, t2) with c4 := L.c4 + 1 }).1 (.int .i64 (refNum (L.addR { L.push (t1, t2) with c4 := L.c4 + 1 }).2)))) := Lib.hid (fun k => by
      have h' : RAt (w.drewN k) rb _ L := h.below ⟨rfl, rfl, rfl, Nat.le_refl _, fun _ _ => rfl⟩
      unfold Lin.addR
      by_cases hf : L.most ≤ L.ts.length
      · rw [if_pos hf]; exact radd_full h' hok t1 t2 4 hf
      · rw [if_neg hf]; exact radd_room4 h' hok t1 t2 (by omega))
    simp only at n0 n1
    clear h hi hj hok hat ht hr hll
    go_enter Tryd.func41, Tryd.ntmps41
    go_wp2_with fail
    refine HAS.out.mono ?_
    rintro e w1 ⟨rfl, rfl⟩
    go_wp2_with fail
    refine (AD.out 0).mono ?_
    rintro e w1 ⟨rfl, sv', hR, hk⟩
    have O := Lib.hid (show RDone w rb _ (.int .i64 (refNum (L.addR { L.push (t1, t2) with c4 := L.c4 + 1 }).2)) (.returned (.int .i64 (refNum (L.addR { L.push (t1, t2) with c4 := L.c4 + 1 }).2))) w1 from ⟨rfl, sv', hR, (Kept.drewN _ w 0).trans hk (by simp)⟩)
    clear hR hk
    go_wp2
    go_ret
    exact O.out
  · rw [if_neg hi]
    have HAS := Lib.hid (rhas_no h i hi)
    have H := Lib.hid h
    clear h hi hok
    go_enter Tryd.func41, Tryd.ntmps41
    go_wp2_with fail
    refine HAS.out.mono ?_
    rintro e w1 ⟨rfl, rfl⟩
    go_wp2
    go_ret
    exact ⟨rfl, _, H.out, Kept.refl _ _⟩
end

end Go.Proofs.YtkpbjahjiajodaaDoor
