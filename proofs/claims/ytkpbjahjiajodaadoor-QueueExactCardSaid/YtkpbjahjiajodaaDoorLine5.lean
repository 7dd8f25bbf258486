/- This text proves what the line's methods compute, over the loaded program: taking, dropping, spoiling, the list, the counts. -/
import Derived.Test.YtkpbjahjiajodaaDoorLine4
namespace Go.Proofs.YtkpbjahjiajodaaDoor
open Go.RowKit Go.WideShapes

section
variable {w : World} {lb : Nat} {gp : List Nat} {sv : Value} {L : Lin} {A : Nat → Addr}

def Lin.cut (L : Lin) (i : Int) : Lin := { L with ts := L.ts.eraseIdx i.toNat }

/-- out: the i-th one is gone. -/
def OutOf (w : World) (lb : Nat) (gp : List Nat) (L' : Lin) (s : ByteArray) (e : Ending) (w' : World) : Prop := e = .returned (.tuple #[.string s, .nilIface]) ∧ ∃ gp' sv', LAt w' lb gp' sv' L' ∧ Kept (lb :: gp) w w' ∧ gp' = gp

set_option maxRecDepth 100000 in
set_option maxHeartbeats 1600000 in
theorem out_ok (h : LAt w lb gp sv L) (hok : L.ok) (i : Int) (hi : L.has i) :
    Calls Tryd.prog 61 #[.pointer (some ⟨lb, 0, none⟩), .int .i64 i] w (OutOf w lb gp (L.cut i) (L.at i).1) := by
  obtain ⟨j, rfl⟩ : ∃ j : Nat, i = j := ⟨i.toNat, by unfold Lin.has at hi; omega⟩
  have hj : j < L.ts.length := by unfold Lin.has at hi; omega
  obtain ⟨t, ht⟩ : ∃ t, L.ts[j]? = some t := ⟨L.ts[j], by simp [hj]⟩
  have hat : L.at j = t := by simp [Lin.at, List.getD, ht]
  rw [hat]
  obtain ⟨g, o, cap, rfl, hg, hr, hC⟩ := at_ok h hok j hj
  obtain ⟨k, hk⟩ : ∃ k, L.ts.length = k + 1 := ⟨L.ts.length - 1, by omega⟩
  have hk64 : L.ts.length ≤ 64 := by obtain ⟨_, _, _, _, _, _, _, _, _, _, _, _, hk3, _⟩ := hok; exact hk3
  have n0 := now_cell hr ht
  have c1 := h.at1
  have f1 := h.f 1
  rw [hk] at c1 hr hj hk64
  have hD := delete_any k j hr (by omega) (by omega)
  have D := Lib.hid hD
  have CC := Lib.hid hC
  have H := Lib.hid h
  have HG := Lib.hid hg
  have HK := Lib.hid hk
  have b1 : (j : Int) + 1 ≤ 9223372036854775807 := by omega
  have b2 := Lib.hid hj
  obtain ⟨t1, t2⟩ := t
  simp only at n0
  clear h hok hi hat ht hr hC hg hD hk hk64 hj
  go_enter Tryd.func61, Tryd.ntmps61
  go_wp2_with fail
  refine CC.out.mono ?_
  rintro e w1 ⟨rfl, rfl⟩
  go_wp2_with fail
  refine D.out.mono ?_
  rintro e w1 ⟨rfl, hr1, hk1⟩
  have hgl : g ≠ lb := by rintro rfl; exact H.out.ne HG.out
  have hc1 : w1.heap[lb]? = _ := (hk1.block lb H.out.lt (by simpa using hgl.symm)).trans H.out.cell
  have d1 : w1.cell? ⟨lb, 1, none⟩ = some (.slice (some ⟨g, o, none⟩) L.ts.length cap) := by simp [World.cell?, hc1, Lin.cells]
  have e1 : w1.frozen? ⟨lb, 1, none⟩ = false := by simp [World.frozen?, hc1]
  have hl1 : (L.ts.eraseIdx j).length = k := by rw [List.length_eraseIdx, HK.out, if_pos b2.out]; rfl
  have F : Hid (LAt (w1.setCell ⟨lb, 1, none⟩ (.slice (some ⟨g, o, none⟩) k cap)) lb gp (.slice (some ⟨g, o, none⟩) k cap) (L.cut j) ∧ Kept (lb :: gp) w (w1.setCell ⟨lb, 1, none⟩ (.slice (some ⟨g, o, none⟩) k cap))) := by
    refine Lib.hid ⟨⟨?_, ?_, H.out.ne, fun x hx => ?_⟩, ?_⟩
    · rw [heap_setCell_of hc1]; rfl
    · refine .inr ⟨g, o, cap, by show _ = Value.slice _ (L.ts.eraseIdx j).length _; rw [hl1], HG.out, ?_⟩
      show RowAt _ _ _ _ _ _ (L.ts.eraseIdx j).length (textCells (L.ts.eraseIdx j))
      rw [hl1]
      exact hr1.kept (Kept.setCell w1 lb 1 _) (by simpa using hgl)
    · obtain ⟨C, hC⟩ := H.out.typ x hx
      have hxl : x ≠ lb := by rintro rfl; exact H.out.ne hx
      by_cases hxg : x = g
      · subst hxg
        obtain ⟨_, _, _, cur, hb, _⟩ := hr1.kept (Kept.setCell w1 lb 1 (.slice (some ⟨x, o, none⟩) k cap)) (by simpa using hxl)
        exact ⟨cur, hb⟩
      · exact ⟨C, (((hk1.mono (fp' := [g, lb]) (fun y hy => .inl (by simp at hy; simp [hy]))).trans (Kept.setCell w1 lb 1 _) (fun y hy => .inl (by simp at hy; simp [hy]))).block x (Array.getElem?_eq_some_iff.1 hC).1 (by simp [hxg, hxl])).trans hC⟩
    · exact (hk1.mono (fun x hx => .inl (by simp at hx; subst hx; simp [HG.out]))).trans (Kept.setCell w1 lb 1 _) (by simp)
  clear hr1 hk1 hc1 hl1
  go_wp2
  go_ret2
  exact ⟨rfl, gp, _, F.out.1, F.out.2, rfl⟩

/-- What an answer of two leaves that says there is none. -/
def OutNone (w : World) (A : Nat → Addr) (j : Nat) (x : Value) (e : Ending) (w' : World) : Prop := ∃ v, e = .returned (.tuple #[x, v]) ∧ RefT w (A j) (.returned v) w'

theorem out_none (h : LAt w lb gp sv L) (hok : L.ok) (hG : GlobL w A) (i : Int) (hi : ¬ L.has i) :
    Calls Tryd.prog 61 #[.pointer (some ⟨lb, 0, none⟩), .int .i64 i] w (OutNone w A 5 (.string ByteArray.empty)) := by
  have CC := Lib.hid (at_none h hok hG i (not_has hi))
  clear h hG hi hok
  go_enter Tryd.func61, Tryd.ntmps61
  go_wp2_with fail
  refine CC.out.mono ?_
  rintro e w1 ⟨v, rfl, hR⟩
  obtain ⟨v', hv, hw, hb, b, rfl, hs⟩ := id hR
  obtain rfl : v = _ := by simpa using hv
  have O := Lib.hid hR
  clear hR hv hw hb hs
  go_wp2
  go_ret2
  exact ⟨_, rfl, O.out⟩
theorem out_nil (hG : GlobL w A) (i : Int) : Calls Tryd.prog 61 #[.pointer none, .int .i64 i] w (OutNone w A 1 (.string ByteArray.empty)) := by
  have CC := Lib.hid (at_nil hG i)
  clear hG
  go_enter Tryd.func61, Tryd.ntmps61
  go_wp2_with fail
  refine CC.out.mono ?_
  rintro e w1 ⟨v, rfl, hR⟩
  obtain ⟨v', hv, hw, hb, b, rfl, hs⟩ := id hR
  obtain rfl : v = _ := by simpa using hv
  have O := Lib.hid hR
  clear hR hv hw hb hs
  go_wp2
  go_ret2
  exact ⟨_, rfl, O.out⟩

/-- Take. -/
def Lin.take (L : Lin) (i : Int) : Lin × Option Nat := if L.has i then ({ L.cut i with c2 := L.c2 + 1 }, none) else (L, some 5)
def Lin.taken (L : Lin) (i : Int) : ByteArray := if L.has i then (L.at i).1 else ByteArray.empty
def pairS (s : ByteArray) (v : Value) : Value := .tuple #[.string s, v]

set_option maxRecDepth 100000 in
set_option maxHeartbeats 1600000 in
theorem take_any (h : LAt w lb gp sv L) (hok : L.ok) (hG : GlobL w A) (i : Int) :
    Calls Tryd.prog 29 #[.pointer (some ⟨lb, 0, none⟩), .int .i64 i] w (LOut w lb gp A (L.take i).1 (L.take i).2 (pairS (L.taken i))) := by
  unfold Lin.take Lin.taken
  by_cases hi : L.has i
  · rw [if_pos hi, if_pos hi]
    have CC := Lib.hid (out_ok h hok i hi)
    obtain ⟨s, hs⟩ : ∃ s, (L.at i).1 = s := ⟨_, rfl⟩
    rw [hs] at CC ⊢
    obtain ⟨_, _, _, _, k1, k2, _⟩ := hok
    clear h hG hi hs
    go_enter Tryd.func29, Tryd.ntmps29
    go_wp2_with fail
    refine CC.out.mono ?_
    rintro e w1 ⟨rfl, gp', sv', h1, hk1, rfl⟩
    have c2 := h1.at4
    have f2 := h1.f 4
    obtain ⟨c, hc⟩ : ∃ c, L.c2 = c := ⟨_, rfl⟩
    rw [show (L.cut i).c2 = c from hc] at c2
    rw [hc] at k1 k2
    have F : Hid (LLeft w lb gp' { L.cut i with c2 := L.c2 + 1 } (w1.setCell ⟨lb, 4, none⟩ (.int .i64 (c + 1)))) := Lib.hid ⟨gp', sv', h1.setNum 4 _ (by rw [← hc]; rfl) rfl, hk1.trans (Kept.setCell w1 lb 4 _) (by simp), fun x hx => .inl hx⟩
    clear h1 hk1 hc
    go_wp2
    go_ret2
    exact ⟨.nilIface, rfl, rfl, F.out⟩
  · rw [if_neg hi, if_neg hi]
    have CC := Lib.hid (out_none h hok hG i hi)
    have H := Lib.hid h
    clear h hG hi hok
    go_enter Tryd.func29, Tryd.ntmps29
    go_wp2_with fail
    refine CC.out.mono ?_
    rintro e w1 ⟨v, rfl, hR⟩
    obtain ⟨v', hv, hw, hb, b, rfl, hs⟩ := hR
    obtain rfl : v = _ := by simpa using hv
    have O := Lib.hid (show LOut w lb gp A L (some 5) (pairS ByteArray.empty) _ w1 from ⟨_, rfl, ⟨b, rfl, hw, hs⟩, LLeft.same H.out hb⟩)
    clear hv hw hb hs
    go_wp2
    go_ret2
    exact O.out
theorem take_nil (hG : GlobL w A) (i : Int) : Calls Tryd.prog 29 #[.pointer none, .int .i64 i] w (OutNone w A 1 (.string ByteArray.empty)) := by
  have CC := Lib.hid (out_nil hG i)
  clear hG
  go_enter Tryd.func29, Tryd.ntmps29
  go_wp2_with fail
  refine CC.out.mono ?_
  rintro e w1 ⟨v, rfl, hR⟩
  obtain ⟨v', hv, hw, hb, b, rfl, hs⟩ := id hR
  obtain rfl : v = _ := by simpa using hv
  have O := Lib.hid hR
  clear hR hv hw hb hs
  go_wp2
  go_ret2
  exact ⟨_, rfl, O.out⟩

/-- Drop. -/
def Lin.drop (L : Lin) (i : Int) : Lin × Option Nat := if L.has i then ({ L.cut i with c3 := L.c3 + 1 }, none) else (L, some 5)

set_option maxRecDepth 100000 in
set_option maxHeartbeats 1600000 in
theorem drop_any (h : LAt w lb gp sv L) (hok : L.ok) (hG : GlobL w A) (i : Int) :
    Calls Tryd.prog 32 #[.pointer (some ⟨lb, 0, none⟩), .int .i64 i] w (LOut w lb gp A (L.drop i).1 (L.drop i).2 id) := by
  unfold Lin.drop
  by_cases hi : L.has i
  · rw [if_pos hi]
    have CC := Lib.hid (out_ok h hok i hi)
    obtain ⟨s, hs⟩ : ∃ s, (L.at i).1 = s := ⟨_, rfl⟩
    rw [hs] at CC
    obtain ⟨_, _, _, _, _, _, k1, k2, _⟩ := hok
    clear h hG hi hs
    go_enter Tryd.func32, Tryd.ntmps32
    go_wp2_with fail
    refine CC.out.mono ?_
    rintro e w1 ⟨rfl, gp', sv', h1, hk1, rfl⟩
    have c2 := h1.at5
    have f2 := h1.f 5
    obtain ⟨c, hc⟩ : ∃ c, L.c3 = c := ⟨_, rfl⟩
    rw [show (L.cut i).c3 = c from hc] at c2
    rw [hc] at k1 k2
    have F : Hid (LLeft w lb gp' { L.cut i with c3 := L.c3 + 1 } (w1.setCell ⟨lb, 5, none⟩ (.int .i64 (c + 1)))) := Lib.hid ⟨gp', sv', h1.setNum 5 _ (by rw [← hc]; rfl) rfl, hk1.trans (Kept.setCell w1 lb 5 _) (by simp), fun x hx => .inl hx⟩
    clear h1 hk1 hc
    go_wp2
    go_ret
    exact ⟨.nilIface, rfl, rfl, F.out⟩
  · rw [if_neg hi]
    have CC := Lib.hid (out_none h hok hG i hi)
    have H := Lib.hid h
    clear h hG hi hok
    go_enter Tryd.func32, Tryd.ntmps32
    go_wp2_with fail
    refine CC.out.mono ?_
    rintro e w1 ⟨v, rfl, hR⟩
    obtain ⟨v', hv, hw, hb, b, rfl, hs⟩ := hR
    obtain rfl : v = _ := by simpa using hv
    have O := Lib.hid (show LOut w lb gp A L (some 5) id _ w1 from ⟨_, rfl, ⟨b, rfl, hw, hs⟩, LLeft.same H.out hb⟩)
    clear hv hw hb hs
    go_wp2
    go_ret
    exact O.out
theorem drop_nil (hG : GlobL w A) (i : Int) : Calls Tryd.prog 32 #[.pointer none, .int .i64 i] w (RefT w (A 1)) := by
  have CC := Lib.hid (out_nil hG i)
  clear hG
  go_enter Tryd.func32, Tryd.ntmps32
  go_wp2_with fail
  refine CC.out.mono ?_
  rintro e w1 ⟨v, rfl, hR⟩
  obtain ⟨v', hv, hw, hb, b, rfl, hs⟩ := id hR
  obtain rfl : v = _ := by simpa using hv
  have O := Lib.hid hR
  clear hR hv hw hb hs
  go_wp2
  go_ret
  exact O.out
theorem double_nil (hG : GlobL w A) (i : Int) : Calls Tryd.prog 28 #[.pointer none, .int .i64 i] w (RefT w (A 1)) := by
  have CC := Lib.hid (at_nil hG i)
  clear hG
  go_enter Tryd.func28, Tryd.ntmps28
  go_wp2_with fail
  refine CC.out.mono ?_
  rintro e w1 ⟨v, rfl, hR⟩
  obtain ⟨v', hv, hw, hb, b, rfl, hs⟩ := id hR
  obtain rfl : v = _ := by simpa using hv
  have O := Lib.hid hR
  clear hR hv hw hb hs
  go_wp2
  go_ret
  exact O.out

end

end Go.Proofs.YtkpbjahjiajodaaDoor
