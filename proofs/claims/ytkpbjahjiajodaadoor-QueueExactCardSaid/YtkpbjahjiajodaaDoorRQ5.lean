/- This text proves what the reference's queue does when a guess is used, over the loaded program. -/
import Derived.Test.YtkpbjahjiajodaaDoorRQ4
namespace Go.Proofs.YtkpbjahjiajodaaDoor
open Go.RowKit Go.WideShapes
set_option linter.unusedSimpArgs false

theorem src_guess (w : World) (a b : Int) : Src Tryd.prog 2 86 (.slice (some ⟨w.heap.size, 0, none⟩) 1 1) 1 [.int .i64 a, .int .i64 b] (w.alloc (.cells #[.int .i64 a, .int .i64 b] 112)) :=
  Src.ofSlice _ Tryd.underlying86 _ 1 1 _ rfl (fun j u hj => by
    rw [add_plain, World.cell?_alloc_new]
    match j, hj with
    | 0, hj => cases hj; rfl
    | 1, hj => cases hj; rfl
    | j + 2, hj => cases hj) (fun u hu => by simp at hu; rcases hu with rfl | rfl <;> rfl)

/-- The guesses when one is used. -/
def useG (q : Que) (G : List (Int × Int)) (f : Int) : List (Int × Int) := if (q.get f).2 = false ∧ q.first ≤ f ∧ f ≤ 1073741824 then G.filter (fun p => p.1 != f) ++ [(f, (q.get f).1)] else G

section
variable {w : World} {rb : Nat} {fp : List Nat} {sv gv : Value} {q : Que} {G : List (Int × Int)}

theorem rquse_miss (h : RqAt w rb fp sv gv q G) (hok : q.ok) (f : Int) (hm : (q.get f).2 = true ∨ f < q.first ∨ 1073741824 < f) :
    Calls Tryd.prog 48 #[.pointer (some ⟨rb, 0, none⟩), .int .i64 f] w (RqDone w rb fp (q.use f) (useG q G f) (.tuple #[.int .i64 (q.get f).1, .bool (q.get f).2])) := by
  have hu : useG q G f = G := by
    unfold useG
    rw [if_neg]
    rintro ⟨h1, h2, h3⟩
    rcases hm with h | h | h
    · rw [h1] at h; cases h
    · omega
    · omega
  rw [use_miss hm, hu]
  have GE := Lib.hid (rqget_any h hok f)
  have ok1 := hok.1
  have H := Lib.hid h
  have c0 := h.c0
  obtain ⟨fst, hfst⟩ : ∃ x, q.first = x := ⟨_, rfl⟩
  rw [hfst] at c0 hm ok1
  obtain ⟨n, hn⟩ : ∃ x, (q.get f).1 = x := ⟨_, rfl⟩
  obtain ⟨b, hb⟩ : ∃ x, (q.get f).2 = x := ⟨_, rfl⟩
  rw [hn, hb] at GE ⊢
  rw [hb] at hm
  clear h hok hfst hn hb hu
  have FIN := Lib.hid (fun k => show RqDone w rb fp q G (.tuple #[.int .i64 n, .bool b]) (.returned (.tuple #[.int .i64 n, .bool b])) (w.drewN k) from ⟨rfl, fp, sv, gv, H.out.drewN k, Kept.drewN _ w k, fun x hx => .inl hx⟩)
  by_cases e0 : b = true
  · subst e0
    clear hm
    go_enter Tryd.func48, Tryd.ntmps48
    go_wp2_with fail
    refine GE.out.mono ?_
    rintro e w1 ⟨rfl, k, rfl⟩
    go_wp2
    go_ret2
    exact FIN.out _
  obtain rfl : b = false := by simpa using e0
  by_cases e1 : f < 1
  · have t1 : decide (f < 1) = true := by simpa using e1
    clear hm e1 e0
    go_enter Tryd.func48, Tryd.ntmps48
    go_wp2_with fail
    refine GE.out.mono ?_
    rintro e w1 ⟨rfl, k, rfl⟩
    go_wp2
    go_ret2
    exact FIN.out _
  have t1 : decide (f < 1) = false := by simpa using e1
  by_cases e2 : 1073741824 < f
  · have t2 : decide (1073741824 < f) = true := by simpa using e2
    clear hm e1 e0 e2
    go_enter Tryd.func48, Tryd.ntmps48
    go_wp2_with fail
    refine GE.out.mono ?_
    rintro e w1 ⟨rfl, k, rfl⟩
    go_wp2
    go_ret2
    exact FIN.out _
  have t2 : decide (1073741824 < f) = false := by simpa using e2
  have t3 : decide (f < fst) = true := by
    rcases hm with h | h | h
    · cases h
    · simpa using h
    · exact absurd h e2
  clear hm e1 e0 e2
  go_enter Tryd.func48, Tryd.ntmps48
  go_wp2_with fail
  refine GE.out.mono ?_
  rintro e w1 ⟨rfl, k, rfl⟩
  go_wp2
  go_ret2
  exact FIN.out _

set_option maxRecDepth 100000 in
set_option maxHeartbeats 1600000 in
theorem rquse_hit (h : RqAt w rb fp sv gv q G) (hok : q.ok) (hG : G.length ≤ 1000000) (f : Int) (h0 : (q.get f).2 = false) (h1 : q.first ≤ f) (h2 : f ≤ 1073741824) :
    Calls Tryd.prog 48 #[.pointer (some ⟨rb, 0, none⟩), .int .i64 f] w (RqDone w rb fp (q.use f) (useG q G f) (.tuple #[.int .i64 (q.get f).1, .bool (q.get f).2])) := by
  have hu : useG q G f = G.filter (fun p => p.1 != f) ++ [(f, (q.get f).1)] := by unfold useG; rw [if_pos ⟨h0, h1, h2⟩]
  rw [hu]
  have GE := Lib.hid (rqget_any h hok f)
  have USE := Lib.hid (use_hit h0 h1 h2)
  have ok1 := hok.1
  have H := Lib.hid h
  have c0 := h.c0
  obtain ⟨fst, hfst⟩ : ∃ x, q.first = x := ⟨_, rfl⟩
  have FST := Lib.hid hfst
  rw [hfst] at c0 h1 ok1
  obtain ⟨x, hx⟩ : ∃ x, (q.get f).1 = x := ⟨_, rfl⟩
  rw [hx, h0] at GE ⊢
  obtain ⟨B, gcap, hgv⟩ := h.gs.lens
  obtain ⟨n, hn⟩ : ∃ n, G.length = n := ⟨_, rfl⟩
  have HN := Lib.hid hn
  rw [hn] at hgv hG
  subst hgv
  obtain ⟨T, hT⟩ : ∃ T, G.filter (fun p => p.1 != f) = T := ⟨_, rfl⟩
  have HT := Lib.hid hT
  rw [hT]
  have t1 : decide (f < 1) = false := by simp; omega
  have t2 : decide (1073741824 < f) = false := by simp; omega
  have t3 : decide (f < fst) = false := by simp; omega
  have hlt := h.lt
  clear h hok hfst hx hu h0 hn hT
  go_enter Tryd.func48, Tryd.ntmps48
  go_wp2_with fail
  refine GE.out.mono ?_
  rintro e w1 ⟨rfl, k, rfl⟩
  obtain ⟨V, hV⟩ : ∃ V, V = w.drewN k := ⟨_, rfl⟩
  rw [← hV]
  have HV : Hid (RqAt V rb fp sv (.slice B n gcap) q G) := Lib.hid (by rw [hV]; exact H.out.drewN k)
  have BV : Hid (Below w.heap.size w V) := Lib.hid (by rw [hV]; exact ⟨rfl, rfl, rfl, Nat.le_refl _, fun _ _ => rfl⟩)
  have c0 := HV.out.c0
  rw [FST.out] at c0
  have R0 : Hid (RowN (V.alloc (.cells #[] 112)) 112 2 [V.heap.size] (.slice (some ⟨V.heap.size, 0, none⟩) 0 0) 0 []) := Lib.hid (.inr ⟨_, _, _, rfl, by simp, row_empty V 112 2⟩)
  clear hV
  dsimp only
  go_wp2_with fail
  go_loopw [8, 9] (fun ov iv wz => ∃ i : Nat, i ≤ n ∧ iv = .int .i64 i ∧ ∃ gp gs, RowN wz 112 2 gp ov gs.length (gCells gs) ∧ (∀ x ∈ gp, w.heap.size ≤ x) ∧ Below w.heap.size w wz ∧ gs.length ≤ i ∧ gs ++ (G.drop i).filter (fun p => p.1 != f) = T) (fun _ iv _ => n - (intOf iv).toNat)
  case atStart => exact ⟨0, Nat.zero_le _, rfl, [V.heap.size], [], R0.out, by simp; exact BV.out.size, BV.out.alloc BV.out.size _, Nat.le_refl _, by have := HT.out; simpa using this⟩
  case round =>
    obtain ⟨i, hi, rfl, gp, gs, hR, hgp, hB, hgl, hP⟩ := hrel
    have HW := Lib.hid (H.out.below hB)
    have d2 := HW.out.c2
    have RR := Lib.hid hR
    have GP := Lib.hid hgp
    have BB := Lib.hid hB
    have PP := Lib.hid hP
    clear hR hgp hB hP
    by_cases hin : i < n
    · obtain ⟨p, hp⟩ : ∃ p, G[i]? = some p := ⟨G[i]'(by rw [HN.out]; exact hin), by simp [HN.out, hin]⟩
      obtain ⟨ga, gb⟩ := gCells_at G i p hp
      obtain ⟨gg, go, gc, hBe, _, m0⟩ := HW.out.gs.at _ _ ga
      obtain ⟨gg', go', gc', hBe', _, m1⟩ := HW.out.gs.at _ _ gb
      rw [HN.out] at hBe hBe'
      cases hBe
      cases hBe'
      rw [← Nat.add_assoc] at m1
      have hd : G.drop i = p :: G.drop (i + 1) := by
        obtain ⟨h1, h2⟩ := List.getElem?_eq_some_iff.1 hp
        rw [List.drop_eq_getElem_cons h1, h2]
      have hi0 : (0 : Int) ≤ (i : Int) := by omega
      have hi1 : (i : Int) < (n : Int) := by omega
      have ei : IntKind.i64.wrap ((i : Int) + 1) = (i : Int) + 1 := IntWalk.i64_in _ (by omega)
      obtain ⟨p1, p2⟩ := p
      simp only at m0 m1
      by_cases a1 : p1 = f
      · have PS : Hid (gs ++ (G.drop (i + 1)).filter (fun p => p.1 != f) = T) := Lib.hid (by
          have := PP.out
          rw [hd, List.filter_cons, if_neg (by simp [a1])] at this
          exact this)
        have q1 : (p1 != f) = false := by simpa using a1
        clear hp ga gb hd PP a1
        go_wp2_with fail
        exact ⟨⟨i + 1, by omega, by go_num, gp, gs, RR.out, GP.out, BB.out, by omega, PS.out⟩, by simp [intOf]; omega⟩
      · have PS : Hid ((gs ++ [(p1, p2)]) ++ (G.drop (i + 1)).filter (fun p => p.1 != f) = T) := Lib.hid (by
          have := PP.out
          rw [hd, List.filter_cons, if_pos (by simpa using a1)] at this
          rw [← this, List.append_assoc]
          rfl)
        have q1 : (p1 != f) = true := by simpa using a1
        have RA := Lib.hid (RR.out.kept (Kept.alloc wr (.cells #[.int .i64 p1, .int .i64 p2] 112)) (by simp))
        have sp := src_guess wr p1 p2
        clear hp ga gb hd PP a1
        go_wp2_with (first
          | (at_builtin; refine wpList_append_rown rfl _ _ 86 86 rfl 112 (.agg #[.int .i64 0, .int .i64 0]) 2 16 Tryd.underlying86 info112 rfl gs.length (gCells gs) rfl RA.out _ rfl 1 [.int .i64 p1, .int .i64 p2] sp (by omega) (by simp [maxLen]; omega) (by omega) ?_; intro g1 o1 cap1 w1 hr1 hk1 hg1)
          | fail)
        refine ⟨⟨i + 1, by omega, by go_num, [g1], gs ++ [(p1, p2)], .inr ⟨g1, o1, cap1, by simp, by simp, by rw [gCells_append, List.length_append]; exact hr1⟩, ?_, ?_, by simp; omega, PS.out⟩, by simp [intOf]; omega⟩
        · intro x hx
          simp at hx
          subst hx
          rcases hg1 with h | h
          · exact GP.out _ h
          · have := BB.out.size
            simp at h
            omega
        · have b1 := BB.out.alloc BB.out.size (.cells #[.int .i64 p1, .int .i64 p2] 112)
          exact below_kept b1 hk1 GP.out (Nat.le_refl _)
    · have hi2 : (n : Int) ≤ (i : Int) := by omega
      have PE : gs = T := by
        have := PP.out
        rw [List.drop_of_length_le (by rw [HN.out]; omega)] at this
        simpa using this
      subst PE
      have RA := Lib.hid (RR.out.kept (Kept.alloc wr (.cells #[.int .i64 f, .int .i64 x] 112)) (by simp))
      have sp := src_guess wr f x
      have XF := Lib.hid (fun w2 (hk : Kept gp (wr.alloc (.cells #[.int .i64 f, .int .i64 x] 112)) w2) => H.out.below (below_kept (BB.out.alloc BB.out.size (.cells #[.int .i64 f, .int .i64 x] 112)) hk GP.out (Nat.le_refl _)))
      clear hin
      go_wp2_with (first
        | (at_builtin; refine wpList_append_rown rfl _ _ 86 86 rfl 112 (.agg #[.int .i64 0, .int .i64 0]) 2 16 Tryd.underlying86 info112 rfl gs.length (gCells gs) rfl RA.out _ rfl 1 [.int .i64 f, .int .i64 x] sp (by omega) (by simp [maxLen]; omega) (by omega) ?_; intro g1 o1 cap1 w1 hr1 hk1 hg1; have hX := XF.out _ hk1; have d1 := hX.c2; have f1 := hX.f 2)
        | fail)
      have hg1w : w.heap.size ≤ g1 ∧ g1 < w1.heap.size := by
        refine ⟨?_, hr1.lt⟩
        rcases hg1 with h | h
        · exact GP.out _ h
        · have := BB.out.size
          simp at h
          omega
      have hlt := H.out.lt
      have b1 : Below w.heap.size w w1 := below_kept (BB.out.alloc BB.out.size (.cells #[.int .i64 f, .int .i64 x] 112)) hk1 GP.out (Nat.le_refl _)
      have F : RqAt (w1.setCell ⟨rb, 2, none⟩ (.slice (some ⟨g1, o1, none⟩) (gs.length + 1) cap1)) rb (g1 :: fp) sv (.slice (some ⟨g1, o1, none⟩) (gs.length + 1) cap1) (q.use f) (gs ++ [(f, x)]) := by
        rw [USE.out]
        refine hX.set 2 _ rfl (hX.row.fpMono (by simp; exact fun x hx => .inr hx)) (.inr ⟨g1, o1, cap1, by simp, by simp, by rw [gCells_append, List.length_append]; exact hr1⟩) (by simp; exact ⟨by omega, hX.ne⟩) ?_
        intro y hy
        simp at hy
        rcases hy with rfl | hy
        · exact hg1w.2
        · exact hX.small y hy
      have FF : Hid (RqDone w rb fp (q.use f) (gs ++ [(f, x)]) (.tuple #[.int .i64 x, .bool false]) (.returned (.tuple #[.int .i64 x, .bool false])) (w1.setCell ⟨rb, 2, none⟩ (.slice (some ⟨g1, o1, none⟩) (gs.length + 1) cap1))) := Lib.hid
        ⟨rfl, g1 :: fp, sv, _, F, (Kept.of_below b1).trans (Kept.setCell w1 rb 2 _) (by simp), fun y hy => by
          simp at hy
          rcases hy with rfl | hy
          · exact .inr hg1w.1
          · exact .inl hy⟩
      go_ret2
      exact FF.out

theorem rquse_any (h : RqAt w rb fp sv gv q G) (hok : q.ok) (hG : G.length ≤ 1000000) (f : Int) :
    Calls Tryd.prog 48 #[.pointer (some ⟨rb, 0, none⟩), .int .i64 f] w (RqDone w rb fp (q.use f) (useG q G f) (.tuple #[.int .i64 (q.get f).1, .bool (q.get f).2])) := by
  by_cases hm : (q.get f).2 = true ∨ f < q.first ∨ 1073741824 < f
  · exact rquse_miss h hok f hm
  · have h0 : (q.get f).2 = false := by
      cases hb : (q.get f).2
      · rfl
      · exact absurd (.inl hb) hm
    exact rquse_hit h hok hG f h0 (by omega) (by omega)
end

end Go.Proofs.YtkpbjahjiajodaaDoor
