/- This text proves what the reference's line does with a text more, over the loaded program. -/
import Derived.Test.YtkpbjahjiajodaaDoorRLine2
namespace Go.Proofs.YtkpbjahjiajodaaDoor
open Go.RowKit Go.WideShapes
set_option linter.unusedSimpArgs false

theorem src_pair {w : World} {b : Nat} {s t : ByteArray} (h : w.heap[b]? = some (.cells #[.string s, .string t] 79 (0, 0))) : Src Tryd.prog 2 74 (.slice (some ⟨b, 0, none⟩) 1 1) 1 [.string s, .string t] w :=
  Src.ofSlice w Tryd.underlying74 _ 1 1 _ rfl (fun j u hj => by
    rw [add_plain]
    match j, hj with
    | 0, hj => cases hj; simp [World.cell?, h]
    | 1, hj => cases hj; simp [World.cell?, h]
    | j + 2, hj => cases hj) (fun u hu => by simp at hu; rcases hu with rfl | rfl <;> rfl)

set_option maxRecDepth 100000 in
set_option maxHeartbeats 6400000 in
theorem radd_room0 {w : World} {rb : Nat} {sv : Value} {L : Lin} (h : RAt w rb sv L) (hok : L.ok) (s t : ByteArray) (hf : L.ts.length < L.most) :
    Calls Tryd.prog 65 #[.pointer (some ⟨rb, 0, none⟩), .agg #[.string s, .string t], .int .i64 0] w (RDone w rb { L.push (s, t) with c0 := L.c0 + 1 } (.int .i64 0)) := by
  obtain ⟨A, cap, hsv, hl1, hl2, _⟩ := h.row.slice
  subst hsv
  obtain ⟨W, hW⟩ : ∃ W, W = w.alloc (.cells #[.string s, .string t] 79) := ⟨_, rfl⟩
  have hA : RAt W rb (.slice A L.ts.length cap) L := by rw [hW]; exact h.below ((Below.refl _ _).alloc (Nat.le_refl _) _)
  have hKW : Kept [] w W := by rw [hW]; exact Kept.alloc w _
  have KW := Lib.hid hKW
  have hT : W.heap[w.heap.size]? = some (.cells #[.string s, .string t] 79 (0, 0)) := by rw [hW]; exact heap_alloc_new w _
  have HRW := Lib.hid hA.row
  have RLT := Lib.hid h.lt
  obtain ⟨l, hl⟩ : ∃ l, L.ts.length = l := ⟨_, rfl⟩
  have HL := Lib.hid hl
  have HOK := Lib.hid hok
  have l64 : l ≤ 64 := by have := hok.2.2.2.2.2.2.2.2.2.2.2.2.1; rw [hl] at this; exact this
  have H := Lib.hid hA
  rw [hl] at hA hf HRW
  have c0 := hA.at0
  have c1 := hA.at1
  obtain ⟨m, hm⟩ : ∃ m, L.most = m := ⟨_, rfl⟩
  rw [hm] at c0 hf
  have q : decide (m ≤ (l : Int)) = false := by simp; omega
  have HW := Lib.hid hW
  have HT := Lib.hid hT
  obtain ⟨tb, htb⟩ : ∃ tb, w.heap.size = tb := ⟨_, rfl⟩
  have HTB := Lib.hid htb
  clear h hA hl hm hW hT htb hf hKW hok
  go_enter Tryd.func65, Tryd.ntmps65
  go_wp2_with fail
  rw [← HW.out]
  go_quiet (fail)
  go_wp2_with fail
  rw [HTB.out]
  obtain ⟨V, hV⟩ : ∃ V, V = W.drewN nq := ⟨_, rfl⟩
  rw [← hV]
  have KD : Kept [] V V.drew := (Kept.refl [] V).drew
  have KV : Hid (Kept [] W V) := Lib.hid (by rw [hV]; exact Kept.drewN [] W nq)
  have CF : Hid (∀ wx, Kept [] V wx → wx.cell? ⟨tb, 0, none⟩ = some (.string s) ∧ wx.cell? ⟨tb, 1, none⟩ = some (.string t)) := Lib.hid (fun wx hk => by
    have kk : Kept [] W wx := KV.out.trans hk (by simp)
    have h2 := (kk.block w.heap.size (Array.getElem?_eq_some_iff.1 HT.out).1 (by simp)).trans HT.out
    rw [HTB.out] at h2
    exact ⟨by simp [World.cell?, h2], by simp [World.cell?, h2]⟩)
  have CF1 : Hid (∀ wx, Kept [] V wx → wx.cell? ⟨rb, 1, none⟩ = some (.slice A l cap) ∧ wx.frozen? ⟨rb, 1, none⟩ = false) := Lib.hid (fun wx hk => by
    have kk : Kept [] W wx := KV.out.trans hk (by simp)
    have h1 := (kk.block rb H.out.lt (by simp)).trans H.out.cell
    exact ⟨by rw [← HL.out]; simp [World.cell?, h1, Lin.cells], by simp [World.frozen?, h1]⟩)
  have CF12 : Hid (∀ wx v, Kept [] V wx → (wx.setCell ⟨rb, 1, none⟩ v).cell? ⟨tb, 0, none⟩ = some (.string s) ∧ (wx.setCell ⟨rb, 1, none⟩ v).cell? ⟨tb, 1, none⟩ = some (.string t)) := Lib.hid (fun wx v hk => by
    have hne : rb ≠ tb := by have := RLT.out; have := HTB.out; omega
    rw [World.cell?_setCell_far _ _ _ _ hne, World.cell?_setCell_far _ _ _ _ hne]
    exact CF.out wx hk)
  have HRO : Hid (∀ wx, Kept [] V wx → RowO wx 79 2 (.slice A l cap) l (textCells L.ts)) := Lib.hid (fun wx hk => by
    have kk : Kept [] W wx := KV.out.trans hk (by simp)
    exact HRW.out.same (fun g cur hb => kk.block g (Array.getElem?_eq_some_iff.1 hb).1 (by simp)))
  have HRA : Hid (∀ wx, Kept [] V wx → RAt wx rb (.slice A L.ts.length cap) L) := Lib.hid (fun wx hk => by
    have kk : Kept [] W wx := KV.out.trans hk (by simp)
    exact H.out.same (fun g cur T _ hb => kk.block g (Array.getElem?_eq_some_iff.1 hb).1 (by simp)))
  have KW2 : Hid (∀ wx, Kept [] V wx → Kept [] w wx) := Lib.hid (fun wx hk => (KW.out.trans KV.out (by simp)).trans hk (by simp))
  clear hV c0 c1
  refine wp_region_held_drew (S := (fun w' => w'.cell? ⟨tb, 0, none⟩ = some (.string s) ∧ w'.cell? ⟨tb, 1, none⟩ = some (.string t))) (by kernel_rfl) ?_ (fun hHeld => ?_)
  · (try dsimp only); exact CF.out _ KD
  refine wpAnyH_take (i := 0) (v := ?_) rfl (by kernel_rfl) (by kernel_rfl) (by kernel_rfl) (fun _ _ _ h => h) (Or.inl ⟨by rfl, ?_⟩) (by assumption) ?_
  rotate_left; · (intro w hSw; (try dsimp only at hSw); go_simp; try with_reducible rfl)
  (try simp only [Act.put, List.setIfInBounds_toArray, List.set_cons_zero, List.set_cons_succ, List.getElem_toArray, List.getElem_cons_zero, List.getElem_cons_succ])
  refine wpAnyH_take (i := 2) (v := ?_) rfl (by kernel_rfl) (by kernel_rfl) (by kernel_rfl) (fun _ _ _ h => h) (Or.inl ⟨by rfl, ?_⟩) (by assumption) ?_
  rotate_left; · (intro w hSw; (try dsimp only at hSw); go_simp; try with_reducible rfl)
  (try simp only [Act.put, List.setIfInBounds_toArray, List.set_cons_zero, List.set_cons_succ, List.getElem_toArray, List.getElem_cons_zero, List.getElem_cons_succ])
  refine wpAnyH_take (i := 3) (v := ?_) rfl (by kernel_rfl) (by kernel_rfl) (by kernel_rfl) (fun _ _ _ h => h) (Or.inl ⟨by rfl, ?_⟩) (by assumption) ?_
  rotate_left; · (intro w hSw; (try dsimp only at hSw); go_simp; try with_reducible rfl)
  (try simp only [Act.put, List.setIfInBounds_toArray, List.set_cons_zero, List.set_cons_succ, List.getElem_toArray, List.getElem_cons_zero, List.getElem_cons_succ])
  refine wpAnyH_take (i := 4) (v := ?_) rfl (by kernel_rfl) (by kernel_rfl) (by kernel_rfl) (fun _ _ _ h => h) (Or.inl ⟨by rfl, ?_⟩) (by assumption) ?_
  rotate_left; · (intro w hSw; (try dsimp only at hSw); go_simp; try with_reducible rfl)
  (try simp only [Act.put, List.setIfInBounds_toArray, List.set_cons_zero, List.set_cons_succ, List.getElem_toArray, List.getElem_cons_zero, List.getElem_cons_succ])
  refine wpAnyH_take (i := 7) (v := ?_) rfl (by kernel_rfl) (by kernel_rfl) (by kernel_rfl) (fun _ _ _ h => h) (Or.inl ⟨by rfl, ?_⟩) (by assumption) ?_
  rotate_left; · (intro w hSw; (try dsimp only at hSw); go_simp; try with_reducible rfl)
  (try simp only [Act.put, List.setIfInBounds_toArray, List.set_cons_zero, List.set_cons_succ, List.getElem_toArray, List.getElem_cons_zero, List.getElem_cons_succ])
  refine wpAnyH_ready (rs := [1, 5, 8]) (by kernel_rfl) (by simp) ?_
  refine AllReadyH.cons rfl (fun K hK => ?_) ?_
  · (try simp only [List.getElem_toArray, List.getElem_cons_zero, List.getElem_cons_succ])
    go_simp
    refine hK.out _ _ ?_ (fun hHeld2 => ?_)
    · (try dsimp only); exact CF.out _ (Kept.trans KD (show Kept [] (World.drew V) (World.drew (World.alloc V (.cells #[] 79))) from Kept.alloc (World.drew V) (.cells #[] 79)) (by simp))
    clear hK K hHeld
    have hHeld := hHeld2
    clear hHeld2
    (try simp only [Act.put, List.setIfInBounds_toArray, List.set_cons_zero, List.set_cons_succ, List.getElem_toArray, List.getElem_cons_zero, List.getElem_cons_succ])
    refine wpAnyH_ready (rs := [5, 8]) (by kernel_rfl) (by simp) ?_
    refine AllReadyH.cons rfl (fun K hK => ?_) ?_
    · (try simp only [List.getElem_toArray, List.getElem_cons_zero, List.getElem_cons_succ])
      have c1x : ((World.drew (World.alloc V (.cells #[] 79)))).cell? ⟨rb, 1, none⟩ = some (.slice A l cap) := (CF1.out _ (Kept.trans KD (show Kept [] (World.drew V) (World.drew (World.alloc V (.cells #[] 79))) from Kept.alloc (World.drew V) (.cells #[] 79)) (by simp))).1
      go_simp
      clear c1x
      refine hK.out _ _ ?_ (fun hHeld2 => ?_)
      · (try dsimp only); exact CF.out _ (Kept.trans KD (show Kept [] (World.drew V) (World.drew (World.alloc V (.cells #[] 79))) from Kept.alloc (World.drew V) (.cells #[] 79)) (by simp))
      clear hK K hHeld
      have hHeld := hHeld2
      clear hHeld2
      (try simp only [Act.put, List.setIfInBounds_toArray, List.set_cons_zero, List.set_cons_succ, List.getElem_toArray, List.getElem_cons_zero, List.getElem_cons_succ])
      refine wpAnyH_ready (rs := [6, 8]) (by kernel_rfl) (by simp) ?_
      refine AllReadyH.cons rfl (fun K hK => ?_) ?_
      · skip
        have re : RowAt (World.drew (World.alloc V (.cells #[] 79))) 79 2 (World.heap (World.drew V)).size 0 0 0 [] := (show RowAt (World.drew (World.alloc V (.cells #[] 79))) 79 2 (World.heap (World.drew V)).size 0 0 0 [] from RowAt.empty (World.drew V) 79 2)
        have se : Src Tryd.prog 2 74 (.slice A l cap) l (textCells L.ts) (World.drew (World.alloc V (.cells #[] 79))) := (HRO.out _ (Kept.trans KD (show Kept [] (World.drew V) (World.drew (World.alloc V (.cells #[] 79))) from Kept.alloc (World.drew V) (.cells #[] 79)) (by simp))).src (textCells_one _) Tryd.underlying74
        refine step_append_at ?qhgd1 ?qs1 ?qx1 74 74 ?qho1 79 (.agg #[.string ByteArray.empty, .string ByteArray.empty]) 2 32 Tryd.underlying74 info79 rfl ?qg1 0 0 0 [] ?qhsv1 ?qhrow1 (.slice A l cap) ?qhxv1 l (textCells L.ts) ?qhs1 ?qh11 ?qh21 ?qhh1
        case qho1 => rfl
        case qhgd1 => rfl
        case qhsv1 => rfl
        case qhxv1 => rfl
        case qhrow1 => simpa using re
        case qhs1 => simpa using se
        case qh11 => simp [maxLen]; omega
        case qh21 => omega
        intro g1 o1 cap1 w1 hr1 hgb1 hg1
        have hgb1' : ((World.drew (World.alloc V (.cells #[] 79)))).grownBy w1 (some (World.heap (World.drew V)).size) := by simpa using hgb1
        have hr1' : RowAt w1 79 2 g1 o1 cap1 l (textCells L.ts) := by simpa using hr1
        have hv1 : V.heap.size ≤ g1 := by have p1 := Kept.size (Kept.trans KD (show Kept [] (World.drew V) (World.drew (World.alloc V (.cells #[] 79))) from Kept.alloc (World.drew V) (.cells #[] 79)) (by simp)); have p2 := Kept.size KD; rcases hg1 with h | h <;> (simp at h p1 p2 ⊢; omega)
        have k1 : Kept [] V w1 := Kept.trans (Kept.trans KD (show Kept [] (World.drew V) (World.drew (World.alloc V (.cells #[] 79))) from Kept.alloc (World.drew V) (.cells #[] 79)) (by simp)) (Kept.of_grown hgb1') (fun x hx => .inr (by simp at hx; subst hx; have p3 := Kept.size KD; first | exact p3 | (simp; done) | (simp at p3 ⊢; omega)))
        refine hK.out _ _ ?_ (fun hHeld2 => ?_)
        · (try dsimp only); exact CF.out _ k1
        clear hK K hHeld
        have hHeld := hHeld2
        clear hHeld2
        (try simp only [Act.put, List.setIfInBounds_toArray, List.set_cons_zero, List.set_cons_succ, List.getElem_toArray, List.getElem_cons_zero, List.getElem_cons_succ])
        (try simp only [Nat.zero_add])
        refine wpAnyH_ready (rs := [8]) (by kernel_rfl) (by simp) ?_
        refine AllReadyH.cons rfl (fun K hK => ?_) AllReadyH.nil
        (try simp only [List.getElem_toArray, List.getElem_cons_zero, List.getElem_cons_succ])
        go_simp
        refine hK.out _ _ ?_ (fun hHeld2 => ?_)
        · (try dsimp only); exact CF.out _ (Kept.trans k1 (show Kept [] w1 (World.alloc w1 (.cells #[.string s, .string t] 79)) from Kept.alloc w1 (.cells #[.string s, .string t] 79)) (by simp))
        clear hK K hHeld
        have hHeld := hHeld2
        clear hHeld2
        (try simp only [Act.put, List.setIfInBounds_toArray, List.set_cons_zero, List.set_cons_succ, List.getElem_toArray, List.getElem_cons_zero, List.getElem_cons_succ])
        refine wpAnyH_ready (rs := [9]) (by kernel_rfl) (by simp) ?_
        refine AllReadyH.cons rfl (fun K hK => ?_) AllReadyH.nil
        skip
        have re2 : RowAt (World.alloc w1 (.cells #[.string s, .string t] 79)) 79 2 g1 o1 cap1 l (textCells L.ts) := (RowAt.kept hr1' (show Kept [] w1 (World.alloc w1 (.cells #[.string s, .string t] 79)) from Kept.alloc w1 (.cells #[.string s, .string t] 79)) (by simp))
        have sp : Src Tryd.prog 2 74 (.slice (some ⟨(World.heap w1).size, 0, none⟩) 1 1) 1 [.string s, .string t] (World.alloc w1 (.cells #[.string s, .string t] 79)) := src_pair (show (World.heap (World.alloc w1 (.cells #[.string s, .string t] 79)))[(World.heap w1).size]? = some (.cells #[.string s, .string t] 79 (0, 0)) from heap_alloc_new w1 (.cells #[.string s, .string t] 79))
        refine step_append_at ?qhgd2 ?qs2 ?qx2 74 74 ?qho2 79 (.agg #[.string ByteArray.empty, .string ByteArray.empty]) 2 32 Tryd.underlying74 info79 rfl g1 o1 cap1 l (textCells L.ts) ?qhsv2 ?qhrow2 (.slice (some ⟨(World.heap w1).size, 0, none⟩) 1 1) ?qhxv2 1 [.string s, .string t] ?qhs2 ?qh12 ?qh22 ?qhh2
        case qho2 => rfl
        case qhgd2 => rfl
        case qhsv2 => rfl
        case qhxv2 => first | rfl | (simp; done) | (rw [show (World.heap w1).size = V.heap.size + 1 by simp]; rfl)
        case qhrow2 => simpa using re2
        case qhs2 => simpa using sp
        case qh12 => simp [maxLen]; omega
        case qh22 => omega
        intro g2 o2 cap2 w2 hr2 hgb2 hg2
        have hgb2' : ((World.alloc w1 (.cells #[.string s, .string t] 79))).grownBy w2 (some g1) := by simpa using hgb2
        have k2 : Kept [] V w2 := Kept.trans (Kept.trans k1 (show Kept [] w1 (World.alloc w1 (.cells #[.string s, .string t] 79)) from Kept.alloc w1 (.cells #[.string s, .string t] 79)) (by simp)) (Kept.of_grown hgb2') (fun x hx => .inr (by simp at hx; subst hx; exact hv1))
        refine hK.out _ _ ?_ (fun hHeld2 => ?_)
        · (try dsimp only); exact CF.out _ k2
        clear hK K hHeld
        have hHeld := hHeld2
        clear hHeld2
        (try simp only [Act.put, List.setIfInBounds_toArray, List.set_cons_zero, List.set_cons_succ, List.getElem_toArray, List.getElem_cons_zero, List.getElem_cons_succ])
        have c1x := (CF1.out _ k2).1
        have f1x := (CF1.out _ k2).2
        refine wpAnyH_take (i := 10) (v := ?_) rfl (by kernel_rfl) (by kernel_rfl) (by kernel_rfl) (fun _ _ _ h => h) (Or.inl ⟨by rfl, ?_⟩) (by assumption) ?_
        rotate_left; · (intro w hSw; (try dsimp only at hSw); go_simp; try with_reducible rfl)
        (try simp only [Act.put, List.setIfInBounds_toArray, List.set_cons_zero, List.set_cons_succ, List.getElem_toArray, List.getElem_cons_zero, List.getElem_cons_succ])
        refine wpAnyH_take (i := 11) (v := ?_) rfl (by kernel_rfl) (by kernel_rfl) (by kernel_rfl) (fun _ _ _ h => h) (Or.inl ⟨by rfl, ?_⟩) (by assumption) ?_
        rotate_left; · (intro w hSw; (try dsimp only at hSw); go_simp; try with_reducible rfl)
        (try simp only [Act.put, List.setIfInBounds_toArray, List.set_cons_zero, List.set_cons_succ, List.getElem_toArray, List.getElem_cons_zero, List.getElem_cons_succ])
        refine wpAnyH_ready (rs := [12]) (by kernel_rfl) (by simp) ?_
        refine AllReadyH.cons rfl (fun K hK => ?_) AllReadyH.nil
        (try simp only [List.getElem_toArray, List.getElem_cons_zero, List.getElem_cons_succ])
        go_simp
        refine hK.out _ _ ?_ (fun hHeld2 => ?_)
        · (try dsimp only); exact CF12.out _ _ k2
        clear hK K hHeld
        have hHeld := hHeld2
        clear hHeld2
        (try simp only [Act.put, List.setIfInBounds_toArray, List.set_cons_zero, List.set_cons_succ, List.getElem_toArray, List.getElem_cons_zero, List.getElem_cons_succ])
        refine wpAnyH_done (by kernel_rfl) ?_ _
        obtain ⟨X, hX⟩ : ∃ X, X = w2.setCell ⟨rb, 1, none⟩ (.slice (some ⟨g2, o2, none⟩) (l + 1) cap2) := ⟨_, rfl⟩
        try rw [← hX]
        have hXR : RAt X rb (.slice (some ⟨g2, o2, none⟩) (l + 1) cap2) (L.push (s, t)) := by
          rw [hX]
          refine (HRA.out _ k2).setCell 1 _ rfl (.inr ⟨g2, o2, cap2, ?_, ?_⟩)
          · rw [← HL.out]; simp [Lin.push]
          · have e : textCells (L.push (s, t)).ts = textCells L.ts ++ [.string s, .string t] := by unfold Lin.push; rw [textCells_append]; rfl
            rw [e, show (L.push (s, t)).ts.length = l + 1 by rw [← HL.out]; simp [Lin.push]]
            exact hr2
        have KX : Hid (Kept [rb] w X) := Lib.hid (by
          rw [hX]
          exact ((KW2.out _ k2).mono (fp' := [rb]) (by simp)).trans (Kept.setCell w2 rb 1 _) (by simp))
        have cc := hXR.at2
        have ff := hXR.f 2
        have hb0 : 0 ≤ L.c0 := HOK.out.1
        have hb1 : L.c0 ≤ 1000000 := HOK.out.2.1
        obtain ⟨cv, hcv⟩ : ∃ cv, L.c0 = cv := ⟨_, rfl⟩
        have CV := Lib.hid hcv
        rw [show (L.push (s, t)).c0 = L.c0 from rfl, hcv] at cc
        rw [hcv] at hb0 hb1
        have ew : IntKind.i64.wrap (cv + 1) = cv + 1 := IntWalk.i64_in _ (by omega)
        have F : Hid (RDone w rb { L.push (s, t) with c0 := L.c0 + 1 } (.int .i64 0) (.returned (.int .i64 0)) ((X.setCell ⟨rb, 2, none⟩ (.int .i64 (cv + 1))).drew)) := Lib.hid
          ⟨rfl, _, (hXR.setCell 2 (.int .i64 (cv + 1)) (L' := { L.push (s, t) with c0 := L.c0 + 1 }) (by rw [← CV.out]; rfl) hXR.row).below ⟨rfl, rfl, rfl, Nat.le_refl _, fun _ _ => rfl⟩, (KX.out.trans (Kept.setCell X rb 2 _) (by simp)).drew⟩
        clear hX hr2 k2 hcv hXR
        go_wp2_with fail
        go_still_tail 10, (by kernel_rfl)
        go_wp2
        go_ret
        exact F.out
      refine AllReadyH.cons rfl (fun K hK => ?_) AllReadyH.nil
      (try simp only [List.getElem_toArray, List.getElem_cons_zero, List.getElem_cons_succ])
      go_simp
      refine hK.out _ _ ?_ (fun hHeld2 => ?_)
      · (try dsimp only); exact CF.out _ (Kept.trans (Kept.trans KD (show Kept [] (World.drew V) (World.drew (World.alloc V (.cells #[] 79))) from Kept.alloc (World.drew V) (.cells #[] 79)) (by simp)) (show Kept [] (World.drew (World.alloc V (.cells #[] 79))) (World.drew (World.alloc (World.alloc V (.cells #[] 79)) (.cells #[.string s, .string t] 79))) from Kept.alloc (World.drew (World.alloc V (.cells #[] 79))) (.cells #[.string s, .string t] 79)) (by simp))
      clear hK K hHeld
      have hHeld := hHeld2
      clear hHeld2
      (try simp only [Act.put, List.setIfInBounds_toArray, List.set_cons_zero, List.set_cons_succ, List.getElem_toArray, List.getElem_cons_zero, List.getElem_cons_succ])
      refine wpAnyH_ready (rs := [6]) (by kernel_rfl) (by simp) ?_
      refine AllReadyH.cons rfl (fun K hK => ?_) AllReadyH.nil
      skip
      have re : RowAt (World.drew (World.alloc (World.alloc V (.cells #[] 79)) (.cells #[.string s, .string t] 79))) 79 2 (World.heap (World.drew V)).size 0 0 0 [] := (RowAt.kept (show RowAt (World.drew (World.alloc V (.cells #[] 79))) 79 2 (World.heap (World.drew V)).size 0 0 0 [] from RowAt.empty (World.drew V) 79 2) (show Kept [] (World.drew (World.alloc V (.cells #[] 79))) (World.drew (World.alloc (World.alloc V (.cells #[] 79)) (.cells #[.string s, .string t] 79))) from Kept.alloc (World.drew (World.alloc V (.cells #[] 79))) (.cells #[.string s, .string t] 79)) (by simp))
      have se : Src Tryd.prog 2 74 (.slice A l cap) l (textCells L.ts) (World.drew (World.alloc (World.alloc V (.cells #[] 79)) (.cells #[.string s, .string t] 79))) := (HRO.out _ (Kept.trans (Kept.trans KD (show Kept [] (World.drew V) (World.drew (World.alloc V (.cells #[] 79))) from Kept.alloc (World.drew V) (.cells #[] 79)) (by simp)) (show Kept [] (World.drew (World.alloc V (.cells #[] 79))) (World.drew (World.alloc (World.alloc V (.cells #[] 79)) (.cells #[.string s, .string t] 79))) from Kept.alloc (World.drew (World.alloc V (.cells #[] 79))) (.cells #[.string s, .string t] 79)) (by simp))).src (textCells_one _) Tryd.underlying74
      refine step_append_at ?qhgd3 ?qs3 ?qx3 74 74 ?qho3 79 (.agg #[.string ByteArray.empty, .string ByteArray.empty]) 2 32 Tryd.underlying74 info79 rfl ?qg3 0 0 0 [] ?qhsv3 ?qhrow3 (.slice A l cap) ?qhxv3 l (textCells L.ts) ?qhs3 ?qh13 ?qh23 ?qhh3
      case qho3 => rfl
      case qhgd3 => rfl
      case qhsv3 => rfl
      case qhxv3 => rfl
      case qhrow3 => simpa using re
      case qhs3 => simpa using se
      case qh13 => simp [maxLen]; omega
      case qh23 => omega
      intro g1 o1 cap1 w1 hr1 hgb1 hg1
      have hgb1' : ((World.drew (World.alloc (World.alloc V (.cells #[] 79)) (.cells #[.string s, .string t] 79)))).grownBy w1 (some (World.heap (World.drew V)).size) := by simpa using hgb1
      have hr1' : RowAt w1 79 2 g1 o1 cap1 l (textCells L.ts) := by simpa using hr1
      have hv1 : V.heap.size ≤ g1 := by have p1 := Kept.size (Kept.trans (Kept.trans KD (show Kept [] (World.drew V) (World.drew (World.alloc V (.cells #[] 79))) from Kept.alloc (World.drew V) (.cells #[] 79)) (by simp)) (show Kept [] (World.drew (World.alloc V (.cells #[] 79))) (World.drew (World.alloc (World.alloc V (.cells #[] 79)) (.cells #[.string s, .string t] 79))) from Kept.alloc (World.drew (World.alloc V (.cells #[] 79))) (.cells #[.string s, .string t] 79)) (by simp)); have p2 := Kept.size KD; rcases hg1 with h | h <;> (simp at h p1 p2 ⊢; omega)
      have k1 : Kept [] V w1 := Kept.trans (Kept.trans (Kept.trans KD (show Kept [] (World.drew V) (World.drew (World.alloc V (.cells #[] 79))) from Kept.alloc (World.drew V) (.cells #[] 79)) (by simp)) (show Kept [] (World.drew (World.alloc V (.cells #[] 79))) (World.drew (World.alloc (World.alloc V (.cells #[] 79)) (.cells #[.string s, .string t] 79))) from Kept.alloc (World.drew (World.alloc V (.cells #[] 79))) (.cells #[.string s, .string t] 79)) (by simp)) (Kept.of_grown hgb1') (fun x hx => .inr (by simp at hx; subst hx; have p3 := Kept.size KD; first | exact p3 | (simp; done) | (simp at p3 ⊢; omega)))
      refine hK.out _ _ ?_ (fun hHeld2 => ?_)
      · (try dsimp only); exact CF.out _ k1
      clear hK K hHeld
      have hHeld := hHeld2
      clear hHeld2
      (try simp only [Act.put, List.setIfInBounds_toArray, List.set_cons_zero, List.set_cons_succ, List.getElem_toArray, List.getElem_cons_zero, List.getElem_cons_succ])
      (try simp only [Nat.zero_add])
      have z1 : w1.heap[(World.heap (World.drew (World.alloc V (.cells #[] 79)))).size]? = some (.cells #[.string s, .string t] 79 (0, 0)) := ((Kept.of_grown hgb1').block _ (Array.getElem?_eq_some_iff.1 (show (World.heap (World.drew (World.alloc (World.alloc V (.cells #[] 79)) (.cells #[.string s, .string t] 79))))[(World.heap (World.drew (World.alloc V (.cells #[] 79)))).size]? = some (.cells #[.string s, .string t] 79 (0, 0)) from heap_alloc_new (World.drew (World.alloc V (.cells #[] 79))) (.cells #[.string s, .string t] 79))).1 (by simp)).trans (show (World.heap (World.drew (World.alloc (World.alloc V (.cells #[] 79)) (.cells #[.string s, .string t] 79))))[(World.heap (World.drew (World.alloc V (.cells #[] 79)))).size]? = some (.cells #[.string s, .string t] 79 (0, 0)) from heap_alloc_new (World.drew (World.alloc V (.cells #[] 79))) (.cells #[.string s, .string t] 79))
      refine wpAnyH_ready (rs := [9]) (by kernel_rfl) (by simp) ?_
      refine AllReadyH.cons rfl (fun K hK => ?_) AllReadyH.nil
      skip
      have re2 : RowAt w1 79 2 g1 o1 cap1 l (textCells L.ts) := hr1'
      have sp : Src Tryd.prog 2 74 (.slice (some ⟨(World.heap (World.drew (World.alloc V (.cells #[] 79)))).size, 0, none⟩) 1 1) 1 [.string s, .string t] w1 := src_pair z1
      refine step_append_at ?qhgd4 ?qs4 ?qx4 74 74 ?qho4 79 (.agg #[.string ByteArray.empty, .string ByteArray.empty]) 2 32 Tryd.underlying74 info79 rfl g1 o1 cap1 l (textCells L.ts) ?qhsv4 ?qhrow4 (.slice (some ⟨(World.heap (World.drew (World.alloc V (.cells #[] 79)))).size, 0, none⟩) 1 1) ?qhxv4 1 [.string s, .string t] ?qhs4 ?qh14 ?qh24 ?qhh4
      case qho4 => rfl
      case qhgd4 => rfl
      case qhsv4 => rfl
      case qhxv4 => first | rfl | (simp; done) | (rw [show (World.heap (World.drew (World.alloc V (.cells #[] 79)))).size = V.heap.size + 1 by simp]; rfl)
      case qhrow4 => simpa using re2
      case qhs4 => simpa using sp
      case qh14 => simp [maxLen]; omega
      case qh24 => omega
      intro g2 o2 cap2 w2 hr2 hgb2 hg2
      have hgb2' : (w1).grownBy w2 (some g1) := by simpa using hgb2
      have k2 : Kept [] V w2 := Kept.trans k1 (Kept.of_grown hgb2') (fun x hx => .inr (by simp at hx; subst hx; exact hv1))
      refine hK.out _ _ ?_ (fun hHeld2 => ?_)
      · (try dsimp only); exact CF.out _ k2
      clear hK K hHeld
      have hHeld := hHeld2
      clear hHeld2
      (try simp only [Act.put, List.setIfInBounds_toArray, List.set_cons_zero, List.set_cons_succ, List.getElem_toArray, List.getElem_cons_zero, List.getElem_cons_succ])
      have c1x := (CF1.out _ k2).1
      have f1x := (CF1.out _ k2).2
      refine wpAnyH_take (i := 10) (v := ?_) rfl (by kernel_rfl) (by kernel_rfl) (by kernel_rfl) (fun _ _ _ h => h) (Or.inl ⟨by rfl, ?_⟩) (by assumption) ?_
      rotate_left; · (intro w hSw; (try dsimp only at hSw); go_simp; try with_reducible rfl)
      (try simp only [Act.put, List.setIfInBounds_toArray, List.set_cons_zero, List.set_cons_succ, List.getElem_toArray, List.getElem_cons_zero, List.getElem_cons_succ])
      refine wpAnyH_take (i := 11) (v := ?_) rfl (by kernel_rfl) (by kernel_rfl) (by kernel_rfl) (fun _ _ _ h => h) (Or.inl ⟨by rfl, ?_⟩) (by assumption) ?_
      rotate_left; · (intro w hSw; (try dsimp only at hSw); go_simp; try with_reducible rfl)
      (try simp only [Act.put, List.setIfInBounds_toArray, List.set_cons_zero, List.set_cons_succ, List.getElem_toArray, List.getElem_cons_zero, List.getElem_cons_succ])
      refine wpAnyH_ready (rs := [12]) (by kernel_rfl) (by simp) ?_
      refine AllReadyH.cons rfl (fun K hK => ?_) AllReadyH.nil
      (try simp only [List.getElem_toArray, List.getElem_cons_zero, List.getElem_cons_succ])
      go_simp
      refine hK.out _ _ ?_ (fun hHeld2 => ?_)
      · (try dsimp only); exact CF12.out _ _ k2
      clear hK K hHeld
      have hHeld := hHeld2
      clear hHeld2
      (try simp only [Act.put, List.setIfInBounds_toArray, List.set_cons_zero, List.set_cons_succ, List.getElem_toArray, List.getElem_cons_zero, List.getElem_cons_succ])
      refine wpAnyH_done (by kernel_rfl) ?_ _
      obtain ⟨X, hX⟩ : ∃ X, X = w2.setCell ⟨rb, 1, none⟩ (.slice (some ⟨g2, o2, none⟩) (l + 1) cap2) := ⟨_, rfl⟩
      try rw [← hX]
      have hXR : RAt X rb (.slice (some ⟨g2, o2, none⟩) (l + 1) cap2) (L.push (s, t)) := by
        rw [hX]
        refine (HRA.out _ k2).setCell 1 _ rfl (.inr ⟨g2, o2, cap2, ?_, ?_⟩)
        · rw [← HL.out]; simp [Lin.push]
        · have e : textCells (L.push (s, t)).ts = textCells L.ts ++ [.string s, .string t] := by unfold Lin.push; rw [textCells_append]; rfl
          rw [e, show (L.push (s, t)).ts.length = l + 1 by rw [← HL.out]; simp [Lin.push]]
          exact hr2
      have KX : Hid (Kept [rb] w X) := Lib.hid (by
        rw [hX]
        exact ((KW2.out _ k2).mono (fp' := [rb]) (by simp)).trans (Kept.setCell w2 rb 1 _) (by simp))
      have cc := hXR.at2
      have ff := hXR.f 2
      have hb0 : 0 ≤ L.c0 := HOK.out.1
      have hb1 : L.c0 ≤ 1000000 := HOK.out.2.1
      obtain ⟨cv, hcv⟩ : ∃ cv, L.c0 = cv := ⟨_, rfl⟩
      have CV := Lib.hid hcv
      rw [show (L.push (s, t)).c0 = L.c0 from rfl, hcv] at cc
      rw [hcv] at hb0 hb1
      have ew : IntKind.i64.wrap (cv + 1) = cv + 1 := IntWalk.i64_in _ (by omega)
      have F : Hid (RDone w rb { L.push (s, t) with c0 := L.c0 + 1 } (.int .i64 0) (.returned (.int .i64 0)) ((X.setCell ⟨rb, 2, none⟩ (.int .i64 (cv + 1))).drew)) := Lib.hid
        ⟨rfl, _, (hXR.setCell 2 (.int .i64 (cv + 1)) (L' := { L.push (s, t) with c0 := L.c0 + 1 }) (by rw [← CV.out]; rfl) hXR.row).below ⟨rfl, rfl, rfl, Nat.le_refl _, fun _ _ => rfl⟩, (KX.out.trans (Kept.setCell X rb 2 _) (by simp)).drew⟩
      clear hX hr2 k2 hcv hXR
      go_wp2_with fail
      go_still_tail 10, (by kernel_rfl)
      go_wp2
      go_ret
      exact F.out
    refine AllReadyH.cons rfl (fun K hK => ?_) AllReadyH.nil
    (try simp only [List.getElem_toArray, List.getElem_cons_zero, List.getElem_cons_succ])
    go_simp
    refine hK.out _ _ ?_ (fun hHeld2 => ?_)
    · (try dsimp only); exact CF.out _ (Kept.trans (Kept.trans KD (show Kept [] (World.drew V) (World.drew (World.alloc V (.cells #[] 79))) from Kept.alloc (World.drew V) (.cells #[] 79)) (by simp)) (show Kept [] (World.drew (World.alloc V (.cells #[] 79))) (World.drew (World.alloc (World.alloc V (.cells #[] 79)) (.cells #[.string s, .string t] 79))) from Kept.alloc (World.drew (World.alloc V (.cells #[] 79))) (.cells #[.string s, .string t] 79)) (by simp))
    clear hK K hHeld
    have hHeld := hHeld2
    clear hHeld2
    (try simp only [Act.put, List.setIfInBounds_toArray, List.set_cons_zero, List.set_cons_succ, List.getElem_toArray, List.getElem_cons_zero, List.getElem_cons_succ])
    refine wpAnyH_ready (rs := [5]) (by kernel_rfl) (by simp) ?_
    refine AllReadyH.cons rfl (fun K hK => ?_) AllReadyH.nil
    (try simp only [List.getElem_toArray, List.getElem_cons_zero, List.getElem_cons_succ])
    have c1x : ((World.drew (World.alloc (World.alloc V (.cells #[] 79)) (.cells #[.string s, .string t] 79)))).cell? ⟨rb, 1, none⟩ = some (.slice A l cap) := (CF1.out _ (Kept.trans (Kept.trans KD (show Kept [] (World.drew V) (World.drew (World.alloc V (.cells #[] 79))) from Kept.alloc (World.drew V) (.cells #[] 79)) (by simp)) (show Kept [] (World.drew (World.alloc V (.cells #[] 79))) (World.drew (World.alloc (World.alloc V (.cells #[] 79)) (.cells #[.string s, .string t] 79))) from Kept.alloc (World.drew (World.alloc V (.cells #[] 79))) (.cells #[.string s, .string t] 79)) (by simp))).1
    go_simp
    clear c1x
    refine hK.out _ _ ?_ (fun hHeld2 => ?_)
    · (try dsimp only); exact CF.out _ (Kept.trans (Kept.trans KD (show Kept [] (World.drew V) (World.drew (World.alloc V (.cells #[] 79))) from Kept.alloc (World.drew V) (.cells #[] 79)) (by simp)) (show Kept [] (World.drew (World.alloc V (.cells #[] 79))) (World.drew (World.alloc (World.alloc V (.cells #[] 79)) (.cells #[.string s, .string t] 79))) from Kept.alloc (World.drew (World.alloc V (.cells #[] 79))) (.cells #[.string s, .string t] 79)) (by simp))
    clear hK K hHeld
    have hHeld := hHeld2
    clear hHeld2
    (try simp only [Act.put, List.setIfInBounds_toArray, List.set_cons_zero, List.set_cons_succ, List.getElem_toArray, List.getElem_cons_zero, List.getElem_cons_succ])
    refine wpAnyH_ready (rs := [6]) (by kernel_rfl) (by simp) ?_
    refine AllReadyH.cons rfl (fun K hK => ?_) AllReadyH.nil
    skip
    have re : RowAt (World.drew (World.alloc (World.alloc V (.cells #[] 79)) (.cells #[.string s, .string t] 79))) 79 2 (World.heap (World.drew V)).size 0 0 0 [] := (RowAt.kept (show RowAt (World.drew (World.alloc V (.cells #[] 79))) 79 2 (World.heap (World.drew V)).size 0 0 0 [] from RowAt.empty (World.drew V) 79 2) (show Kept [] (World.drew (World.alloc V (.cells #[] 79))) (World.drew (World.alloc (World.alloc V (.cells #[] 79)) (.cells #[.string s, .string t] 79))) from Kept.alloc (World.drew (World.alloc V (.cells #[] 79))) (.cells #[.string s, .string t] 79)) (by simp))
    have se : Src Tryd.prog 2 74 (.slice A l cap) l (textCells L.ts) (World.drew (World.alloc (World.alloc V (.cells #[] 79)) (.cells #[.string s, .string t] 79))) := (HRO.out _ (Kept.trans (Kept.trans KD (show Kept [] (World.drew V) (World.drew (World.alloc V (.cells #[] 79))) from Kept.alloc (World.drew V) (.cells #[] 79)) (by simp)) (show Kept [] (World.drew (World.alloc V (.cells #[] 79))) (World.drew (World.alloc (World.alloc V (.cells #[] 79)) (.cells #[.string s, .string t] 79))) from Kept.alloc (World.drew (World.alloc V (.cells #[] 79))) (.cells #[.string s, .string t] 79)) (by simp))).src (textCells_one _) Tryd.underlying74
    refine step_append_at ?qhgd5 ?qs5 ?qx5 74 74 ?qho5 79 (.agg #[.string ByteArray.empty, .string ByteArray.empty]) 2 32 Tryd.underlying74 info79 rfl ?qg5 0 0 0 [] ?qhsv5 ?qhrow5 (.slice A l cap) ?qhxv5 l (textCells L.ts) ?qhs5 ?qh15 ?qh25 ?qhh5
    case qho5 => rfl
    case qhgd5 => rfl
    case qhsv5 => rfl
    case qhxv5 => rfl
    case qhrow5 => simpa using re
    case qhs5 => simpa using se
    case qh15 => simp [maxLen]; omega
    case qh25 => omega
    intro g1 o1 cap1 w1 hr1 hgb1 hg1
    have hgb1' : ((World.drew (World.alloc (World.alloc V (.cells #[] 79)) (.cells #[.string s, .string t] 79)))).grownBy w1 (some (World.heap (World.drew V)).size) := by simpa using hgb1
    have hr1' : RowAt w1 79 2 g1 o1 cap1 l (textCells L.ts) := by simpa using hr1
    have hv1 : V.heap.size ≤ g1 := by have p1 := Kept.size (Kept.trans (Kept.trans KD (show Kept [] (World.drew V) (World.drew (World.alloc V (.cells #[] 79))) from Kept.alloc (World.drew V) (.cells #[] 79)) (by simp)) (show Kept [] (World.drew (World.alloc V (.cells #[] 79))) (World.drew (World.alloc (World.alloc V (.cells #[] 79)) (.cells #[.string s, .string t] 79))) from Kept.alloc (World.drew (World.alloc V (.cells #[] 79))) (.cells #[.string s, .string t] 79)) (by simp)); have p2 := Kept.size KD; rcases hg1 with h | h <;> (simp at h p1 p2 ⊢; omega)
    have k1 : Kept [] V w1 := Kept.trans (Kept.trans (Kept.trans KD (show Kept [] (World.drew V) (World.drew (World.alloc V (.cells #[] 79))) from Kept.alloc (World.drew V) (.cells #[] 79)) (by simp)) (show Kept [] (World.drew (World.alloc V (.cells #[] 79))) (World.drew (World.alloc (World.alloc V (.cells #[] 79)) (.cells #[.string s, .string t] 79))) from Kept.alloc (World.drew (World.alloc V (.cells #[] 79))) (.cells #[.string s, .string t] 79)) (by simp)) (Kept.of_grown hgb1') (fun x hx => .inr (by simp at hx; subst hx; have p3 := Kept.size KD; first | exact p3 | (simp; done) | (simp at p3 ⊢; omega)))
    refine hK.out _ _ ?_ (fun hHeld2 => ?_)
    · (try dsimp only); exact CF.out _ k1
    clear hK K hHeld
    have hHeld := hHeld2
    clear hHeld2
    (try simp only [Act.put, List.setIfInBounds_toArray, List.set_cons_zero, List.set_cons_succ, List.getElem_toArray, List.getElem_cons_zero, List.getElem_cons_succ])
    (try simp only [Nat.zero_add])
    have z1 : w1.heap[(World.heap (World.drew (World.alloc V (.cells #[] 79)))).size]? = some (.cells #[.string s, .string t] 79 (0, 0)) := ((Kept.of_grown hgb1').block _ (Array.getElem?_eq_some_iff.1 (show (World.heap (World.drew (World.alloc (World.alloc V (.cells #[] 79)) (.cells #[.string s, .string t] 79))))[(World.heap (World.drew (World.alloc V (.cells #[] 79)))).size]? = some (.cells #[.string s, .string t] 79 (0, 0)) from heap_alloc_new (World.drew (World.alloc V (.cells #[] 79))) (.cells #[.string s, .string t] 79))).1 (by simp)).trans (show (World.heap (World.drew (World.alloc (World.alloc V (.cells #[] 79)) (.cells #[.string s, .string t] 79))))[(World.heap (World.drew (World.alloc V (.cells #[] 79)))).size]? = some (.cells #[.string s, .string t] 79 (0, 0)) from heap_alloc_new (World.drew (World.alloc V (.cells #[] 79))) (.cells #[.string s, .string t] 79))
    refine wpAnyH_ready (rs := [9]) (by kernel_rfl) (by simp) ?_
    refine AllReadyH.cons rfl (fun K hK => ?_) AllReadyH.nil
    skip
    have re2 : RowAt w1 79 2 g1 o1 cap1 l (textCells L.ts) := hr1'
    have sp : Src Tryd.prog 2 74 (.slice (some ⟨(World.heap (World.drew (World.alloc V (.cells #[] 79)))).size, 0, none⟩) 1 1) 1 [.string s, .string t] w1 := src_pair z1
    refine step_append_at ?qhgd6 ?qs6 ?qx6 74 74 ?qho6 79 (.agg #[.string ByteArray.empty, .string ByteArray.empty]) 2 32 Tryd.underlying74 info79 rfl g1 o1 cap1 l (textCells L.ts) ?qhsv6 ?qhrow6 (.slice (some ⟨(World.heap (World.drew (World.alloc V (.cells #[] 79)))).size, 0, none⟩) 1 1) ?qhxv6 1 [.string s, .string t] ?qhs6 ?qh16 ?qh26 ?qhh6
    case qho6 => rfl
    case qhgd6 => rfl
    case qhsv6 => rfl
    case qhxv6 => first | rfl | (simp; done) | (rw [show (World.heap (World.drew (World.alloc V (.cells #[] 79)))).size = V.heap.size + 1 by simp]; rfl)
    case qhrow6 => simpa using re2
    case qhs6 => simpa using sp
    case qh16 => simp [maxLen]; omega
    case qh26 => omega
    intro g2 o2 cap2 w2 hr2 hgb2 hg2
    have hgb2' : (w1).grownBy w2 (some g1) := by simpa using hgb2
    have k2 : Kept [] V w2 := Kept.trans k1 (Kept.of_grown hgb2') (fun x hx => .inr (by simp at hx; subst hx; exact hv1))
    refine hK.out _ _ ?_ (fun hHeld2 => ?_)
    · (try dsimp only); exact CF.out _ k2
    clear hK K hHeld
    have hHeld := hHeld2
    clear hHeld2
    (try simp only [Act.put, List.setIfInBounds_toArray, List.set_cons_zero, List.set_cons_succ, List.getElem_toArray, List.getElem_cons_zero, List.getElem_cons_succ])
    have c1x := (CF1.out _ k2).1
    have f1x := (CF1.out _ k2).2
    refine wpAnyH_take (i := 10) (v := ?_) rfl (by kernel_rfl) (by kernel_rfl) (by kernel_rfl) (fun _ _ _ h => h) (Or.inl ⟨by rfl, ?_⟩) (by assumption) ?_
    rotate_left; · (intro w hSw; (try dsimp only at hSw); go_simp; try with_reducible rfl)
    (try simp only [Act.put, List.setIfInBounds_toArray, List.set_cons_zero, List.set_cons_succ, List.getElem_toArray, List.getElem_cons_zero, List.getElem_cons_succ])
    refine wpAnyH_take (i := 11) (v := ?_) rfl (by kernel_rfl) (by kernel_rfl) (by kernel_rfl) (fun _ _ _ h => h) (Or.inl ⟨by rfl, ?_⟩) (by assumption) ?_
    rotate_left; · (intro w hSw; (try dsimp only at hSw); go_simp; try with_reducible rfl)
    (try simp only [Act.put, List.setIfInBounds_toArray, List.set_cons_zero, List.set_cons_succ, List.getElem_toArray, List.getElem_cons_zero, List.getElem_cons_succ])
    refine wpAnyH_ready (rs := [12]) (by kernel_rfl) (by simp) ?_
    refine AllReadyH.cons rfl (fun K hK => ?_) AllReadyH.nil
    (try simp only [List.getElem_toArray, List.getElem_cons_zero, List.getElem_cons_succ])
    go_simp
    refine hK.out _ _ ?_ (fun hHeld2 => ?_)
    · (try dsimp only); exact CF12.out _ _ k2
    clear hK K hHeld
    have hHeld := hHeld2
    clear hHeld2
    (try simp only [Act.put, List.setIfInBounds_toArray, List.set_cons_zero, List.set_cons_succ, List.getElem_toArray, List.getElem_cons_zero, List.getElem_cons_succ])
    refine wpAnyH_done (by kernel_rfl) ?_ _
    obtain ⟨X, hX⟩ : ∃ X, X = w2.setCell ⟨rb, 1, none⟩ (.slice (some ⟨g2, o2, none⟩) (l + 1) cap2) := ⟨_, rfl⟩
    try rw [← hX]
    have hXR : RAt X rb (.slice (some ⟨g2, o2, none⟩) (l + 1) cap2) (L.push (s, t)) := by
      rw [hX]
      refine (HRA.out _ k2).setCell 1 _ rfl (.inr ⟨g2, o2, cap2, ?_, ?_⟩)
      · rw [← HL.out]; simp [Lin.push]
      · have e : textCells (L.push (s, t)).ts = textCells L.ts ++ [.string s, .string t] := by unfold Lin.push; rw [textCells_append]; rfl
        rw [e, show (L.push (s, t)).ts.length = l + 1 by rw [← HL.out]; simp [Lin.push]]
        exact hr2
    have KX : Hid (Kept [rb] w X) := Lib.hid (by
      rw [hX]
      exact ((KW2.out _ k2).mono (fp' := [rb]) (by simp)).trans (Kept.setCell w2 rb 1 _) (by simp))
    have cc := hXR.at2
    have ff := hXR.f 2
    have hb0 : 0 ≤ L.c0 := HOK.out.1
    have hb1 : L.c0 ≤ 1000000 := HOK.out.2.1
    obtain ⟨cv, hcv⟩ : ∃ cv, L.c0 = cv := ⟨_, rfl⟩
    have CV := Lib.hid hcv
    rw [show (L.push (s, t)).c0 = L.c0 from rfl, hcv] at cc
    rw [hcv] at hb0 hb1
    have ew : IntKind.i64.wrap (cv + 1) = cv + 1 := IntWalk.i64_in _ (by omega)
    have F : Hid (RDone w rb { L.push (s, t) with c0 := L.c0 + 1 } (.int .i64 0) (.returned (.int .i64 0)) ((X.setCell ⟨rb, 2, none⟩ (.int .i64 (cv + 1))).drew)) := Lib.hid
      ⟨rfl, _, (hXR.setCell 2 (.int .i64 (cv + 1)) (L' := { L.push (s, t) with c0 := L.c0 + 1 }) (by rw [← CV.out]; rfl) hXR.row).below ⟨rfl, rfl, rfl, Nat.le_refl _, fun _ _ => rfl⟩, (KX.out.trans (Kept.setCell X rb 2 _) (by simp)).drew⟩
    clear hX hr2 k2 hcv hXR
    go_wp2_with fail
    go_still_tail 10, (by kernel_rfl)
    go_wp2
    go_ret
    exact F.out
  refine AllReadyH.cons rfl (fun K hK => ?_) ?_
  · (try simp only [List.getElem_toArray, List.getElem_cons_zero, List.getElem_cons_succ])
    have c1x : ((World.drew V)).cell? ⟨rb, 1, none⟩ = some (.slice A l cap) := (CF1.out _ KD).1
    go_simp
    clear c1x
    refine hK.out _ _ ?_ (fun hHeld2 => ?_)
    · (try dsimp only); exact CF.out _ KD
    clear hK K hHeld
    have hHeld := hHeld2
    clear hHeld2
    (try simp only [Act.put, List.setIfInBounds_toArray, List.set_cons_zero, List.set_cons_succ, List.getElem_toArray, List.getElem_cons_zero, List.getElem_cons_succ])
    refine wpAnyH_ready (rs := [1, 8]) (by kernel_rfl) (by simp) ?_
    refine AllReadyH.cons rfl (fun K hK => ?_) ?_
    · (try simp only [List.getElem_toArray, List.getElem_cons_zero, List.getElem_cons_succ])
      go_simp
      refine hK.out _ _ ?_ (fun hHeld2 => ?_)
      · (try dsimp only); exact CF.out _ (Kept.trans KD (show Kept [] (World.drew V) (World.drew (World.alloc V (.cells #[] 79))) from Kept.alloc (World.drew V) (.cells #[] 79)) (by simp))
      clear hK K hHeld
      have hHeld := hHeld2
      clear hHeld2
      (try simp only [Act.put, List.setIfInBounds_toArray, List.set_cons_zero, List.set_cons_succ, List.getElem_toArray, List.getElem_cons_zero, List.getElem_cons_succ])
      refine wpAnyH_ready (rs := [6, 8]) (by kernel_rfl) (by simp) ?_
      refine AllReadyH.cons rfl (fun K hK => ?_) ?_
      · skip
        have re : RowAt (World.drew (World.alloc V (.cells #[] 79))) 79 2 (World.heap (World.drew V)).size 0 0 0 [] := (show RowAt (World.drew (World.alloc V (.cells #[] 79))) 79 2 (World.heap (World.drew V)).size 0 0 0 [] from RowAt.empty (World.drew V) 79 2)
        have se : Src Tryd.prog 2 74 (.slice A l cap) l (textCells L.ts) (World.drew (World.alloc V (.cells #[] 79))) := (HRO.out _ (Kept.trans KD (show Kept [] (World.drew V) (World.drew (World.alloc V (.cells #[] 79))) from Kept.alloc (World.drew V) (.cells #[] 79)) (by simp))).src (textCells_one _) Tryd.underlying74
        refine step_append_at ?qhgd7 ?qs7 ?qx7 74 74 ?qho7 79 (.agg #[.string ByteArray.empty, .string ByteArray.empty]) 2 32 Tryd.underlying74 info79 rfl ?qg7 0 0 0 [] ?qhsv7 ?qhrow7 (.slice A l cap) ?qhxv7 l (textCells L.ts) ?qhs7 ?qh17 ?qh27 ?qhh7
        case qho7 => rfl
        case qhgd7 => rfl
        case qhsv7 => rfl
        case qhxv7 => rfl
        case qhrow7 => simpa using re
        case qhs7 => simpa using se
        case qh17 => simp [maxLen]; omega
        case qh27 => omega
        intro g1 o1 cap1 w1 hr1 hgb1 hg1
        have hgb1' : ((World.drew (World.alloc V (.cells #[] 79)))).grownBy w1 (some (World.heap (World.drew V)).size) := by simpa using hgb1
        have hr1' : RowAt w1 79 2 g1 o1 cap1 l (textCells L.ts) := by simpa using hr1
        have hv1 : V.heap.size ≤ g1 := by have p1 := Kept.size (Kept.trans KD (show Kept [] (World.drew V) (World.drew (World.alloc V (.cells #[] 79))) from Kept.alloc (World.drew V) (.cells #[] 79)) (by simp)); have p2 := Kept.size KD; rcases hg1 with h | h <;> (simp at h p1 p2 ⊢; omega)
        have k1 : Kept [] V w1 := Kept.trans (Kept.trans KD (show Kept [] (World.drew V) (World.drew (World.alloc V (.cells #[] 79))) from Kept.alloc (World.drew V) (.cells #[] 79)) (by simp)) (Kept.of_grown hgb1') (fun x hx => .inr (by simp at hx; subst hx; have p3 := Kept.size KD; first | exact p3 | (simp; done) | (simp at p3 ⊢; omega)))
        refine hK.out _ _ ?_ (fun hHeld2 => ?_)
        · (try dsimp only); exact CF.out _ k1
        clear hK K hHeld
        have hHeld := hHeld2
        clear hHeld2
        (try simp only [Act.put, List.setIfInBounds_toArray, List.set_cons_zero, List.set_cons_succ, List.getElem_toArray, List.getElem_cons_zero, List.getElem_cons_succ])
        (try simp only [Nat.zero_add])
        refine wpAnyH_ready (rs := [8]) (by kernel_rfl) (by simp) ?_
        refine AllReadyH.cons rfl (fun K hK => ?_) AllReadyH.nil
        (try simp only [List.getElem_toArray, List.getElem_cons_zero, List.getElem_cons_succ])
        go_simp
        refine hK.out _ _ ?_ (fun hHeld2 => ?_)
        · (try dsimp only); exact CF.out _ (Kept.trans k1 (show Kept [] w1 (World.alloc w1 (.cells #[.string s, .string t] 79)) from Kept.alloc w1 (.cells #[.string s, .string t] 79)) (by simp))
        clear hK K hHeld
        have hHeld := hHeld2
        clear hHeld2
        (try simp only [Act.put, List.setIfInBounds_toArray, List.set_cons_zero, List.set_cons_succ, List.getElem_toArray, List.getElem_cons_zero, List.getElem_cons_succ])
        refine wpAnyH_ready (rs := [9]) (by kernel_rfl) (by simp) ?_
        refine AllReadyH.cons rfl (fun K hK => ?_) AllReadyH.nil
        skip
        have re2 : RowAt (World.alloc w1 (.cells #[.string s, .string t] 79)) 79 2 g1 o1 cap1 l (textCells L.ts) := (RowAt.kept hr1' (show Kept [] w1 (World.alloc w1 (.cells #[.string s, .string t] 79)) from Kept.alloc w1 (.cells #[.string s, .string t] 79)) (by simp))
        have sp : Src Tryd.prog 2 74 (.slice (some ⟨(World.heap w1).size, 0, none⟩) 1 1) 1 [.string s, .string t] (World.alloc w1 (.cells #[.string s, .string t] 79)) := src_pair (show (World.heap (World.alloc w1 (.cells #[.string s, .string t] 79)))[(World.heap w1).size]? = some (.cells #[.string s, .string t] 79 (0, 0)) from heap_alloc_new w1 (.cells #[.string s, .string t] 79))
        refine step_append_at ?qhgd8 ?qs8 ?qx8 74 74 ?qho8 79 (.agg #[.string ByteArray.empty, .string ByteArray.empty]) 2 32 Tryd.underlying74 info79 rfl g1 o1 cap1 l (textCells L.ts) ?qhsv8 ?qhrow8 (.slice (some ⟨(World.heap w1).size, 0, none⟩) 1 1) ?qhxv8 1 [.string s, .string t] ?qhs8 ?qh18 ?qh28 ?qhh8
        case qho8 => rfl
        case qhgd8 => rfl
        case qhsv8 => rfl
        case qhxv8 => first | rfl | (simp; done) | (rw [show (World.heap w1).size = V.heap.size + 1 by simp]; rfl)
        case qhrow8 => simpa using re2
        case qhs8 => simpa using sp
        case qh18 => simp [maxLen]; omega
        case qh28 => omega
        intro g2 o2 cap2 w2 hr2 hgb2 hg2
        have hgb2' : ((World.alloc w1 (.cells #[.string s, .string t] 79))).grownBy w2 (some g1) := by simpa using hgb2
        have k2 : Kept [] V w2 := Kept.trans (Kept.trans k1 (show Kept [] w1 (World.alloc w1 (.cells #[.string s, .string t] 79)) from Kept.alloc w1 (.cells #[.string s, .string t] 79)) (by simp)) (Kept.of_grown hgb2') (fun x hx => .inr (by simp at hx; subst hx; exact hv1))
        refine hK.out _ _ ?_ (fun hHeld2 => ?_)
        · (try dsimp only); exact CF.out _ k2
        clear hK K hHeld
        have hHeld := hHeld2
        clear hHeld2
        (try simp only [Act.put, List.setIfInBounds_toArray, List.set_cons_zero, List.set_cons_succ, List.getElem_toArray, List.getElem_cons_zero, List.getElem_cons_succ])
        have c1x := (CF1.out _ k2).1
        have f1x := (CF1.out _ k2).2
        refine wpAnyH_take (i := 10) (v := ?_) rfl (by kernel_rfl) (by kernel_rfl) (by kernel_rfl) (fun _ _ _ h => h) (Or.inl ⟨by rfl, ?_⟩) (by assumption) ?_
        rotate_left; · (intro w hSw; (try dsimp only at hSw); go_simp; try with_reducible rfl)
        (try simp only [Act.put, List.setIfInBounds_toArray, List.set_cons_zero, List.set_cons_succ, List.getElem_toArray, List.getElem_cons_zero, List.getElem_cons_succ])
        refine wpAnyH_take (i := 11) (v := ?_) rfl (by kernel_rfl) (by kernel_rfl) (by kernel_rfl) (fun _ _ _ h => h) (Or.inl ⟨by rfl, ?_⟩) (by assumption) ?_
        rotate_left; · (intro w hSw; (try dsimp only at hSw); go_simp; try with_reducible rfl)
        (try simp only [Act.put, List.setIfInBounds_toArray, List.set_cons_zero, List.set_cons_succ, List.getElem_toArray, List.getElem_cons_zero, List.getElem_cons_succ])
        refine wpAnyH_ready (rs := [12]) (by kernel_rfl) (by simp) ?_
        refine AllReadyH.cons rfl (fun K hK => ?_) AllReadyH.nil
        (try simp only [List.getElem_toArray, List.getElem_cons_zero, List.getElem_cons_succ])
        go_simp
        refine hK.out _ _ ?_ (fun hHeld2 => ?_)
        · (try dsimp only); exact CF12.out _ _ k2
        clear hK K hHeld
        have hHeld := hHeld2
        clear hHeld2
        (try simp only [Act.put, List.setIfInBounds_toArray, List.set_cons_zero, List.set_cons_succ, List.getElem_toArray, List.getElem_cons_zero, List.getElem_cons_succ])
        refine wpAnyH_done (by kernel_rfl) ?_ _
        obtain ⟨X, hX⟩ : ∃ X, X = w2.setCell ⟨rb, 1, none⟩ (.slice (some ⟨g2, o2, none⟩) (l + 1) cap2) := ⟨_, rfl⟩
        try rw [← hX]
        have hXR : RAt X rb (.slice (some ⟨g2, o2, none⟩) (l + 1) cap2) (L.push (s, t)) := by
          rw [hX]
          refine (HRA.out _ k2).setCell 1 _ rfl (.inr ⟨g2, o2, cap2, ?_, ?_⟩)
          · rw [← HL.out]; simp [Lin.push]
          · have e : textCells (L.push (s, t)).ts = textCells L.ts ++ [.string s, .string t] := by unfold Lin.push; rw [textCells_append]; rfl
            rw [e, show (L.push (s, t)).ts.length = l + 1 by rw [← HL.out]; simp [Lin.push]]
            exact hr2
        have KX : Hid (Kept [rb] w X) := Lib.hid (by
          rw [hX]
          exact ((KW2.out _ k2).mono (fp' := [rb]) (by simp)).trans (Kept.setCell w2 rb 1 _) (by simp))
        have cc := hXR.at2
        have ff := hXR.f 2
        have hb0 : 0 ≤ L.c0 := HOK.out.1
        have hb1 : L.c0 ≤ 1000000 := HOK.out.2.1
        obtain ⟨cv, hcv⟩ : ∃ cv, L.c0 = cv := ⟨_, rfl⟩
        have CV := Lib.hid hcv
        rw [show (L.push (s, t)).c0 = L.c0 from rfl, hcv] at cc
        rw [hcv] at hb0 hb1
        have ew : IntKind.i64.wrap (cv + 1) = cv + 1 := IntWalk.i64_in _ (by omega)
        have F : Hid (RDone w rb { L.push (s, t) with c0 := L.c0 + 1 } (.int .i64 0) (.returned (.int .i64 0)) ((X.setCell ⟨rb, 2, none⟩ (.int .i64 (cv + 1))).drew)) := Lib.hid
          ⟨rfl, _, (hXR.setCell 2 (.int .i64 (cv + 1)) (L' := { L.push (s, t) with c0 := L.c0 + 1 }) (by rw [← CV.out]; rfl) hXR.row).below ⟨rfl, rfl, rfl, Nat.le_refl _, fun _ _ => rfl⟩, (KX.out.trans (Kept.setCell X rb 2 _) (by simp)).drew⟩
        clear hX hr2 k2 hcv hXR
        go_wp2_with fail
        go_still_tail 10, (by kernel_rfl)
        go_wp2
        go_ret
        exact F.out
      refine AllReadyH.cons rfl (fun K hK => ?_) AllReadyH.nil
      (try simp only [List.getElem_toArray, List.getElem_cons_zero, List.getElem_cons_succ])
      go_simp
      refine hK.out _ _ ?_ (fun hHeld2 => ?_)
      · (try dsimp only); exact CF.out _ (Kept.trans (Kept.trans KD (show Kept [] (World.drew V) (World.drew (World.alloc V (.cells #[] 79))) from Kept.alloc (World.drew V) (.cells #[] 79)) (by simp)) (show Kept [] (World.drew (World.alloc V (.cells #[] 79))) (World.drew (World.alloc (World.alloc V (.cells #[] 79)) (.cells #[.string s, .string t] 79))) from Kept.alloc (World.drew (World.alloc V (.cells #[] 79))) (.cells #[.string s, .string t] 79)) (by simp))
      clear hK K hHeld
      have hHeld := hHeld2
      clear hHeld2
      (try simp only [Act.put, List.setIfInBounds_toArray, List.set_cons_zero, List.set_cons_succ, List.getElem_toArray, List.getElem_cons_zero, List.getElem_cons_succ])
      refine wpAnyH_ready (rs := [6]) (by kernel_rfl) (by simp) ?_
      refine AllReadyH.cons rfl (fun K hK => ?_) AllReadyH.nil
      skip
      have re : RowAt (World.drew (World.alloc (World.alloc V (.cells #[] 79)) (.cells #[.string s, .string t] 79))) 79 2 (World.heap (World.drew V)).size 0 0 0 [] := (RowAt.kept (show RowAt (World.drew (World.alloc V (.cells #[] 79))) 79 2 (World.heap (World.drew V)).size 0 0 0 [] from RowAt.empty (World.drew V) 79 2) (show Kept [] (World.drew (World.alloc V (.cells #[] 79))) (World.drew (World.alloc (World.alloc V (.cells #[] 79)) (.cells #[.string s, .string t] 79))) from Kept.alloc (World.drew (World.alloc V (.cells #[] 79))) (.cells #[.string s, .string t] 79)) (by simp))
      have se : Src Tryd.prog 2 74 (.slice A l cap) l (textCells L.ts) (World.drew (World.alloc (World.alloc V (.cells #[] 79)) (.cells #[.string s, .string t] 79))) := (HRO.out _ (Kept.trans (Kept.trans KD (show Kept [] (World.drew V) (World.drew (World.alloc V (.cells #[] 79))) from Kept.alloc (World.drew V) (.cells #[] 79)) (by simp)) (show Kept [] (World.drew (World.alloc V (.cells #[] 79))) (World.drew (World.alloc (World.alloc V (.cells #[] 79)) (.cells #[.string s, .string t] 79))) from Kept.alloc (World.drew (World.alloc V (.cells #[] 79))) (.cells #[.string s, .string t] 79)) (by simp))).src (textCells_one _) Tryd.underlying74
      refine step_append_at ?qhgd9 ?qs9 ?qx9 74 74 ?qho9 79 (.agg #[.string ByteArray.empty, .string ByteArray.empty]) 2 32 Tryd.underlying74 info79 rfl ?qg9 0 0 0 [] ?qhsv9 ?qhrow9 (.slice A l cap) ?qhxv9 l (textCells L.ts) ?qhs9 ?qh19 ?qh29 ?qhh9
      case qho9 => rfl
      case qhgd9 => rfl
      case qhsv9 => rfl
      case qhxv9 => rfl
      case qhrow9 => simpa using re
      case qhs9 => simpa using se
      case qh19 => simp [maxLen]; omega
      case qh29 => omega
      intro g1 o1 cap1 w1 hr1 hgb1 hg1
      have hgb1' : ((World.drew (World.alloc (World.alloc V (.cells #[] 79)) (.cells #[.string s, .string t] 79)))).grownBy w1 (some (World.heap (World.drew V)).size) := by simpa using hgb1
      have hr1' : RowAt w1 79 2 g1 o1 cap1 l (textCells L.ts) := by simpa using hr1
      have hv1 : V.heap.size ≤ g1 := by have p1 := Kept.size (Kept.trans (Kept.trans KD (show Kept [] (World.drew V) (World.drew (World.alloc V (.cells #[] 79))) from Kept.alloc (World.drew V) (.cells #[] 79)) (by simp)) (show Kept [] (World.drew (World.alloc V (.cells #[] 79))) (World.drew (World.alloc (World.alloc V (.cells #[] 79)) (.cells #[.string s, .string t] 79))) from Kept.alloc (World.drew (World.alloc V (.cells #[] 79))) (.cells #[.string s, .string t] 79)) (by simp)); have p2 := Kept.size KD; rcases hg1 with h | h <;> (simp at h p1 p2 ⊢; omega)
      have k1 : Kept [] V w1 := Kept.trans (Kept.trans (Kept.trans KD (show Kept [] (World.drew V) (World.drew (World.alloc V (.cells #[] 79))) from Kept.alloc (World.drew V) (.cells #[] 79)) (by simp)) (show Kept [] (World.drew (World.alloc V (.cells #[] 79))) (World.drew (World.alloc (World.alloc V (.cells #[] 79)) (.cells #[.string s, .string t] 79))) from Kept.alloc (World.drew (World.alloc V (.cells #[] 79))) (.cells #[.string s, .string t] 79)) (by simp)) (Kept.of_grown hgb1') (fun x hx => .inr (by simp at hx; subst hx; have p3 := Kept.size KD; first | exact p3 | (simp; done) | (simp at p3 ⊢; omega)))
      refine hK.out _ _ ?_ (fun hHeld2 => ?_)
      · (try dsimp only); exact CF.out _ k1
      clear hK K hHeld
      have hHeld := hHeld2
      clear hHeld2
      (try simp only [Act.put, List.setIfInBounds_toArray, List.set_cons_zero, List.set_cons_succ, List.getElem_toArray, List.getElem_cons_zero, List.getElem_cons_succ])
      (try simp only [Nat.zero_add])
      have z1 : w1.heap[(World.heap (World.drew (World.alloc V (.cells #[] 79)))).size]? = some (.cells #[.string s, .string t] 79 (0, 0)) := ((Kept.of_grown hgb1').block _ (Array.getElem?_eq_some_iff.1 (show (World.heap (World.drew (World.alloc (World.alloc V (.cells #[] 79)) (.cells #[.string s, .string t] 79))))[(World.heap (World.drew (World.alloc V (.cells #[] 79)))).size]? = some (.cells #[.string s, .string t] 79 (0, 0)) from heap_alloc_new (World.drew (World.alloc V (.cells #[] 79))) (.cells #[.string s, .string t] 79))).1 (by simp)).trans (show (World.heap (World.drew (World.alloc (World.alloc V (.cells #[] 79)) (.cells #[.string s, .string t] 79))))[(World.heap (World.drew (World.alloc V (.cells #[] 79)))).size]? = some (.cells #[.string s, .string t] 79 (0, 0)) from heap_alloc_new (World.drew (World.alloc V (.cells #[] 79))) (.cells #[.string s, .string t] 79))
      refine wpAnyH_ready (rs := [9]) (by kernel_rfl) (by simp) ?_
      refine AllReadyH.cons rfl (fun K hK => ?_) AllReadyH.nil
      skip
      have re2 : RowAt w1 79 2 g1 o1 cap1 l (textCells L.ts) := hr1'
      have sp : Src Tryd.prog 2 74 (.slice (some ⟨(World.heap (World.drew (World.alloc V (.cells #[] 79)))).size, 0, none⟩) 1 1) 1 [.string s, .string t] w1 := src_pair z1
      refine step_append_at ?qhgd10 ?qs10 ?qx10 74 74 ?qho10 79 (.agg #[.string ByteArray.empty, .string ByteArray.empty]) 2 32 Tryd.underlying74 info79 rfl g1 o1 cap1 l (textCells L.ts) ?qhsv10 ?qhrow10 (.slice (some ⟨(World.heap (World.drew (World.alloc V (.cells #[] 79)))).size, 0, none⟩) 1 1) ?qhxv10 1 [.string s, .string t] ?qhs10 ?qh110 ?qh210 ?qhh10
      case qho10 => rfl
      case qhgd10 => rfl
      case qhsv10 => rfl
      case qhxv10 => first | rfl | (simp; done) | (rw [show (World.heap (World.drew (World.alloc V (.cells #[] 79)))).size = V.heap.size + 1 by simp]; rfl)
      case qhrow10 => simpa using re2
      case qhs10 => simpa using sp
      case qh110 => simp [maxLen]; omega
      case qh210 => omega
      intro g2 o2 cap2 w2 hr2 hgb2 hg2
      have hgb2' : (w1).grownBy w2 (some g1) := by simpa using hgb2
      have k2 : Kept [] V w2 := Kept.trans k1 (Kept.of_grown hgb2') (fun x hx => .inr (by simp at hx; subst hx; exact hv1))
      refine hK.out _ _ ?_ (fun hHeld2 => ?_)
      · (try dsimp only); exact CF.out _ k2
      clear hK K hHeld
      have hHeld := hHeld2
      clear hHeld2
      (try simp only [Act.put, List.setIfInBounds_toArray, List.set_cons_zero, List.set_cons_succ, List.getElem_toArray, List.getElem_cons_zero, List.getElem_cons_succ])
      have c1x := (CF1.out _ k2).1
      have f1x := (CF1.out _ k2).2
      refine wpAnyH_take (i := 10) (v := ?_) rfl (by kernel_rfl) (by kernel_rfl) (by kernel_rfl) (fun _ _ _ h => h) (Or.inl ⟨by rfl, ?_⟩) (by assumption) ?_
      rotate_left; · (intro w hSw; (try dsimp only at hSw); go_simp; try with_reducible rfl)
      (try simp only [Act.put, List.setIfInBounds_toArray, List.set_cons_zero, List.set_cons_succ, List.getElem_toArray, List.getElem_cons_zero, List.getElem_cons_succ])
      refine wpAnyH_take (i := 11) (v := ?_) rfl (by kernel_rfl) (by kernel_rfl) (by kernel_rfl) (fun _ _ _ h => h) (Or.inl ⟨by rfl, ?_⟩) (by assumption) ?_
      rotate_left; · (intro w hSw; (try dsimp only at hSw); go_simp; try with_reducible rfl)
      (try simp only [Act.put, List.setIfInBounds_toArray, List.set_cons_zero, List.set_cons_succ, List.getElem_toArray, List.getElem_cons_zero, List.getElem_cons_succ])
      refine wpAnyH_ready (rs := [12]) (by kernel_rfl) (by simp) ?_
      refine AllReadyH.cons rfl (fun K hK => ?_) AllReadyH.nil
      (try simp only [List.getElem_toArray, List.getElem_cons_zero, List.getElem_cons_succ])
      go_simp
      refine hK.out _ _ ?_ (fun hHeld2 => ?_)
      · (try dsimp only); exact CF12.out _ _ k2
      clear hK K hHeld
      have hHeld := hHeld2
      clear hHeld2
      (try simp only [Act.put, List.setIfInBounds_toArray, List.set_cons_zero, List.set_cons_succ, List.getElem_toArray, List.getElem_cons_zero, List.getElem_cons_succ])
      refine wpAnyH_done (by kernel_rfl) ?_ _
      obtain ⟨X, hX⟩ : ∃ X, X = w2.setCell ⟨rb, 1, none⟩ (.slice (some ⟨g2, o2, none⟩) (l + 1) cap2) := ⟨_, rfl⟩
      try rw [← hX]
      have hXR : RAt X rb (.slice (some ⟨g2, o2, none⟩) (l + 1) cap2) (L.push (s, t)) := by
        rw [hX]
        refine (HRA.out _ k2).setCell 1 _ rfl (.inr ⟨g2, o2, cap2, ?_, ?_⟩)
        · rw [← HL.out]; simp [Lin.push]
        · have e : textCells (L.push (s, t)).ts = textCells L.ts ++ [.string s, .string t] := by unfold Lin.push; rw [textCells_append]; rfl
          rw [e, show (L.push (s, t)).ts.length = l + 1 by rw [← HL.out]; simp [Lin.push]]
          exact hr2
      have KX : Hid (Kept [rb] w X) := Lib.hid (by
        rw [hX]
        exact ((KW2.out _ k2).mono (fp' := [rb]) (by simp)).trans (Kept.setCell w2 rb 1 _) (by simp))
      have cc := hXR.at2
      have ff := hXR.f 2
      have hb0 : 0 ≤ L.c0 := HOK.out.1
      have hb1 : L.c0 ≤ 1000000 := HOK.out.2.1
      obtain ⟨cv, hcv⟩ : ∃ cv, L.c0 = cv := ⟨_, rfl⟩
      have CV := Lib.hid hcv
      rw [show (L.push (s, t)).c0 = L.c0 from rfl, hcv] at cc
      rw [hcv] at hb0 hb1
      have ew : IntKind.i64.wrap (cv + 1) = cv + 1 := IntWalk.i64_in _ (by omega)
      have F : Hid (RDone w rb { L.push (s, t) with c0 := L.c0 + 1 } (.int .i64 0) (.returned (.int .i64 0)) ((X.setCell ⟨rb, 2, none⟩ (.int .i64 (cv + 1))).drew)) := Lib.hid
        ⟨rfl, _, (hXR.setCell 2 (.int .i64 (cv + 1)) (L' := { L.push (s, t) with c0 := L.c0 + 1 }) (by rw [← CV.out]; rfl) hXR.row).below ⟨rfl, rfl, rfl, Nat.le_refl _, fun _ _ => rfl⟩, (KX.out.trans (Kept.setCell X rb 2 _) (by simp)).drew⟩
      clear hX hr2 k2 hcv hXR
      go_wp2_with fail
      go_still_tail 10, (by kernel_rfl)
      go_wp2
      go_ret
      exact F.out
    refine AllReadyH.cons rfl (fun K hK => ?_) AllReadyH.nil
    (try simp only [List.getElem_toArray, List.getElem_cons_zero, List.getElem_cons_succ])
    go_simp
    refine hK.out _ _ ?_ (fun hHeld2 => ?_)
    · (try dsimp only); exact CF.out _ (Kept.trans KD (show Kept [] (World.drew V) (World.drew (World.alloc V (.cells #[.string s, .string t] 79))) from Kept.alloc (World.drew V) (.cells #[.string s, .string t] 79)) (by simp))
    clear hK K hHeld
    have hHeld := hHeld2
    clear hHeld2
    (try simp only [Act.put, List.setIfInBounds_toArray, List.set_cons_zero, List.set_cons_succ, List.getElem_toArray, List.getElem_cons_zero, List.getElem_cons_succ])
    refine wpAnyH_ready (rs := [1]) (by kernel_rfl) (by simp) ?_
    refine AllReadyH.cons rfl (fun K hK => ?_) AllReadyH.nil
    (try simp only [List.getElem_toArray, List.getElem_cons_zero, List.getElem_cons_succ])
    go_simp
    refine hK.out _ _ ?_ (fun hHeld2 => ?_)
    · (try dsimp only); exact CF.out _ (Kept.trans (Kept.trans KD (show Kept [] (World.drew V) (World.drew (World.alloc V (.cells #[.string s, .string t] 79))) from Kept.alloc (World.drew V) (.cells #[.string s, .string t] 79)) (by simp)) (show Kept [] (World.drew (World.alloc V (.cells #[.string s, .string t] 79))) (World.drew (World.alloc (World.alloc V (.cells #[.string s, .string t] 79)) (.cells #[] 79))) from Kept.alloc (World.drew (World.alloc V (.cells #[.string s, .string t] 79))) (.cells #[] 79)) (by simp))
    clear hK K hHeld
    have hHeld := hHeld2
    clear hHeld2
    (try simp only [Act.put, List.setIfInBounds_toArray, List.set_cons_zero, List.set_cons_succ, List.getElem_toArray, List.getElem_cons_zero, List.getElem_cons_succ])
    refine wpAnyH_ready (rs := [6]) (by kernel_rfl) (by simp) ?_
    refine AllReadyH.cons rfl (fun K hK => ?_) AllReadyH.nil
    skip
    have re : RowAt (World.drew (World.alloc (World.alloc V (.cells #[.string s, .string t] 79)) (.cells #[] 79))) 79 2 (World.heap (World.drew (World.alloc V (.cells #[.string s, .string t] 79)))).size 0 0 0 [] := (show RowAt (World.drew (World.alloc (World.alloc V (.cells #[.string s, .string t] 79)) (.cells #[] 79))) 79 2 (World.heap (World.drew (World.alloc V (.cells #[.string s, .string t] 79)))).size 0 0 0 [] from RowAt.empty (World.drew (World.alloc V (.cells #[.string s, .string t] 79))) 79 2)
    have se : Src Tryd.prog 2 74 (.slice A l cap) l (textCells L.ts) (World.drew (World.alloc (World.alloc V (.cells #[.string s, .string t] 79)) (.cells #[] 79))) := (HRO.out _ (Kept.trans (Kept.trans KD (show Kept [] (World.drew V) (World.drew (World.alloc V (.cells #[.string s, .string t] 79))) from Kept.alloc (World.drew V) (.cells #[.string s, .string t] 79)) (by simp)) (show Kept [] (World.drew (World.alloc V (.cells #[.string s, .string t] 79))) (World.drew (World.alloc (World.alloc V (.cells #[.string s, .string t] 79)) (.cells #[] 79))) from Kept.alloc (World.drew (World.alloc V (.cells #[.string s, .string t] 79))) (.cells #[] 79)) (by simp))).src (textCells_one _) Tryd.underlying74
    refine step_append_at ?qhgd11 ?qs11 ?qx11 74 74 ?qho11 79 (.agg #[.string ByteArray.empty, .string ByteArray.empty]) 2 32 Tryd.underlying74 info79 rfl ?qg11 0 0 0 [] ?qhsv11 ?qhrow11 (.slice A l cap) ?qhxv11 l (textCells L.ts) ?qhs11 ?qh111 ?qh211 ?qhh11
    case qho11 => rfl
    case qhgd11 => rfl
    case qhsv11 => rfl
    case qhxv11 => rfl
    case qhrow11 => simpa using re
    case qhs11 => simpa using se
    case qh111 => simp [maxLen]; omega
    case qh211 => omega
    intro g1 o1 cap1 w1 hr1 hgb1 hg1
    have hgb1' : ((World.drew (World.alloc (World.alloc V (.cells #[.string s, .string t] 79)) (.cells #[] 79)))).grownBy w1 (some (World.heap (World.drew (World.alloc V (.cells #[.string s, .string t] 79)))).size) := by simpa using hgb1
    have hr1' : RowAt w1 79 2 g1 o1 cap1 l (textCells L.ts) := by simpa using hr1
    have hv1 : V.heap.size ≤ g1 := by have p1 := Kept.size (Kept.trans (Kept.trans KD (show Kept [] (World.drew V) (World.drew (World.alloc V (.cells #[.string s, .string t] 79))) from Kept.alloc (World.drew V) (.cells #[.string s, .string t] 79)) (by simp)) (show Kept [] (World.drew (World.alloc V (.cells #[.string s, .string t] 79))) (World.drew (World.alloc (World.alloc V (.cells #[.string s, .string t] 79)) (.cells #[] 79))) from Kept.alloc (World.drew (World.alloc V (.cells #[.string s, .string t] 79))) (.cells #[] 79)) (by simp)); have p2 := Kept.size (Kept.trans KD (show Kept [] (World.drew V) (World.drew (World.alloc V (.cells #[.string s, .string t] 79))) from Kept.alloc (World.drew V) (.cells #[.string s, .string t] 79)) (by simp)); rcases hg1 with h | h <;> (simp at h p1 p2 ⊢; omega)
    have k1 : Kept [] V w1 := Kept.trans (Kept.trans (Kept.trans KD (show Kept [] (World.drew V) (World.drew (World.alloc V (.cells #[.string s, .string t] 79))) from Kept.alloc (World.drew V) (.cells #[.string s, .string t] 79)) (by simp)) (show Kept [] (World.drew (World.alloc V (.cells #[.string s, .string t] 79))) (World.drew (World.alloc (World.alloc V (.cells #[.string s, .string t] 79)) (.cells #[] 79))) from Kept.alloc (World.drew (World.alloc V (.cells #[.string s, .string t] 79))) (.cells #[] 79)) (by simp)) (Kept.of_grown hgb1') (fun x hx => .inr (by simp at hx; subst hx; have p3 := Kept.size (Kept.trans KD (show Kept [] (World.drew V) (World.drew (World.alloc V (.cells #[.string s, .string t] 79))) from Kept.alloc (World.drew V) (.cells #[.string s, .string t] 79)) (by simp)); first | exact p3 | (simp; done) | (simp at p3 ⊢; omega)))
    refine hK.out _ _ ?_ (fun hHeld2 => ?_)
    · (try dsimp only); exact CF.out _ k1
    clear hK K hHeld
    have hHeld := hHeld2
    clear hHeld2
    (try simp only [Act.put, List.setIfInBounds_toArray, List.set_cons_zero, List.set_cons_succ, List.getElem_toArray, List.getElem_cons_zero, List.getElem_cons_succ])
    (try simp only [Nat.zero_add])
    have z1 : w1.heap[(World.heap (World.drew V)).size]? = some (.cells #[.string s, .string t] 79 (0, 0)) := ((Kept.of_grown hgb1').block _ (Array.getElem?_eq_some_iff.1 (((show Kept [] (World.drew (World.alloc V (.cells #[.string s, .string t] 79))) (World.drew (World.alloc (World.alloc V (.cells #[.string s, .string t] 79)) (.cells #[] 79))) from Kept.alloc (World.drew (World.alloc V (.cells #[.string s, .string t] 79))) (.cells #[] 79)).block _ (Array.getElem?_eq_some_iff.1 (show (World.heap (World.drew (World.alloc V (.cells #[.string s, .string t] 79))))[(World.heap (World.drew V)).size]? = some (.cells #[.string s, .string t] 79 (0, 0)) from heap_alloc_new (World.drew V) (.cells #[.string s, .string t] 79))).1 (by simp)).trans (show (World.heap (World.drew (World.alloc V (.cells #[.string s, .string t] 79))))[(World.heap (World.drew V)).size]? = some (.cells #[.string s, .string t] 79 (0, 0)) from heap_alloc_new (World.drew V) (.cells #[.string s, .string t] 79)))).1 (by simp)).trans (((show Kept [] (World.drew (World.alloc V (.cells #[.string s, .string t] 79))) (World.drew (World.alloc (World.alloc V (.cells #[.string s, .string t] 79)) (.cells #[] 79))) from Kept.alloc (World.drew (World.alloc V (.cells #[.string s, .string t] 79))) (.cells #[] 79)).block _ (Array.getElem?_eq_some_iff.1 (show (World.heap (World.drew (World.alloc V (.cells #[.string s, .string t] 79))))[(World.heap (World.drew V)).size]? = some (.cells #[.string s, .string t] 79 (0, 0)) from heap_alloc_new (World.drew V) (.cells #[.string s, .string t] 79))).1 (by simp)).trans (show (World.heap (World.drew (World.alloc V (.cells #[.string s, .string t] 79))))[(World.heap (World.drew V)).size]? = some (.cells #[.string s, .string t] 79 (0, 0)) from heap_alloc_new (World.drew V) (.cells #[.string s, .string t] 79)))
    refine wpAnyH_ready (rs := [9]) (by kernel_rfl) (by simp) ?_
    refine AllReadyH.cons rfl (fun K hK => ?_) AllReadyH.nil
    skip
    have re2 : RowAt w1 79 2 g1 o1 cap1 l (textCells L.ts) := hr1'
    have sp : Src Tryd.prog 2 74 (.slice (some ⟨(World.heap (World.drew V)).size, 0, none⟩) 1 1) 1 [.string s, .string t] w1 := src_pair z1
    refine step_append_at ?qhgd12 ?qs12 ?qx12 74 74 ?qho12 79 (.agg #[.string ByteArray.empty, .string ByteArray.empty]) 2 32 Tryd.underlying74 info79 rfl g1 o1 cap1 l (textCells L.ts) ?qhsv12 ?qhrow12 (.slice (some ⟨(World.heap (World.drew V)).size, 0, none⟩) 1 1) ?qhxv12 1 [.string s, .string t] ?qhs12 ?qh112 ?qh212 ?qhh12
    case qho12 => rfl
    case qhgd12 => rfl
    case qhsv12 => rfl
    case qhxv12 => first | rfl | (simp; done) | (rw [show (World.heap (World.drew V)).size = V.heap.size + 1 by simp]; rfl)
    case qhrow12 => simpa using re2
    case qhs12 => simpa using sp
    case qh112 => simp [maxLen]; omega
    case qh212 => omega
    intro g2 o2 cap2 w2 hr2 hgb2 hg2
    have hgb2' : (w1).grownBy w2 (some g1) := by simpa using hgb2
    have k2 : Kept [] V w2 := Kept.trans k1 (Kept.of_grown hgb2') (fun x hx => .inr (by simp at hx; subst hx; exact hv1))
    refine hK.out _ _ ?_ (fun hHeld2 => ?_)
    · (try dsimp only); exact CF.out _ k2
    clear hK K hHeld
    have hHeld := hHeld2
    clear hHeld2
    (try simp only [Act.put, List.setIfInBounds_toArray, List.set_cons_zero, List.set_cons_succ, List.getElem_toArray, List.getElem_cons_zero, List.getElem_cons_succ])
    have c1x := (CF1.out _ k2).1
    have f1x := (CF1.out _ k2).2
    refine wpAnyH_take (i := 10) (v := ?_) rfl (by kernel_rfl) (by kernel_rfl) (by kernel_rfl) (fun _ _ _ h => h) (Or.inl ⟨by rfl, ?_⟩) (by assumption) ?_
    rotate_left; · (intro w hSw; (try dsimp only at hSw); go_simp; try with_reducible rfl)
    (try simp only [Act.put, List.setIfInBounds_toArray, List.set_cons_zero, List.set_cons_succ, List.getElem_toArray, List.getElem_cons_zero, List.getElem_cons_succ])
    refine wpAnyH_take (i := 11) (v := ?_) rfl (by kernel_rfl) (by kernel_rfl) (by kernel_rfl) (fun _ _ _ h => h) (Or.inl ⟨by rfl, ?_⟩) (by assumption) ?_
    rotate_left; · (intro w hSw; (try dsimp only at hSw); go_simp; try with_reducible rfl)
    (try simp only [Act.put, List.setIfInBounds_toArray, List.set_cons_zero, List.set_cons_succ, List.getElem_toArray, List.getElem_cons_zero, List.getElem_cons_succ])
    refine wpAnyH_ready (rs := [12]) (by kernel_rfl) (by simp) ?_
    refine AllReadyH.cons rfl (fun K hK => ?_) AllReadyH.nil
    (try simp only [List.getElem_toArray, List.getElem_cons_zero, List.getElem_cons_succ])
    go_simp
    refine hK.out _ _ ?_ (fun hHeld2 => ?_)
    · (try dsimp only); exact CF12.out _ _ k2
    clear hK K hHeld
    have hHeld := hHeld2
    clear hHeld2
    (try simp only [Act.put, List.setIfInBounds_toArray, List.set_cons_zero, List.set_cons_succ, List.getElem_toArray, List.getElem_cons_zero, List.getElem_cons_succ])
    refine wpAnyH_done (by kernel_rfl) ?_ _
    obtain ⟨X, hX⟩ : ∃ X, X = w2.setCell ⟨rb, 1, none⟩ (.slice (some ⟨g2, o2, none⟩) (l + 1) cap2) := ⟨_, rfl⟩
    try rw [← hX]
    have hXR : RAt X rb (.slice (some ⟨g2, o2, none⟩) (l + 1) cap2) (L.push (s, t)) := by
      rw [hX]
      refine (HRA.out _ k2).setCell 1 _ rfl (.inr ⟨g2, o2, cap2, ?_, ?_⟩)
      · rw [← HL.out]; simp [Lin.push]
      · have e : textCells (L.push (s, t)).ts = textCells L.ts ++ [.string s, .string t] := by unfold Lin.push; rw [textCells_append]; rfl
        rw [e, show (L.push (s, t)).ts.length = l + 1 by rw [← HL.out]; simp [Lin.push]]
        exact hr2
    have KX : Hid (Kept [rb] w X) := Lib.hid (by
      rw [hX]
      exact ((KW2.out _ k2).mono (fp' := [rb]) (by simp)).trans (Kept.setCell w2 rb 1 _) (by simp))
    have cc := hXR.at2
    have ff := hXR.f 2
    have hb0 : 0 ≤ L.c0 := HOK.out.1
    have hb1 : L.c0 ≤ 1000000 := HOK.out.2.1
    obtain ⟨cv, hcv⟩ : ∃ cv, L.c0 = cv := ⟨_, rfl⟩
    have CV := Lib.hid hcv
    rw [show (L.push (s, t)).c0 = L.c0 from rfl, hcv] at cc
    rw [hcv] at hb0 hb1
    have ew : IntKind.i64.wrap (cv + 1) = cv + 1 := IntWalk.i64_in _ (by omega)
    have F : Hid (RDone w rb { L.push (s, t) with c0 := L.c0 + 1 } (.int .i64 0) (.returned (.int .i64 0)) ((X.setCell ⟨rb, 2, none⟩ (.int .i64 (cv + 1))).drew)) := Lib.hid
      ⟨rfl, _, (hXR.setCell 2 (.int .i64 (cv + 1)) (L' := { L.push (s, t) with c0 := L.c0 + 1 }) (by rw [← CV.out]; rfl) hXR.row).below ⟨rfl, rfl, rfl, Nat.le_refl _, fun _ _ => rfl⟩, (KX.out.trans (Kept.setCell X rb 2 _) (by simp)).drew⟩
    clear hX hr2 k2 hcv hXR
    go_wp2_with fail
    go_still_tail 10, (by kernel_rfl)
    go_wp2
    go_ret
    exact F.out
  refine AllReadyH.cons rfl (fun K hK => ?_) AllReadyH.nil
  (try simp only [List.getElem_toArray, List.getElem_cons_zero, List.getElem_cons_succ])
  go_simp
  refine hK.out _ _ ?_ (fun hHeld2 => ?_)
  · (try dsimp only); exact CF.out _ (Kept.trans KD (show Kept [] (World.drew V) (World.drew (World.alloc V (.cells #[.string s, .string t] 79))) from Kept.alloc (World.drew V) (.cells #[.string s, .string t] 79)) (by simp))
  clear hK K hHeld
  have hHeld := hHeld2
  clear hHeld2
  (try simp only [Act.put, List.setIfInBounds_toArray, List.set_cons_zero, List.set_cons_succ, List.getElem_toArray, List.getElem_cons_zero, List.getElem_cons_succ])
  refine wpAnyH_ready (rs := [1, 5]) (by kernel_rfl) (by simp) ?_
  refine AllReadyH.cons rfl (fun K hK => ?_) ?_
  · (try simp only [List.getElem_toArray, List.getElem_cons_zero, List.getElem_cons_succ])
    go_simp
    refine hK.out _ _ ?_ (fun hHeld2 => ?_)
    · (try dsimp only); exact CF.out _ (Kept.trans (Kept.trans KD (show Kept [] (World.drew V) (World.drew (World.alloc V (.cells #[.string s, .string t] 79))) from Kept.alloc (World.drew V) (.cells #[.string s, .string t] 79)) (by simp)) (show Kept [] (World.drew (World.alloc V (.cells #[.string s, .string t] 79))) (World.drew (World.alloc (World.alloc V (.cells #[.string s, .string t] 79)) (.cells #[] 79))) from Kept.alloc (World.drew (World.alloc V (.cells #[.string s, .string t] 79))) (.cells #[] 79)) (by simp))
    clear hK K hHeld
    have hHeld := hHeld2
    clear hHeld2
    (try simp only [Act.put, List.setIfInBounds_toArray, List.set_cons_zero, List.set_cons_succ, List.getElem_toArray, List.getElem_cons_zero, List.getElem_cons_succ])
    refine wpAnyH_ready (rs := [5]) (by kernel_rfl) (by simp) ?_
    refine AllReadyH.cons rfl (fun K hK => ?_) AllReadyH.nil
    (try simp only [List.getElem_toArray, List.getElem_cons_zero, List.getElem_cons_succ])
    have c1x : ((World.drew (World.alloc (World.alloc V (.cells #[.string s, .string t] 79)) (.cells #[] 79)))).cell? ⟨rb, 1, none⟩ = some (.slice A l cap) := (CF1.out _ (Kept.trans (Kept.trans KD (show Kept [] (World.drew V) (World.drew (World.alloc V (.cells #[.string s, .string t] 79))) from Kept.alloc (World.drew V) (.cells #[.string s, .string t] 79)) (by simp)) (show Kept [] (World.drew (World.alloc V (.cells #[.string s, .string t] 79))) (World.drew (World.alloc (World.alloc V (.cells #[.string s, .string t] 79)) (.cells #[] 79))) from Kept.alloc (World.drew (World.alloc V (.cells #[.string s, .string t] 79))) (.cells #[] 79)) (by simp))).1
    go_simp
    clear c1x
    refine hK.out _ _ ?_ (fun hHeld2 => ?_)
    · (try dsimp only); exact CF.out _ (Kept.trans (Kept.trans KD (show Kept [] (World.drew V) (World.drew (World.alloc V (.cells #[.string s, .string t] 79))) from Kept.alloc (World.drew V) (.cells #[.string s, .string t] 79)) (by simp)) (show Kept [] (World.drew (World.alloc V (.cells #[.string s, .string t] 79))) (World.drew (World.alloc (World.alloc V (.cells #[.string s, .string t] 79)) (.cells #[] 79))) from Kept.alloc (World.drew (World.alloc V (.cells #[.string s, .string t] 79))) (.cells #[] 79)) (by simp))
    clear hK K hHeld
    have hHeld := hHeld2
    clear hHeld2
    (try simp only [Act.put, List.setIfInBounds_toArray, List.set_cons_zero, List.set_cons_succ, List.getElem_toArray, List.getElem_cons_zero, List.getElem_cons_succ])
    refine wpAnyH_ready (rs := [6]) (by kernel_rfl) (by simp) ?_
    refine AllReadyH.cons rfl (fun K hK => ?_) AllReadyH.nil
    skip
    have re : RowAt (World.drew (World.alloc (World.alloc V (.cells #[.string s, .string t] 79)) (.cells #[] 79))) 79 2 (World.heap (World.drew (World.alloc V (.cells #[.string s, .string t] 79)))).size 0 0 0 [] := (show RowAt (World.drew (World.alloc (World.alloc V (.cells #[.string s, .string t] 79)) (.cells #[] 79))) 79 2 (World.heap (World.drew (World.alloc V (.cells #[.string s, .string t] 79)))).size 0 0 0 [] from RowAt.empty (World.drew (World.alloc V (.cells #[.string s, .string t] 79))) 79 2)
    have se : Src Tryd.prog 2 74 (.slice A l cap) l (textCells L.ts) (World.drew (World.alloc (World.alloc V (.cells #[.string s, .string t] 79)) (.cells #[] 79))) := (HRO.out _ (Kept.trans (Kept.trans KD (show Kept [] (World.drew V) (World.drew (World.alloc V (.cells #[.string s, .string t] 79))) from Kept.alloc (World.drew V) (.cells #[.string s, .string t] 79)) (by simp)) (show Kept [] (World.drew (World.alloc V (.cells #[.string s, .string t] 79))) (World.drew (World.alloc (World.alloc V (.cells #[.string s, .string t] 79)) (.cells #[] 79))) from Kept.alloc (World.drew (World.alloc V (.cells #[.string s, .string t] 79))) (.cells #[] 79)) (by simp))).src (textCells_one _) Tryd.underlying74
    refine step_append_at ?qhgd13 ?qs13 ?qx13 74 74 ?qho13 79 (.agg #[.string ByteArray.empty, .string ByteArray.empty]) 2 32 Tryd.underlying74 info79 rfl ?qg13 0 0 0 [] ?qhsv13 ?qhrow13 (.slice A l cap) ?qhxv13 l (textCells L.ts) ?qhs13 ?qh113 ?qh213 ?qhh13
    case qho13 => rfl
    case qhgd13 => rfl
    case qhsv13 => rfl
    case qhxv13 => rfl
    case qhrow13 => simpa using re
    case qhs13 => simpa using se
    case qh113 => simp [maxLen]; omega
    case qh213 => omega
    intro g1 o1 cap1 w1 hr1 hgb1 hg1
    have hgb1' : ((World.drew (World.alloc (World.alloc V (.cells #[.string s, .string t] 79)) (.cells #[] 79)))).grownBy w1 (some (World.heap (World.drew (World.alloc V (.cells #[.string s, .string t] 79)))).size) := by simpa using hgb1
    have hr1' : RowAt w1 79 2 g1 o1 cap1 l (textCells L.ts) := by simpa using hr1
    have hv1 : V.heap.size ≤ g1 := by have p1 := Kept.size (Kept.trans (Kept.trans KD (show Kept [] (World.drew V) (World.drew (World.alloc V (.cells #[.string s, .string t] 79))) from Kept.alloc (World.drew V) (.cells #[.string s, .string t] 79)) (by simp)) (show Kept [] (World.drew (World.alloc V (.cells #[.string s, .string t] 79))) (World.drew (World.alloc (World.alloc V (.cells #[.string s, .string t] 79)) (.cells #[] 79))) from Kept.alloc (World.drew (World.alloc V (.cells #[.string s, .string t] 79))) (.cells #[] 79)) (by simp)); have p2 := Kept.size (Kept.trans KD (show Kept [] (World.drew V) (World.drew (World.alloc V (.cells #[.string s, .string t] 79))) from Kept.alloc (World.drew V) (.cells #[.string s, .string t] 79)) (by simp)); rcases hg1 with h | h <;> (simp at h p1 p2 ⊢; omega)
    have k1 : Kept [] V w1 := Kept.trans (Kept.trans (Kept.trans KD (show Kept [] (World.drew V) (World.drew (World.alloc V (.cells #[.string s, .string t] 79))) from Kept.alloc (World.drew V) (.cells #[.string s, .string t] 79)) (by simp)) (show Kept [] (World.drew (World.alloc V (.cells #[.string s, .string t] 79))) (World.drew (World.alloc (World.alloc V (.cells #[.string s, .string t] 79)) (.cells #[] 79))) from Kept.alloc (World.drew (World.alloc V (.cells #[.string s, .string t] 79))) (.cells #[] 79)) (by simp)) (Kept.of_grown hgb1') (fun x hx => .inr (by simp at hx; subst hx; have p3 := Kept.size (Kept.trans KD (show Kept [] (World.drew V) (World.drew (World.alloc V (.cells #[.string s, .string t] 79))) from Kept.alloc (World.drew V) (.cells #[.string s, .string t] 79)) (by simp)); first | exact p3 | (simp; done) | (simp at p3 ⊢; omega)))
    refine hK.out _ _ ?_ (fun hHeld2 => ?_)
    · (try dsimp only); exact CF.out _ k1
    clear hK K hHeld
    have hHeld := hHeld2
    clear hHeld2
    (try simp only [Act.put, List.setIfInBounds_toArray, List.set_cons_zero, List.set_cons_succ, List.getElem_toArray, List.getElem_cons_zero, List.getElem_cons_succ])
    (try simp only [Nat.zero_add])
    have z1 : w1.heap[(World.heap (World.drew V)).size]? = some (.cells #[.string s, .string t] 79 (0, 0)) := ((Kept.of_grown hgb1').block _ (Array.getElem?_eq_some_iff.1 (((show Kept [] (World.drew (World.alloc V (.cells #[.string s, .string t] 79))) (World.drew (World.alloc (World.alloc V (.cells #[.string s, .string t] 79)) (.cells #[] 79))) from Kept.alloc (World.drew (World.alloc V (.cells #[.string s, .string t] 79))) (.cells #[] 79)).block _ (Array.getElem?_eq_some_iff.1 (show (World.heap (World.drew (World.alloc V (.cells #[.string s, .string t] 79))))[(World.heap (World.drew V)).size]? = some (.cells #[.string s, .string t] 79 (0, 0)) from heap_alloc_new (World.drew V) (.cells #[.string s, .string t] 79))).1 (by simp)).trans (show (World.heap (World.drew (World.alloc V (.cells #[.string s, .string t] 79))))[(World.heap (World.drew V)).size]? = some (.cells #[.string s, .string t] 79 (0, 0)) from heap_alloc_new (World.drew V) (.cells #[.string s, .string t] 79)))).1 (by simp)).trans (((show Kept [] (World.drew (World.alloc V (.cells #[.string s, .string t] 79))) (World.drew (World.alloc (World.alloc V (.cells #[.string s, .string t] 79)) (.cells #[] 79))) from Kept.alloc (World.drew (World.alloc V (.cells #[.string s, .string t] 79))) (.cells #[] 79)).block _ (Array.getElem?_eq_some_iff.1 (show (World.heap (World.drew (World.alloc V (.cells #[.string s, .string t] 79))))[(World.heap (World.drew V)).size]? = some (.cells #[.string s, .string t] 79 (0, 0)) from heap_alloc_new (World.drew V) (.cells #[.string s, .string t] 79))).1 (by simp)).trans (show (World.heap (World.drew (World.alloc V (.cells #[.string s, .string t] 79))))[(World.heap (World.drew V)).size]? = some (.cells #[.string s, .string t] 79 (0, 0)) from heap_alloc_new (World.drew V) (.cells #[.string s, .string t] 79)))
    refine wpAnyH_ready (rs := [9]) (by kernel_rfl) (by simp) ?_
    refine AllReadyH.cons rfl (fun K hK => ?_) AllReadyH.nil
    skip
    have re2 : RowAt w1 79 2 g1 o1 cap1 l (textCells L.ts) := hr1'
    have sp : Src Tryd.prog 2 74 (.slice (some ⟨(World.heap (World.drew V)).size, 0, none⟩) 1 1) 1 [.string s, .string t] w1 := src_pair z1
    refine step_append_at ?qhgd14 ?qs14 ?qx14 74 74 ?qho14 79 (.agg #[.string ByteArray.empty, .string ByteArray.empty]) 2 32 Tryd.underlying74 info79 rfl g1 o1 cap1 l (textCells L.ts) ?qhsv14 ?qhrow14 (.slice (some ⟨(World.heap (World.drew V)).size, 0, none⟩) 1 1) ?qhxv14 1 [.string s, .string t] ?qhs14 ?qh114 ?qh214 ?qhh14
    case qho14 => rfl
    case qhgd14 => rfl
    case qhsv14 => rfl
    case qhxv14 => first | rfl | (simp; done) | (rw [show (World.heap (World.drew V)).size = V.heap.size + 1 by simp]; rfl)
    case qhrow14 => simpa using re2
    case qhs14 => simpa using sp
    case qh114 => simp [maxLen]; omega
    case qh214 => omega
    intro g2 o2 cap2 w2 hr2 hgb2 hg2
    have hgb2' : (w1).grownBy w2 (some g1) := by simpa using hgb2
    have k2 : Kept [] V w2 := Kept.trans k1 (Kept.of_grown hgb2') (fun x hx => .inr (by simp at hx; subst hx; exact hv1))
    refine hK.out _ _ ?_ (fun hHeld2 => ?_)
    · (try dsimp only); exact CF.out _ k2
    clear hK K hHeld
    have hHeld := hHeld2
    clear hHeld2
    (try simp only [Act.put, List.setIfInBounds_toArray, List.set_cons_zero, List.set_cons_succ, List.getElem_toArray, List.getElem_cons_zero, List.getElem_cons_succ])
    have c1x := (CF1.out _ k2).1
    have f1x := (CF1.out _ k2).2
    refine wpAnyH_take (i := 10) (v := ?_) rfl (by kernel_rfl) (by kernel_rfl) (by kernel_rfl) (fun _ _ _ h => h) (Or.inl ⟨by rfl, ?_⟩) (by assumption) ?_
    rotate_left; · (intro w hSw; (try dsimp only at hSw); go_simp; try with_reducible rfl)
    (try simp only [Act.put, List.setIfInBounds_toArray, List.set_cons_zero, List.set_cons_succ, List.getElem_toArray, List.getElem_cons_zero, List.getElem_cons_succ])
    refine wpAnyH_take (i := 11) (v := ?_) rfl (by kernel_rfl) (by kernel_rfl) (by kernel_rfl) (fun _ _ _ h => h) (Or.inl ⟨by rfl, ?_⟩) (by assumption) ?_
    rotate_left; · (intro w hSw; (try dsimp only at hSw); go_simp; try with_reducible rfl)
    (try simp only [Act.put, List.setIfInBounds_toArray, List.set_cons_zero, List.set_cons_succ, List.getElem_toArray, List.getElem_cons_zero, List.getElem_cons_succ])
    refine wpAnyH_ready (rs := [12]) (by kernel_rfl) (by simp) ?_
    refine AllReadyH.cons rfl (fun K hK => ?_) AllReadyH.nil
    (try simp only [List.getElem_toArray, List.getElem_cons_zero, List.getElem_cons_succ])
    go_simp
    refine hK.out _ _ ?_ (fun hHeld2 => ?_)
    · (try dsimp only); exact CF12.out _ _ k2
    clear hK K hHeld
    have hHeld := hHeld2
    clear hHeld2
    (try simp only [Act.put, List.setIfInBounds_toArray, List.set_cons_zero, List.set_cons_succ, List.getElem_toArray, List.getElem_cons_zero, List.getElem_cons_succ])
    refine wpAnyH_done (by kernel_rfl) ?_ _
    obtain ⟨X, hX⟩ : ∃ X, X = w2.setCell ⟨rb, 1, none⟩ (.slice (some ⟨g2, o2, none⟩) (l + 1) cap2) := ⟨_, rfl⟩
    try rw [← hX]
    have hXR : RAt X rb (.slice (some ⟨g2, o2, none⟩) (l + 1) cap2) (L.push (s, t)) := by
      rw [hX]
      refine (HRA.out _ k2).setCell 1 _ rfl (.inr ⟨g2, o2, cap2, ?_, ?_⟩)
      · rw [← HL.out]; simp [Lin.push]
      · have e : textCells (L.push (s, t)).ts = textCells L.ts ++ [.string s, .string t] := by unfold Lin.push; rw [textCells_append]; rfl
        rw [e, show (L.push (s, t)).ts.length = l + 1 by rw [← HL.out]; simp [Lin.push]]
        exact hr2
    have KX : Hid (Kept [rb] w X) := Lib.hid (by
      rw [hX]
      exact ((KW2.out _ k2).mono (fp' := [rb]) (by simp)).trans (Kept.setCell w2 rb 1 _) (by simp))
    have cc := hXR.at2
    have ff := hXR.f 2
    have hb0 : 0 ≤ L.c0 := HOK.out.1
    have hb1 : L.c0 ≤ 1000000 := HOK.out.2.1
    obtain ⟨cv, hcv⟩ : ∃ cv, L.c0 = cv := ⟨_, rfl⟩
    have CV := Lib.hid hcv
    rw [show (L.push (s, t)).c0 = L.c0 from rfl, hcv] at cc
    rw [hcv] at hb0 hb1
    have ew : IntKind.i64.wrap (cv + 1) = cv + 1 := IntWalk.i64_in _ (by omega)
    have F : Hid (RDone w rb { L.push (s, t) with c0 := L.c0 + 1 } (.int .i64 0) (.returned (.int .i64 0)) ((X.setCell ⟨rb, 2, none⟩ (.int .i64 (cv + 1))).drew)) := Lib.hid
      ⟨rfl, _, (hXR.setCell 2 (.int .i64 (cv + 1)) (L' := { L.push (s, t) with c0 := L.c0 + 1 }) (by rw [← CV.out]; rfl) hXR.row).below ⟨rfl, rfl, rfl, Nat.le_refl _, fun _ _ => rfl⟩, (KX.out.trans (Kept.setCell X rb 2 _) (by simp)).drew⟩
    clear hX hr2 k2 hcv hXR
    go_wp2_with fail
    go_still_tail 10, (by kernel_rfl)
    go_wp2
    go_ret
    exact F.out
  refine AllReadyH.cons rfl (fun K hK => ?_) AllReadyH.nil
  (try simp only [List.getElem_toArray, List.getElem_cons_zero, List.getElem_cons_succ])
  have c1x : ((World.drew (World.alloc V (.cells #[.string s, .string t] 79)))).cell? ⟨rb, 1, none⟩ = some (.slice A l cap) := (CF1.out _ (Kept.trans KD (show Kept [] (World.drew V) (World.drew (World.alloc V (.cells #[.string s, .string t] 79))) from Kept.alloc (World.drew V) (.cells #[.string s, .string t] 79)) (by simp))).1
  go_simp
  clear c1x
  refine hK.out _ _ ?_ (fun hHeld2 => ?_)
  · (try dsimp only); exact CF.out _ (Kept.trans KD (show Kept [] (World.drew V) (World.drew (World.alloc V (.cells #[.string s, .string t] 79))) from Kept.alloc (World.drew V) (.cells #[.string s, .string t] 79)) (by simp))
  clear hK K hHeld
  have hHeld := hHeld2
  clear hHeld2
  (try simp only [Act.put, List.setIfInBounds_toArray, List.set_cons_zero, List.set_cons_succ, List.getElem_toArray, List.getElem_cons_zero, List.getElem_cons_succ])
  refine wpAnyH_ready (rs := [1]) (by kernel_rfl) (by simp) ?_
  refine AllReadyH.cons rfl (fun K hK => ?_) AllReadyH.nil
  (try simp only [List.getElem_toArray, List.getElem_cons_zero, List.getElem_cons_succ])
  go_simp
  refine hK.out _ _ ?_ (fun hHeld2 => ?_)
  · (try dsimp only); exact CF.out _ (Kept.trans (Kept.trans KD (show Kept [] (World.drew V) (World.drew (World.alloc V (.cells #[.string s, .string t] 79))) from Kept.alloc (World.drew V) (.cells #[.string s, .string t] 79)) (by simp)) (show Kept [] (World.drew (World.alloc V (.cells #[.string s, .string t] 79))) (World.drew (World.alloc (World.alloc V (.cells #[.string s, .string t] 79)) (.cells #[] 79))) from Kept.alloc (World.drew (World.alloc V (.cells #[.string s, .string t] 79))) (.cells #[] 79)) (by simp))
  clear hK K hHeld
  have hHeld := hHeld2
  clear hHeld2
  (try simp only [Act.put, List.setIfInBounds_toArray, List.set_cons_zero, List.set_cons_succ, List.getElem_toArray, List.getElem_cons_zero, List.getElem_cons_succ])
  refine wpAnyH_ready (rs := [6]) (by kernel_rfl) (by simp) ?_
  refine AllReadyH.cons rfl (fun K hK => ?_) AllReadyH.nil
  skip
  have re : RowAt (World.drew (World.alloc (World.alloc V (.cells #[.string s, .string t] 79)) (.cells #[] 79))) 79 2 (World.heap (World.drew (World.alloc V (.cells #[.string s, .string t] 79)))).size 0 0 0 [] := (show RowAt (World.drew (World.alloc (World.alloc V (.cells #[.string s, .string t] 79)) (.cells #[] 79))) 79 2 (World.heap (World.drew (World.alloc V (.cells #[.string s, .string t] 79)))).size 0 0 0 [] from RowAt.empty (World.drew (World.alloc V (.cells #[.string s, .string t] 79))) 79 2)
  have se : Src Tryd.prog 2 74 (.slice A l cap) l (textCells L.ts) (World.drew (World.alloc (World.alloc V (.cells #[.string s, .string t] 79)) (.cells #[] 79))) := (HRO.out _ (Kept.trans (Kept.trans KD (show Kept [] (World.drew V) (World.drew (World.alloc V (.cells #[.string s, .string t] 79))) from Kept.alloc (World.drew V) (.cells #[.string s, .string t] 79)) (by simp)) (show Kept [] (World.drew (World.alloc V (.cells #[.string s, .string t] 79))) (World.drew (World.alloc (World.alloc V (.cells #[.string s, .string t] 79)) (.cells #[] 79))) from Kept.alloc (World.drew (World.alloc V (.cells #[.string s, .string t] 79))) (.cells #[] 79)) (by simp))).src (textCells_one _) Tryd.underlying74
  refine step_append_at ?qhgd15 ?qs15 ?qx15 74 74 ?qho15 79 (.agg #[.string ByteArray.empty, .string ByteArray.empty]) 2 32 Tryd.underlying74 info79 rfl ?qg15 0 0 0 [] ?qhsv15 ?qhrow15 (.slice A l cap) ?qhxv15 l (textCells L.ts) ?qhs15 ?qh115 ?qh215 ?qhh15
  case qho15 => rfl
  case qhgd15 => rfl
  case qhsv15 => rfl
  case qhxv15 => rfl
  case qhrow15 => simpa using re
  case qhs15 => simpa using se
  case qh115 => simp [maxLen]; omega
  case qh215 => omega
  intro g1 o1 cap1 w1 hr1 hgb1 hg1
  have hgb1' : ((World.drew (World.alloc (World.alloc V (.cells #[.string s, .string t] 79)) (.cells #[] 79)))).grownBy w1 (some (World.heap (World.drew (World.alloc V (.cells #[.string s, .string t] 79)))).size) := by simpa using hgb1
  have hr1' : RowAt w1 79 2 g1 o1 cap1 l (textCells L.ts) := by simpa using hr1
  have hv1 : V.heap.size ≤ g1 := by have p1 := Kept.size (Kept.trans (Kept.trans KD (show Kept [] (World.drew V) (World.drew (World.alloc V (.cells #[.string s, .string t] 79))) from Kept.alloc (World.drew V) (.cells #[.string s, .string t] 79)) (by simp)) (show Kept [] (World.drew (World.alloc V (.cells #[.string s, .string t] 79))) (World.drew (World.alloc (World.alloc V (.cells #[.string s, .string t] 79)) (.cells #[] 79))) from Kept.alloc (World.drew (World.alloc V (.cells #[.string s, .string t] 79))) (.cells #[] 79)) (by simp)); have p2 := Kept.size (Kept.trans KD (show Kept [] (World.drew V) (World.drew (World.alloc V (.cells #[.string s, .string t] 79))) from Kept.alloc (World.drew V) (.cells #[.string s, .string t] 79)) (by simp)); rcases hg1 with h | h <;> (simp at h p1 p2 ⊢; omega)
  have k1 : Kept [] V w1 := Kept.trans (Kept.trans (Kept.trans KD (show Kept [] (World.drew V) (World.drew (World.alloc V (.cells #[.string s, .string t] 79))) from Kept.alloc (World.drew V) (.cells #[.string s, .string t] 79)) (by simp)) (show Kept [] (World.drew (World.alloc V (.cells #[.string s, .string t] 79))) (World.drew (World.alloc (World.alloc V (.cells #[.string s, .string t] 79)) (.cells #[] 79))) from Kept.alloc (World.drew (World.alloc V (.cells #[.string s, .string t] 79))) (.cells #[] 79)) (by simp)) (Kept.of_grown hgb1') (fun x hx => .inr (by simp at hx; subst hx; have p3 := Kept.size (Kept.trans KD (show Kept [] (World.drew V) (World.drew (World.alloc V (.cells #[.string s, .string t] 79))) from Kept.alloc (World.drew V) (.cells #[.string s, .string t] 79)) (by simp)); first | exact p3 | (simp; done) | (simp at p3 ⊢; omega)))
  refine hK.out _ _ ?_ (fun hHeld2 => ?_)
  · (try dsimp only); exact CF.out _ k1
  clear hK K hHeld
  have hHeld := hHeld2
  clear hHeld2
  (try simp only [Act.put, List.setIfInBounds_toArray, List.set_cons_zero, List.set_cons_succ, List.getElem_toArray, List.getElem_cons_zero, List.getElem_cons_succ])
  (try simp only [Nat.zero_add])
  have z1 : w1.heap[(World.heap (World.drew V)).size]? = some (.cells #[.string s, .string t] 79 (0, 0)) := ((Kept.of_grown hgb1').block _ (Array.getElem?_eq_some_iff.1 (((show Kept [] (World.drew (World.alloc V (.cells #[.string s, .string t] 79))) (World.drew (World.alloc (World.alloc V (.cells #[.string s, .string t] 79)) (.cells #[] 79))) from Kept.alloc (World.drew (World.alloc V (.cells #[.string s, .string t] 79))) (.cells #[] 79)).block _ (Array.getElem?_eq_some_iff.1 (show (World.heap (World.drew (World.alloc V (.cells #[.string s, .string t] 79))))[(World.heap (World.drew V)).size]? = some (.cells #[.string s, .string t] 79 (0, 0)) from heap_alloc_new (World.drew V) (.cells #[.string s, .string t] 79))).1 (by simp)).trans (show (World.heap (World.drew (World.alloc V (.cells #[.string s, .string t] 79))))[(World.heap (World.drew V)).size]? = some (.cells #[.string s, .string t] 79 (0, 0)) from heap_alloc_new (World.drew V) (.cells #[.string s, .string t] 79)))).1 (by simp)).trans (((show Kept [] (World.drew (World.alloc V (.cells #[.string s, .string t] 79))) (World.drew (World.alloc (World.alloc V (.cells #[.string s, .string t] 79)) (.cells #[] 79))) from Kept.alloc (World.drew (World.alloc V (.cells #[.string s, .string t] 79))) (.cells #[] 79)).block _ (Array.getElem?_eq_some_iff.1 (show (World.heap (World.drew (World.alloc V (.cells #[.string s, .string t] 79))))[(World.heap (World.drew V)).size]? = some (.cells #[.string s, .string t] 79 (0, 0)) from heap_alloc_new (World.drew V) (.cells #[.string s, .string t] 79))).1 (by simp)).trans (show (World.heap (World.drew (World.alloc V (.cells #[.string s, .string t] 79))))[(World.heap (World.drew V)).size]? = some (.cells #[.string s, .string t] 79 (0, 0)) from heap_alloc_new (World.drew V) (.cells #[.string s, .string t] 79)))
  refine wpAnyH_ready (rs := [9]) (by kernel_rfl) (by simp) ?_
  refine AllReadyH.cons rfl (fun K hK => ?_) AllReadyH.nil
  skip
  have re2 : RowAt w1 79 2 g1 o1 cap1 l (textCells L.ts) := hr1'
  have sp : Src Tryd.prog 2 74 (.slice (some ⟨(World.heap (World.drew V)).size, 0, none⟩) 1 1) 1 [.string s, .string t] w1 := src_pair z1
  refine step_append_at ?qhgd16 ?qs16 ?qx16 74 74 ?qho16 79 (.agg #[.string ByteArray.empty, .string ByteArray.empty]) 2 32 Tryd.underlying74 info79 rfl g1 o1 cap1 l (textCells L.ts) ?qhsv16 ?qhrow16 (.slice (some ⟨(World.heap (World.drew V)).size, 0, none⟩) 1 1) ?qhxv16 1 [.string s, .string t] ?qhs16 ?qh116 ?qh216 ?qhh16
  case qho16 => rfl
  case qhgd16 => rfl
  case qhsv16 => rfl
  case qhxv16 => first | rfl | (simp; done) | (rw [show (World.heap (World.drew V)).size = V.heap.size + 1 by simp]; rfl)
  case qhrow16 => simpa using re2
  case qhs16 => simpa using sp
  case qh116 => simp [maxLen]; omega
  case qh216 => omega
  intro g2 o2 cap2 w2 hr2 hgb2 hg2
  have hgb2' : (w1).grownBy w2 (some g1) := by simpa using hgb2
  have k2 : Kept [] V w2 := Kept.trans k1 (Kept.of_grown hgb2') (fun x hx => .inr (by simp at hx; subst hx; exact hv1))
  refine hK.out _ _ ?_ (fun hHeld2 => ?_)
  · (try dsimp only); exact CF.out _ k2
  clear hK K hHeld
  have hHeld := hHeld2
  clear hHeld2
  (try simp only [Act.put, List.setIfInBounds_toArray, List.set_cons_zero, List.set_cons_succ, List.getElem_toArray, List.getElem_cons_zero, List.getElem_cons_succ])
  have c1x := (CF1.out _ k2).1
  have f1x := (CF1.out _ k2).2
  refine wpAnyH_take (i := 10) (v := ?_) rfl (by kernel_rfl) (by kernel_rfl) (by kernel_rfl) (fun _ _ _ h => h) (Or.inl ⟨by rfl, ?_⟩) (by assumption) ?_
  rotate_left; · (intro w hSw; (try dsimp only at hSw); go_simp; try with_reducible rfl)
  (try simp only [Act.put, List.setIfInBounds_toArray, List.set_cons_zero, List.set_cons_succ, List.getElem_toArray, List.getElem_cons_zero, List.getElem_cons_succ])
  refine wpAnyH_take (i := 11) (v := ?_) rfl (by kernel_rfl) (by kernel_rfl) (by kernel_rfl) (fun _ _ _ h => h) (Or.inl ⟨by rfl, ?_⟩) (by assumption) ?_
  rotate_left; · (intro w hSw; (try dsimp only at hSw); go_simp; try with_reducible rfl)
  (try simp only [Act.put, List.setIfInBounds_toArray, List.set_cons_zero, List.set_cons_succ, List.getElem_toArray, List.getElem_cons_zero, List.getElem_cons_succ])
  refine wpAnyH_ready (rs := [12]) (by kernel_rfl) (by simp) ?_
  refine AllReadyH.cons rfl (fun K hK => ?_) AllReadyH.nil
  (try simp only [List.getElem_toArray, List.getElem_cons_zero, List.getElem_cons_succ])
  go_simp
  refine hK.out _ _ ?_ (fun hHeld2 => ?_)
  · (try dsimp only); exact CF12.out _ _ k2
  clear hK K hHeld
  have hHeld := hHeld2
  clear hHeld2
  (try simp only [Act.put, List.setIfInBounds_toArray, List.set_cons_zero, List.set_cons_succ, List.getElem_toArray, List.getElem_cons_zero, List.getElem_cons_succ])
  refine wpAnyH_done (by kernel_rfl) ?_ _
  obtain ⟨X, hX⟩ : ∃ X, X = w2.setCell ⟨rb, 1, none⟩ (.slice (some ⟨g2, o2, none⟩) (l + 1) cap2) := ⟨_, rfl⟩
  try rw [← hX]
  have hXR : RAt X rb (.slice (some ⟨g2, o2, none⟩) (l + 1) cap2) (L.push (s, t)) := by
    rw [hX]
    refine (HRA.out _ k2).setCell 1 _ rfl (.inr ⟨g2, o2, cap2, ?_, ?_⟩)
    · rw [← HL.out]; simp [Lin.push]
    · have e : textCells (L.push (s, t)).ts = textCells L.ts ++ [.string s, .string t] := by unfold Lin.push; rw [textCells_append]; rfl
      rw [e, show (L.push (s, t)).ts.length = l + 1 by rw [← HL.out]; simp [Lin.push]]
      exact hr2
  have KX : Hid (Kept [rb] w X) := Lib.hid (by
    rw [hX]
    exact ((KW2.out _ k2).mono (fp' := [rb]) (by simp)).trans (Kept.setCell w2 rb 1 _) (by simp))
  have cc := hXR.at2
  have ff := hXR.f 2
  have hb0 : 0 ≤ L.c0 := HOK.out.1
  have hb1 : L.c0 ≤ 1000000 := HOK.out.2.1
  obtain ⟨cv, hcv⟩ : ∃ cv, L.c0 = cv := ⟨_, rfl⟩
  have CV := Lib.hid hcv
  rw [show (L.push (s, t)).c0 = L.c0 from rfl, hcv] at cc
  rw [hcv] at hb0 hb1
  have ew : IntKind.i64.wrap (cv + 1) = cv + 1 := IntWalk.i64_in _ (by omega)
  have F : Hid (RDone w rb { L.push (s, t) with c0 := L.c0 + 1 } (.int .i64 0) (.returned (.int .i64 0)) ((X.setCell ⟨rb, 2, none⟩ (.int .i64 (cv + 1))).drew)) := Lib.hid
    ⟨rfl, _, (hXR.setCell 2 (.int .i64 (cv + 1)) (L' := { L.push (s, t) with c0 := L.c0 + 1 }) (by rw [← CV.out]; rfl) hXR.row).below ⟨rfl, rfl, rfl, Nat.le_refl _, fun _ _ => rfl⟩, (KX.out.trans (Kept.setCell X rb 2 _) (by simp)).drew⟩
  clear hX hr2 k2 hcv hXR
  go_wp2_with fail
  go_still_tail 10, (by kernel_rfl)
  go_wp2
  go_ret
  exact F.out

set_option maxRecDepth 100000 in
set_option maxHeartbeats 6400000 in
theorem radd_room4 {w : World} {rb : Nat} {sv : Value} {L : Lin} (h : RAt w rb sv L) (hok : L.ok) (s t : ByteArray) (hf : L.ts.length < L.most) :
    Calls Tryd.prog 65 #[.pointer (some ⟨rb, 0, none⟩), .agg #[.string s, .string t], .int .i64 4] w (RDone w rb { L.push (s, t) with c4 := L.c4 + 1 } (.int .i64 0)) := by
  obtain ⟨A, cap, hsv, hl1, hl2, _⟩ := h.row.slice
  subst hsv
  obtain ⟨W, hW⟩ : ∃ W, W = w.alloc (.cells #[.string s, .string t] 79) := ⟨_, rfl⟩
  have hA : RAt W rb (.slice A L.ts.length cap) L := by rw [hW]; exact h.below ((Below.refl _ _).alloc (Nat.le_refl _) _)
  have hKW : Kept [] w W := by rw [hW]; exact Kept.alloc w _
  have KW := Lib.hid hKW
  have hT : W.heap[w.heap.size]? = some (.cells #[.string s, .string t] 79 (0, 0)) := by rw [hW]; exact heap_alloc_new w _
  have HRW := Lib.hid hA.row
  have RLT := Lib.hid h.lt
  obtain ⟨l, hl⟩ : ∃ l, L.ts.length = l := ⟨_, rfl⟩
  have HL := Lib.hid hl
  have HOK := Lib.hid hok
  have l64 : l ≤ 64 := by have := hok.2.2.2.2.2.2.2.2.2.2.2.2.1; rw [hl] at this; exact this
  have H := Lib.hid hA
  rw [hl] at hA hf HRW
  have c0 := hA.at0
  have c1 := hA.at1
  obtain ⟨m, hm⟩ : ∃ m, L.most = m := ⟨_, rfl⟩
  rw [hm] at c0 hf
  have q : decide (m ≤ (l : Int)) = false := by simp; omega
  have HW := Lib.hid hW
  have HT := Lib.hid hT
  obtain ⟨tb, htb⟩ : ∃ tb, w.heap.size = tb := ⟨_, rfl⟩
  have HTB := Lib.hid htb
  clear h hA hl hm hW hT htb hf hKW hok
  go_enter Tryd.func65, Tryd.ntmps65
  go_wp2_with fail
  rw [← HW.out]
  go_quiet (fail)
  go_wp2_with fail
  rw [HTB.out]
  obtain ⟨V, hV⟩ : ∃ V, V = W.drewN nq := ⟨_, rfl⟩
  rw [← hV]
  have KD : Kept [] V V.drew := (Kept.refl [] V).drew
  have KV : Hid (Kept [] W V) := Lib.hid (by rw [hV]; exact Kept.drewN [] W nq)
  have CF : Hid (∀ wx, Kept [] V wx → wx.cell? ⟨tb, 0, none⟩ = some (.string s) ∧ wx.cell? ⟨tb, 1, none⟩ = some (.string t)) := Lib.hid (fun wx hk => by
    have kk : Kept [] W wx := KV.out.trans hk (by simp)
    have h2 := (kk.block w.heap.size (Array.getElem?_eq_some_iff.1 HT.out).1 (by simp)).trans HT.out
    rw [HTB.out] at h2
    exact ⟨by simp [World.cell?, h2], by simp [World.cell?, h2]⟩)
  have CF1 : Hid (∀ wx, Kept [] V wx → wx.cell? ⟨rb, 1, none⟩ = some (.slice A l cap) ∧ wx.frozen? ⟨rb, 1, none⟩ = false) := Lib.hid (fun wx hk => by
    have kk : Kept [] W wx := KV.out.trans hk (by simp)
    have h1 := (kk.block rb H.out.lt (by simp)).trans H.out.cell
    exact ⟨by rw [← HL.out]; simp [World.cell?, h1, Lin.cells], by simp [World.frozen?, h1]⟩)
  have CF12 : Hid (∀ wx v, Kept [] V wx → (wx.setCell ⟨rb, 1, none⟩ v).cell? ⟨tb, 0, none⟩ = some (.string s) ∧ (wx.setCell ⟨rb, 1, none⟩ v).cell? ⟨tb, 1, none⟩ = some (.string t)) := Lib.hid (fun wx v hk => by
    have hne : rb ≠ tb := by have := RLT.out; have := HTB.out; omega
    rw [World.cell?_setCell_far _ _ _ _ hne, World.cell?_setCell_far _ _ _ _ hne]
    exact CF.out wx hk)
  have HRO : Hid (∀ wx, Kept [] V wx → RowO wx 79 2 (.slice A l cap) l (textCells L.ts)) := Lib.hid (fun wx hk => by
    have kk : Kept [] W wx := KV.out.trans hk (by simp)
    exact HRW.out.same (fun g cur hb => kk.block g (Array.getElem?_eq_some_iff.1 hb).1 (by simp)))
  have HRA : Hid (∀ wx, Kept [] V wx → RAt wx rb (.slice A L.ts.length cap) L) := Lib.hid (fun wx hk => by
    have kk : Kept [] W wx := KV.out.trans hk (by simp)
    exact H.out.same (fun g cur T _ hb => kk.block g (Array.getElem?_eq_some_iff.1 hb).1 (by simp)))
  have KW2 : Hid (∀ wx, Kept [] V wx → Kept [] w wx) := Lib.hid (fun wx hk => (KW.out.trans KV.out (by simp)).trans hk (by simp))
  clear hV c0 c1
  refine wp_region_held_drew (S := (fun w' => w'.cell? ⟨tb, 0, none⟩ = some (.string s) ∧ w'.cell? ⟨tb, 1, none⟩ = some (.string t))) (by kernel_rfl) ?_ (fun hHeld => ?_)
  · (try dsimp only); exact CF.out _ KD
  refine wpAnyH_take (i := 0) (v := ?_) rfl (by kernel_rfl) (by kernel_rfl) (by kernel_rfl) (fun _ _ _ h => h) (Or.inl ⟨by rfl, ?_⟩) (by assumption) ?_
  rotate_left; · (intro w hSw; (try dsimp only at hSw); go_simp; try with_reducible rfl)
  (try simp only [Act.put, List.setIfInBounds_toArray, List.set_cons_zero, List.set_cons_succ, List.getElem_toArray, List.getElem_cons_zero, List.getElem_cons_succ])
  refine wpAnyH_take (i := 2) (v := ?_) rfl (by kernel_rfl) (by kernel_rfl) (by kernel_rfl) (fun _ _ _ h => h) (Or.inl ⟨by rfl, ?_⟩) (by assumption) ?_
  rotate_left; · (intro w hSw; (try dsimp only at hSw); go_simp; try with_reducible rfl)
  (try simp only [Act.put, List.setIfInBounds_toArray, List.set_cons_zero, List.set_cons_succ, List.getElem_toArray, List.getElem_cons_zero, List.getElem_cons_succ])
  refine wpAnyH_take (i := 3) (v := ?_) rfl (by kernel_rfl) (by kernel_rfl) (by kernel_rfl) (fun _ _ _ h => h) (Or.inl ⟨by rfl, ?_⟩) (by assumption) ?_
  rotate_left; · (intro w hSw; (try dsimp only at hSw); go_simp; try with_reducible rfl)
  (try simp only [Act.put, List.setIfInBounds_toArray, List.set_cons_zero, List.set_cons_succ, List.getElem_toArray, List.getElem_cons_zero, List.getElem_cons_succ])
  refine wpAnyH_take (i := 4) (v := ?_) rfl (by kernel_rfl) (by kernel_rfl) (by kernel_rfl) (fun _ _ _ h => h) (Or.inl ⟨by rfl, ?_⟩) (by assumption) ?_
  rotate_left; · (intro w hSw; (try dsimp only at hSw); go_simp; try with_reducible rfl)
  (try simp only [Act.put, List.setIfInBounds_toArray, List.set_cons_zero, List.set_cons_succ, List.getElem_toArray, List.getElem_cons_zero, List.getElem_cons_succ])
  refine wpAnyH_take (i := 7) (v := ?_) rfl (by kernel_rfl) (by kernel_rfl) (by kernel_rfl) (fun _ _ _ h => h) (Or.inl ⟨by rfl, ?_⟩) (by assumption) ?_
  rotate_left; · (intro w hSw; (try dsimp only at hSw); go_simp; try with_reducible rfl)
  (try simp only [Act.put, List.setIfInBounds_toArray, List.set_cons_zero, List.set_cons_succ, List.getElem_toArray, List.getElem_cons_zero, List.getElem_cons_succ])
  refine wpAnyH_ready (rs := [1, 5, 8]) (by kernel_rfl) (by simp) ?_
  refine AllReadyH.cons rfl (fun K hK => ?_) ?_
  · (try simp only [List.getElem_toArray, List.getElem_cons_zero, List.getElem_cons_succ])
    go_simp
    refine hK.out _ _ ?_ (fun hHeld2 => ?_)
    · (try dsimp only); exact CF.out _ (Kept.trans KD (show Kept [] (World.drew V) (World.drew (World.alloc V (.cells #[] 79))) from Kept.alloc (World.drew V) (.cells #[] 79)) (by simp))
    clear hK K hHeld
    have hHeld := hHeld2
    clear hHeld2
    (try simp only [Act.put, List.setIfInBounds_toArray, List.set_cons_zero, List.set_cons_succ, List.getElem_toArray, List.getElem_cons_zero, List.getElem_cons_succ])
    refine wpAnyH_ready (rs := [5, 8]) (by kernel_rfl) (by simp) ?_
    refine AllReadyH.cons rfl (fun K hK => ?_) ?_
    · (try simp only [List.getElem_toArray, List.getElem_cons_zero, List.getElem_cons_succ])
      have c1x : ((World.drew (World.alloc V (.cells #[] 79)))).cell? ⟨rb, 1, none⟩ = some (.slice A l cap) := (CF1.out _ (Kept.trans KD (show Kept [] (World.drew V) (World.drew (World.alloc V (.cells #[] 79))) from Kept.alloc (World.drew V) (.cells #[] 79)) (by simp))).1
      go_simp
      clear c1x
      refine hK.out _ _ ?_ (fun hHeld2 => ?_)
      · (try dsimp only); exact CF.out _ (Kept.trans KD (show Kept [] (World.drew V) (World.drew (World.alloc V (.cells #[] 79))) from Kept.alloc (World.drew V) (.cells #[] 79)) (by simp))
      clear hK K hHeld
      have hHeld := hHeld2
      clear hHeld2
      (try simp only [Act.put, List.setIfInBounds_toArray, List.set_cons_zero, List.set_cons_succ, List.getElem_toArray, List.getElem_cons_zero, List.getElem_cons_succ])
      refine wpAnyH_ready (rs := [6, 8]) (by kernel_rfl) (by simp) ?_
      refine AllReadyH.cons rfl (fun K hK => ?_) ?_
      · skip
        have re : RowAt (World.drew (World.alloc V (.cells #[] 79))) 79 2 (World.heap (World.drew V)).size 0 0 0 [] := (show RowAt (World.drew (World.alloc V (.cells #[] 79))) 79 2 (World.heap (World.drew V)).size 0 0 0 [] from RowAt.empty (World.drew V) 79 2)
        have se : Src Tryd.prog 2 74 (.slice A l cap) l (textCells L.ts) (World.drew (World.alloc V (.cells #[] 79))) := (HRO.out _ (Kept.trans KD (show Kept [] (World.drew V) (World.drew (World.alloc V (.cells #[] 79))) from Kept.alloc (World.drew V) (.cells #[] 79)) (by simp))).src (textCells_one _) Tryd.underlying74
        refine step_append_at ?qhgd1 ?qs1 ?qx1 74 74 ?qho1 79 (.agg #[.string ByteArray.empty, .string ByteArray.empty]) 2 32 Tryd.underlying74 info79 rfl ?qg1 0 0 0 [] ?qhsv1 ?qhrow1 (.slice A l cap) ?qhxv1 l (textCells L.ts) ?qhs1 ?qh11 ?qh21 ?qhh1
        case qho1 => rfl
        case qhgd1 => rfl
        case qhsv1 => rfl
        case qhxv1 => rfl
        case qhrow1 => simpa using re
        case qhs1 => simpa using se
        case qh11 => simp [maxLen]; omega
        case qh21 => omega
        intro g1 o1 cap1 w1 hr1 hgb1 hg1
        have hgb1' : ((World.drew (World.alloc V (.cells #[] 79)))).grownBy w1 (some (World.heap (World.drew V)).size) := by simpa using hgb1
        have hr1' : RowAt w1 79 2 g1 o1 cap1 l (textCells L.ts) := by simpa using hr1
        have hv1 : V.heap.size ≤ g1 := by have p1 := Kept.size (Kept.trans KD (show Kept [] (World.drew V) (World.drew (World.alloc V (.cells #[] 79))) from Kept.alloc (World.drew V) (.cells #[] 79)) (by simp)); have p2 := Kept.size KD; rcases hg1 with h | h <;> (simp at h p1 p2 ⊢; omega)
        have k1 : Kept [] V w1 := Kept.trans (Kept.trans KD (show Kept [] (World.drew V) (World.drew (World.alloc V (.cells #[] 79))) from Kept.alloc (World.drew V) (.cells #[] 79)) (by simp)) (Kept.of_grown hgb1') (fun x hx => .inr (by simp at hx; subst hx; have p3 := Kept.size KD; first | exact p3 | (simp; done) | (simp at p3 ⊢; omega)))
        refine hK.out _ _ ?_ (fun hHeld2 => ?_)
        · (try dsimp only); exact CF.out _ k1
        clear hK K hHeld
        have hHeld := hHeld2
        clear hHeld2
        (try simp only [Act.put, List.setIfInBounds_toArray, List.set_cons_zero, List.set_cons_succ, List.getElem_toArray, List.getElem_cons_zero, List.getElem_cons_succ])
        (try simp only [Nat.zero_add])
        refine wpAnyH_ready (rs := [8]) (by kernel_rfl) (by simp) ?_
        refine AllReadyH.cons rfl (fun K hK => ?_) AllReadyH.nil
        (try simp only [List.getElem_toArray, List.getElem_cons_zero, List.getElem_cons_succ])
        go_simp
        refine hK.out _ _ ?_ (fun hHeld2 => ?_)
        · (try dsimp only); exact CF.out _ (Kept.trans k1 (show Kept [] w1 (World.alloc w1 (.cells #[.string s, .string t] 79)) from Kept.alloc w1 (.cells #[.string s, .string t] 79)) (by simp))
        clear hK K hHeld
        have hHeld := hHeld2
        clear hHeld2
        (try simp only [Act.put, List.setIfInBounds_toArray, List.set_cons_zero, List.set_cons_succ, List.getElem_toArray, List.getElem_cons_zero, List.getElem_cons_succ])
        refine wpAnyH_ready (rs := [9]) (by kernel_rfl) (by simp) ?_
        refine AllReadyH.cons rfl (fun K hK => ?_) AllReadyH.nil
        skip
        have re2 : RowAt (World.alloc w1 (.cells #[.string s, .string t] 79)) 79 2 g1 o1 cap1 l (textCells L.ts) := (RowAt.kept hr1' (show Kept [] w1 (World.alloc w1 (.cells #[.string s, .string t] 79)) from Kept.alloc w1 (.cells #[.string s, .string t] 79)) (by simp))
        have sp : Src Tryd.prog 2 74 (.slice (some ⟨(World.heap w1).size, 0, none⟩) 1 1) 1 [.string s, .string t] (World.alloc w1 (.cells #[.string s, .string t] 79)) := src_pair (show (World.heap (World.alloc w1 (.cells #[.string s, .string t] 79)))[(World.heap w1).size]? = some (.cells #[.string s, .string t] 79 (0, 0)) from heap_alloc_new w1 (.cells #[.string s, .string t] 79))
        refine step_append_at ?qhgd2 ?qs2 ?qx2 74 74 ?qho2 79 (.agg #[.string ByteArray.empty, .string ByteArray.empty]) 2 32 Tryd.underlying74 info79 rfl g1 o1 cap1 l (textCells L.ts) ?qhsv2 ?qhrow2 (.slice (some ⟨(World.heap w1).size, 0, none⟩) 1 1) ?qhxv2 1 [.string s, .string t] ?qhs2 ?qh12 ?qh22 ?qhh2
        case qho2 => rfl
        case qhgd2 => rfl
        case qhsv2 => rfl
        case qhxv2 => first | rfl | (simp; done) | (rw [show (World.heap w1).size = V.heap.size + 1 by simp]; rfl)
        case qhrow2 => simpa using re2
        case qhs2 => simpa using sp
        case qh12 => simp [maxLen]; omega
        case qh22 => omega
        intro g2 o2 cap2 w2 hr2 hgb2 hg2
        have hgb2' : ((World.alloc w1 (.cells #[.string s, .string t] 79))).grownBy w2 (some g1) := by simpa using hgb2
        have k2 : Kept [] V w2 := Kept.trans (Kept.trans k1 (show Kept [] w1 (World.alloc w1 (.cells #[.string s, .string t] 79)) from Kept.alloc w1 (.cells #[.string s, .string t] 79)) (by simp)) (Kept.of_grown hgb2') (fun x hx => .inr (by simp at hx; subst hx; exact hv1))
        refine hK.out _ _ ?_ (fun hHeld2 => ?_)
        · (try dsimp only); exact CF.out _ k2
        clear hK K hHeld
        have hHeld := hHeld2
        clear hHeld2
        (try simp only [Act.put, List.setIfInBounds_toArray, List.set_cons_zero, List.set_cons_succ, List.getElem_toArray, List.getElem_cons_zero, List.getElem_cons_succ])
        have c1x := (CF1.out _ k2).1
        have f1x := (CF1.out _ k2).2
        refine wpAnyH_take (i := 10) (v := ?_) rfl (by kernel_rfl) (by kernel_rfl) (by kernel_rfl) (fun _ _ _ h => h) (Or.inl ⟨by rfl, ?_⟩) (by assumption) ?_
        rotate_left; · (intro w hSw; (try dsimp only at hSw); go_simp; try with_reducible rfl)
        (try simp only [Act.put, List.setIfInBounds_toArray, List.set_cons_zero, List.set_cons_succ, List.getElem_toArray, List.getElem_cons_zero, List.getElem_cons_succ])
        refine wpAnyH_take (i := 11) (v := ?_) rfl (by kernel_rfl) (by kernel_rfl) (by kernel_rfl) (fun _ _ _ h => h) (Or.inl ⟨by rfl, ?_⟩) (by assumption) ?_
        rotate_left; · (intro w hSw; (try dsimp only at hSw); go_simp; try with_reducible rfl)
        (try simp only [Act.put, List.setIfInBounds_toArray, List.set_cons_zero, List.set_cons_succ, List.getElem_toArray, List.getElem_cons_zero, List.getElem_cons_succ])
        refine wpAnyH_ready (rs := [12]) (by kernel_rfl) (by simp) ?_
        refine AllReadyH.cons rfl (fun K hK => ?_) AllReadyH.nil
        (try simp only [List.getElem_toArray, List.getElem_cons_zero, List.getElem_cons_succ])
        go_simp
        refine hK.out _ _ ?_ (fun hHeld2 => ?_)
        · (try dsimp only); exact CF12.out _ _ k2
        clear hK K hHeld
        have hHeld := hHeld2
        clear hHeld2
        (try simp only [Act.put, List.setIfInBounds_toArray, List.set_cons_zero, List.set_cons_succ, List.getElem_toArray, List.getElem_cons_zero, List.getElem_cons_succ])
        refine wpAnyH_done (by kernel_rfl) ?_ _
        obtain ⟨X, hX⟩ : ∃ X, X = w2.setCell ⟨rb, 1, none⟩ (.slice (some ⟨g2, o2, none⟩) (l + 1) cap2) := ⟨_, rfl⟩
        try rw [← hX]
        have hXR : RAt X rb (.slice (some ⟨g2, o2, none⟩) (l + 1) cap2) (L.push (s, t)) := by
          rw [hX]
          refine (HRA.out _ k2).setCell 1 _ rfl (.inr ⟨g2, o2, cap2, ?_, ?_⟩)
          · rw [← HL.out]; simp [Lin.push]
          · have e : textCells (L.push (s, t)).ts = textCells L.ts ++ [.string s, .string t] := by unfold Lin.push; rw [textCells_append]; rfl
            rw [e, show (L.push (s, t)).ts.length = l + 1 by rw [← HL.out]; simp [Lin.push]]
            exact hr2
        have KX : Hid (Kept [rb] w X) := Lib.hid (by
          rw [hX]
          exact ((KW2.out _ k2).mono (fp' := [rb]) (by simp)).trans (Kept.setCell w2 rb 1 _) (by simp))
        have cc := hXR.at6
        have ff := hXR.f 6
        have hb0 : 0 ≤ L.c4 := HOK.out.2.2.2.2.2.2.2.2.1
        have hb1 : L.c4 ≤ 1000000 := HOK.out.2.2.2.2.2.2.2.2.2.1
        obtain ⟨cv, hcv⟩ : ∃ cv, L.c4 = cv := ⟨_, rfl⟩
        have CV := Lib.hid hcv
        rw [show (L.push (s, t)).c4 = L.c4 from rfl, hcv] at cc
        rw [hcv] at hb0 hb1
        have ew : IntKind.i64.wrap (cv + 1) = cv + 1 := IntWalk.i64_in _ (by omega)
        have F : Hid (RDone w rb { L.push (s, t) with c4 := L.c4 + 1 } (.int .i64 0) (.returned (.int .i64 0)) ((X.setCell ⟨rb, 6, none⟩ (.int .i64 (cv + 1))).drew)) := Lib.hid
          ⟨rfl, _, (hXR.setCell 6 (.int .i64 (cv + 1)) (L' := { L.push (s, t) with c4 := L.c4 + 1 }) (by rw [← CV.out]; rfl) hXR.row).below ⟨rfl, rfl, rfl, Nat.le_refl _, fun _ _ => rfl⟩, (KX.out.trans (Kept.setCell X rb 6 _) (by simp)).drew⟩
        clear hX hr2 k2 hcv hXR
        go_wp2_with fail
        go_still_tail 10, (by kernel_rfl)
        go_wp2
        go_ret
        exact F.out
      refine AllReadyH.cons rfl (fun K hK => ?_) AllReadyH.nil
      (try simp only [List.getElem_toArray, List.getElem_cons_zero, List.getElem_cons_succ])
      go_simp
      refine hK.out _ _ ?_ (fun hHeld2 => ?_)
      · (try dsimp only); exact CF.out _ (Kept.trans (Kept.trans KD (show Kept [] (World.drew V) (World.drew (World.alloc V (.cells #[] 79))) from Kept.alloc (World.drew V) (.cells #[] 79)) (by simp)) (show Kept [] (World.drew (World.alloc V (.cells #[] 79))) (World.drew (World.alloc (World.alloc V (.cells #[] 79)) (.cells #[.string s, .string t] 79))) from Kept.alloc (World.drew (World.alloc V (.cells #[] 79))) (.cells #[.string s, .string t] 79)) (by simp))
      clear hK K hHeld
      have hHeld := hHeld2
      clear hHeld2
      (try simp only [Act.put, List.setIfInBounds_toArray, List.set_cons_zero, List.set_cons_succ, List.getElem_toArray, List.getElem_cons_zero, List.getElem_cons_succ])
      refine wpAnyH_ready (rs := [6]) (by kernel_rfl) (by simp) ?_
      refine AllReadyH.cons rfl (fun K hK => ?_) AllReadyH.nil
      skip
      have re : RowAt (World.drew (World.alloc (World.alloc V (.cells #[] 79)) (.cells #[.string s, .string t] 79))) 79 2 (World.heap (World.drew V)).size 0 0 0 [] := (RowAt.kept (show RowAt (World.drew (World.alloc V (.cells #[] 79))) 79 2 (World.heap (World.drew V)).size 0 0 0 [] from RowAt.empty (World.drew V) 79 2) (show Kept [] (World.drew (World.alloc V (.cells #[] 79))) (World.drew (World.alloc (World.alloc V (.cells #[] 79)) (.cells #[.string s, .string t] 79))) from Kept.alloc (World.drew (World.alloc V (.cells #[] 79))) (.cells #[.string s, .string t] 79)) (by simp))
      have se : Src Tryd.prog 2 74 (.slice A l cap) l (textCells L.ts) (World.drew (World.alloc (World.alloc V (.cells #[] 79)) (.cells #[.string s, .string t] 79))) := (HRO.out _ (Kept.trans (Kept.trans KD (show Kept [] (World.drew V) (World.drew (World.alloc V (.cells #[] 79))) from Kept.alloc (World.drew V) (.cells #[] 79)) (by simp)) (show Kept [] (World.drew (World.alloc V (.cells #[] 79))) (World.drew (World.alloc (World.alloc V (.cells #[] 79)) (.cells #[.string s, .string t] 79))) from Kept.alloc (World.drew (World.alloc V (.cells #[] 79))) (.cells #[.string s, .string t] 79)) (by simp))).src (textCells_one _) Tryd.underlying74
      refine step_append_at ?qhgd3 ?qs3 ?qx3 74 74 ?qho3 79 (.agg #[.string ByteArray.empty, .string ByteArray.empty]) 2 32 Tryd.underlying74 info79 rfl ?qg3 0 0 0 [] ?qhsv3 ?qhrow3 (.slice A l cap) ?qhxv3 l (textCells L.ts) ?qhs3 ?qh13 ?qh23 ?qhh3
      case qho3 => rfl
      case qhgd3 => rfl
      case qhsv3 => rfl
      case qhxv3 => rfl
      case qhrow3 => simpa using re
      case qhs3 => simpa using se
      case qh13 => simp [maxLen]; omega
      case qh23 => omega
      intro g1 o1 cap1 w1 hr1 hgb1 hg1
      have hgb1' : ((World.drew (World.alloc (World.alloc V (.cells #[] 79)) (.cells #[.string s, .string t] 79)))).grownBy w1 (some (World.heap (World.drew V)).size) := by simpa using hgb1
      have hr1' : RowAt w1 79 2 g1 o1 cap1 l (textCells L.ts) := by simpa using hr1
      have hv1 : V.heap.size ≤ g1 := by have p1 := Kept.size (Kept.trans (Kept.trans KD (show Kept [] (World.drew V) (World.drew (World.alloc V (.cells #[] 79))) from Kept.alloc (World.drew V) (.cells #[] 79)) (by simp)) (show Kept [] (World.drew (World.alloc V (.cells #[] 79))) (World.drew (World.alloc (World.alloc V (.cells #[] 79)) (.cells #[.string s, .string t] 79))) from Kept.alloc (World.drew (World.alloc V (.cells #[] 79))) (.cells #[.string s, .string t] 79)) (by simp)); have p2 := Kept.size KD; rcases hg1 with h | h <;> (simp at h p1 p2 ⊢; omega)
      have k1 : Kept [] V w1 := Kept.trans (Kept.trans (Kept.trans KD (show Kept [] (World.drew V) (World.drew (World.alloc V (.cells #[] 79))) from Kept.alloc (World.drew V) (.cells #[] 79)) (by simp)) (show Kept [] (World.drew (World.alloc V (.cells #[] 79))) (World.drew (World.alloc (World.alloc V (.cells #[] 79)) (.cells #[.string s, .string t] 79))) from Kept.alloc (World.drew (World.alloc V (.cells #[] 79))) (.cells #[.string s, .string t] 79)) (by simp)) (Kept.of_grown hgb1') (fun x hx => .inr (by simp at hx; subst hx; have p3 := Kept.size KD; first | exact p3 | (simp; done) | (simp at p3 ⊢; omega)))
      refine hK.out _ _ ?_ (fun hHeld2 => ?_)
      · (try dsimp only); exact CF.out _ k1
      clear hK K hHeld
      have hHeld := hHeld2
      clear hHeld2
      (try simp only [Act.put, List.setIfInBounds_toArray, List.set_cons_zero, List.set_cons_succ, List.getElem_toArray, List.getElem_cons_zero, List.getElem_cons_succ])
      (try simp only [Nat.zero_add])
      have z1 : w1.heap[(World.heap (World.drew (World.alloc V (.cells #[] 79)))).size]? = some (.cells #[.string s, .string t] 79 (0, 0)) := ((Kept.of_grown hgb1').block _ (Array.getElem?_eq_some_iff.1 (show (World.heap (World.drew (World.alloc (World.alloc V (.cells #[] 79)) (.cells #[.string s, .string t] 79))))[(World.heap (World.drew (World.alloc V (.cells #[] 79)))).size]? = some (.cells #[.string s, .string t] 79 (0, 0)) from heap_alloc_new (World.drew (World.alloc V (.cells #[] 79))) (.cells #[.string s, .string t] 79))).1 (by simp)).trans (show (World.heap (World.drew (World.alloc (World.alloc V (.cells #[] 79)) (.cells #[.string s, .string t] 79))))[(World.heap (World.drew (World.alloc V (.cells #[] 79)))).size]? = some (.cells #[.string s, .string t] 79 (0, 0)) from heap_alloc_new (World.drew (World.alloc V (.cells #[] 79))) (.cells #[.string s, .string t] 79))
      refine wpAnyH_ready (rs := [9]) (by kernel_rfl) (by simp) ?_
      refine AllReadyH.cons rfl (fun K hK => ?_) AllReadyH.nil
      skip
      have re2 : RowAt w1 79 2 g1 o1 cap1 l (textCells L.ts) := hr1'
      have sp : Src Tryd.prog 2 74 (.slice (some ⟨(World.heap (World.drew (World.alloc V (.cells #[] 79)))).size, 0, none⟩) 1 1) 1 [.string s, .string t] w1 := src_pair z1
      refine step_append_at ?qhgd4 ?qs4 ?qx4 74 74 ?qho4 79 (.agg #[.string ByteArray.empty, .string ByteArray.empty]) 2 32 Tryd.underlying74 info79 rfl g1 o1 cap1 l (textCells L.ts) ?qhsv4 ?qhrow4 (.slice (some ⟨(World.heap (World.drew (World.alloc V (.cells #[] 79)))).size, 0, none⟩) 1 1) ?qhxv4 1 [.string s, .string t] ?qhs4 ?qh14 ?qh24 ?qhh4
      case qho4 => rfl
      case qhgd4 => rfl
      case qhsv4 => rfl
      case qhxv4 => first | rfl | (simp; done) | (rw [show (World.heap (World.drew (World.alloc V (.cells #[] 79)))).size = V.heap.size + 1 by simp]; rfl)
      case qhrow4 => simpa using re2
      case qhs4 => simpa using sp
      case qh14 => simp [maxLen]; omega
      case qh24 => omega
      intro g2 o2 cap2 w2 hr2 hgb2 hg2
      have hgb2' : (w1).grownBy w2 (some g1) := by simpa using hgb2
      have k2 : Kept [] V w2 := Kept.trans k1 (Kept.of_grown hgb2') (fun x hx => .inr (by simp at hx; subst hx; exact hv1))
      refine hK.out _ _ ?_ (fun hHeld2 => ?_)
      · (try dsimp only); exact CF.out _ k2
      clear hK K hHeld
      have hHeld := hHeld2
      clear hHeld2
      (try simp only [Act.put, List.setIfInBounds_toArray, List.set_cons_zero, List.set_cons_succ, List.getElem_toArray, List.getElem_cons_zero, List.getElem_cons_succ])
      have c1x := (CF1.out _ k2).1
      have f1x := (CF1.out _ k2).2
      refine wpAnyH_take (i := 10) (v := ?_) rfl (by kernel_rfl) (by kernel_rfl) (by kernel_rfl) (fun _ _ _ h => h) (Or.inl ⟨by rfl, ?_⟩) (by assumption) ?_
      rotate_left; · (intro w hSw; (try dsimp only at hSw); go_simp; try with_reducible rfl)
      (try simp only [Act.put, List.setIfInBounds_toArray, List.set_cons_zero, List.set_cons_succ, List.getElem_toArray, List.getElem_cons_zero, List.getElem_cons_succ])
      refine wpAnyH_take (i := 11) (v := ?_) rfl (by kernel_rfl) (by kernel_rfl) (by kernel_rfl) (fun _ _ _ h => h) (Or.inl ⟨by rfl, ?_⟩) (by assumption) ?_
      rotate_left; · (intro w hSw; (try dsimp only at hSw); go_simp; try with_reducible rfl)
      (try simp only [Act.put, List.setIfInBounds_toArray, List.set_cons_zero, List.set_cons_succ, List.getElem_toArray, List.getElem_cons_zero, List.getElem_cons_succ])
      refine wpAnyH_ready (rs := [12]) (by kernel_rfl) (by simp) ?_
      refine AllReadyH.cons rfl (fun K hK => ?_) AllReadyH.nil
      (try simp only [List.getElem_toArray, List.getElem_cons_zero, List.getElem_cons_succ])
      go_simp
      refine hK.out _ _ ?_ (fun hHeld2 => ?_)
      · (try dsimp only); exact CF12.out _ _ k2
      clear hK K hHeld
      have hHeld := hHeld2
      clear hHeld2
      (try simp only [Act.put, List.setIfInBounds_toArray, List.set_cons_zero, List.set_cons_succ, List.getElem_toArray, List.getElem_cons_zero, List.getElem_cons_succ])
      refine wpAnyH_done (by kernel_rfl) ?_ _
      obtain ⟨X, hX⟩ : ∃ X, X = w2.setCell ⟨rb, 1, none⟩ (.slice (some ⟨g2, o2, none⟩) (l + 1) cap2) := ⟨_, rfl⟩
      try rw [← hX]
      have hXR : RAt X rb (.slice (some ⟨g2, o2, none⟩) (l + 1) cap2) (L.push (s, t)) := by
        rw [hX]
        refine (HRA.out _ k2).setCell 1 _ rfl (.inr ⟨g2, o2, cap2, ?_, ?_⟩)
        · rw [← HL.out]; simp [Lin.push]
        · have e : textCells (L.push (s, t)).ts = textCells L.ts ++ [.string s, .string t] := by unfold Lin.push; rw [textCells_append]; rfl
          rw [e, show (L.push (s, t)).ts.length = l + 1 by rw [← HL.out]; simp [Lin.push]]
          exact hr2
      have KX : Hid (Kept [rb] w X) := Lib.hid (by
        rw [hX]
        exact ((KW2.out _ k2).mono (fp' := [rb]) (by simp)).trans (Kept.setCell w2 rb 1 _) (by simp))
      have cc := hXR.at6
      have ff := hXR.f 6
      have hb0 : 0 ≤ L.c4 := HOK.out.2.2.2.2.2.2.2.2.1
      have hb1 : L.c4 ≤ 1000000 := HOK.out.2.2.2.2.2.2.2.2.2.1
      obtain ⟨cv, hcv⟩ : ∃ cv, L.c4 = cv := ⟨_, rfl⟩
      have CV := Lib.hid hcv
      rw [show (L.push (s, t)).c4 = L.c4 from rfl, hcv] at cc
      rw [hcv] at hb0 hb1
      have ew : IntKind.i64.wrap (cv + 1) = cv + 1 := IntWalk.i64_in _ (by omega)
      have F : Hid (RDone w rb { L.push (s, t) with c4 := L.c4 + 1 } (.int .i64 0) (.returned (.int .i64 0)) ((X.setCell ⟨rb, 6, none⟩ (.int .i64 (cv + 1))).drew)) := Lib.hid
        ⟨rfl, _, (hXR.setCell 6 (.int .i64 (cv + 1)) (L' := { L.push (s, t) with c4 := L.c4 + 1 }) (by rw [← CV.out]; rfl) hXR.row).below ⟨rfl, rfl, rfl, Nat.le_refl _, fun _ _ => rfl⟩, (KX.out.trans (Kept.setCell X rb 6 _) (by simp)).drew⟩
      clear hX hr2 k2 hcv hXR
      go_wp2_with fail
      go_still_tail 10, (by kernel_rfl)
      go_wp2
      go_ret
      exact F.out
    refine AllReadyH.cons rfl (fun K hK => ?_) AllReadyH.nil
    (try simp only [List.getElem_toArray, List.getElem_cons_zero, List.getElem_cons_succ])
    go_simp
    refine hK.out _ _ ?_ (fun hHeld2 => ?_)
    · (try dsimp only); exact CF.out _ (Kept.trans (Kept.trans KD (show Kept [] (World.drew V) (World.drew (World.alloc V (.cells #[] 79))) from Kept.alloc (World.drew V) (.cells #[] 79)) (by simp)) (show Kept [] (World.drew (World.alloc V (.cells #[] 79))) (World.drew (World.alloc (World.alloc V (.cells #[] 79)) (.cells #[.string s, .string t] 79))) from Kept.alloc (World.drew (World.alloc V (.cells #[] 79))) (.cells #[.string s, .string t] 79)) (by simp))
    clear hK K hHeld
    have hHeld := hHeld2
    clear hHeld2
    (try simp only [Act.put, List.setIfInBounds_toArray, List.set_cons_zero, List.set_cons_succ, List.getElem_toArray, List.getElem_cons_zero, List.getElem_cons_succ])
    refine wpAnyH_ready (rs := [5]) (by kernel_rfl) (by simp) ?_
    refine AllReadyH.cons rfl (fun K hK => ?_) AllReadyH.nil
    (try simp only [List.getElem_toArray, List.getElem_cons_zero, List.getElem_cons_succ])
    have c1x : ((World.drew (World.alloc (World.alloc V (.cells #[] 79)) (.cells #[.string s, .string t] 79)))).cell? ⟨rb, 1, none⟩ = some (.slice A l cap) := (CF1.out _ (Kept.trans (Kept.trans KD (show Kept [] (World.drew V) (World.drew (World.alloc V (.cells #[] 79))) from Kept.alloc (World.drew V) (.cells #[] 79)) (by simp)) (show Kept [] (World.drew (World.alloc V (.cells #[] 79))) (World.drew (World.alloc (World.alloc V (.cells #[] 79)) (.cells #[.string s, .string t] 79))) from Kept.alloc (World.drew (World.alloc V (.cells #[] 79))) (.cells #[.string s, .string t] 79)) (by simp))).1
    go_simp
    clear c1x
    refine hK.out _ _ ?_ (fun hHeld2 => ?_)
    · (try dsimp only); exact CF.out _ (Kept.trans (Kept.trans KD (show Kept [] (World.drew V) (World.drew (World.alloc V (.cells #[] 79))) from Kept.alloc (World.drew V) (.cells #[] 79)) (by simp)) (show Kept [] (World.drew (World.alloc V (.cells #[] 79))) (World.drew (World.alloc (World.alloc V (.cells #[] 79)) (.cells #[.string s, .string t] 79))) from Kept.alloc (World.drew (World.alloc V (.cells #[] 79))) (.cells #[.string s, .string t] 79)) (by simp))
    clear hK K hHeld
    have hHeld := hHeld2
    clear hHeld2
    (try simp only [Act.put, List.setIfInBounds_toArray, List.set_cons_zero, List.set_cons_succ, List.getElem_toArray, List.getElem_cons_zero, List.getElem_cons_succ])
    refine wpAnyH_ready (rs := [6]) (by kernel_rfl) (by simp) ?_
    refine AllReadyH.cons rfl (fun K hK => ?_) AllReadyH.nil
    skip
    have re : RowAt (World.drew (World.alloc (World.alloc V (.cells #[] 79)) (.cells #[.string s, .string t] 79))) 79 2 (World.heap (World.drew V)).size 0 0 0 [] := (RowAt.kept (show RowAt (World.drew (World.alloc V (.cells #[] 79))) 79 2 (World.heap (World.drew V)).size 0 0 0 [] from RowAt.empty (World.drew V) 79 2) (show Kept [] (World.drew (World.alloc V (.cells #[] 79))) (World.drew (World.alloc (World.alloc V (.cells #[] 79)) (.cells #[.string s, .string t] 79))) from Kept.alloc (World.drew (World.alloc V (.cells #[] 79))) (.cells #[.string s, .string t] 79)) (by simp))
    have se : Src Tryd.prog 2 74 (.slice A l cap) l (textCells L.ts) (World.drew (World.alloc (World.alloc V (.cells #[] 79)) (.cells #[.string s, .string t] 79))) := (HRO.out _ (Kept.trans (Kept.trans KD (show Kept [] (World.drew V) (World.drew (World.alloc V (.cells #[] 79))) from Kept.alloc (World.drew V) (.cells #[] 79)) (by simp)) (show Kept [] (World.drew (World.alloc V (.cells #[] 79))) (World.drew (World.alloc (World.alloc V (.cells #[] 79)) (.cells #[.string s, .string t] 79))) from Kept.alloc (World.drew (World.alloc V (.cells #[] 79))) (.cells #[.string s, .string t] 79)) (by simp))).src (textCells_one _) Tryd.underlying74
    refine step_append_at ?qhgd5 ?qs5 ?qx5 74 74 ?qho5 79 (.agg #[.string ByteArray.empty, .string ByteArray.empty]) 2 32 Tryd.underlying74 info79 rfl ?qg5 0 0 0 [] ?qhsv5 ?qhrow5 (.slice A l cap) ?qhxv5 l (textCells L.ts) ?qhs5 ?qh15 ?qh25 ?qhh5
    case qho5 => rfl
    case qhgd5 => rfl
    case qhsv5 => rfl
    case qhxv5 => rfl
    case qhrow5 => simpa using re
    case qhs5 => simpa using se
    case qh15 => simp [maxLen]; omega
    case qh25 => omega
    intro g1 o1 cap1 w1 hr1 hgb1 hg1
    have hgb1' : ((World.drew (World.alloc (World.alloc V (.cells #[] 79)) (.cells #[.string s, .string t] 79)))).grownBy w1 (some (World.heap (World.drew V)).size) := by simpa using hgb1
    have hr1' : RowAt w1 79 2 g1 o1 cap1 l (textCells L.ts) := by simpa using hr1
    have hv1 : V.heap.size ≤ g1 := by have p1 := Kept.size (Kept.trans (Kept.trans KD (show Kept [] (World.drew V) (World.drew (World.alloc V (.cells #[] 79))) from Kept.alloc (World.drew V) (.cells #[] 79)) (by simp)) (show Kept [] (World.drew (World.alloc V (.cells #[] 79))) (World.drew (World.alloc (World.alloc V (.cells #[] 79)) (.cells #[.string s, .string t] 79))) from Kept.alloc (World.drew (World.alloc V (.cells #[] 79))) (.cells #[.string s, .string t] 79)) (by simp)); have p2 := Kept.size KD; rcases hg1 with h | h <;> (simp at h p1 p2 ⊢; omega)
    have k1 : Kept [] V w1 := Kept.trans (Kept.trans (Kept.trans KD (show Kept [] (World.drew V) (World.drew (World.alloc V (.cells #[] 79))) from Kept.alloc (World.drew V) (.cells #[] 79)) (by simp)) (show Kept [] (World.drew (World.alloc V (.cells #[] 79))) (World.drew (World.alloc (World.alloc V (.cells #[] 79)) (.cells #[.string s, .string t] 79))) from Kept.alloc (World.drew (World.alloc V (.cells #[] 79))) (.cells #[.string s, .string t] 79)) (by simp)) (Kept.of_grown hgb1') (fun x hx => .inr (by simp at hx; subst hx; have p3 := Kept.size KD; first | exact p3 | (simp; done) | (simp at p3 ⊢; omega)))
    refine hK.out _ _ ?_ (fun hHeld2 => ?_)
    · (try dsimp only); exact CF.out _ k1
    clear hK K hHeld
    have hHeld := hHeld2
    clear hHeld2
    (try simp only [Act.put, List.setIfInBounds_toArray, List.set_cons_zero, List.set_cons_succ, List.getElem_toArray, List.getElem_cons_zero, List.getElem_cons_succ])
    (try simp only [Nat.zero_add])
    have z1 : w1.heap[(World.heap (World.drew (World.alloc V (.cells #[] 79)))).size]? = some (.cells #[.string s, .string t] 79 (0, 0)) := ((Kept.of_grown hgb1').block _ (Array.getElem?_eq_some_iff.1 (show (World.heap (World.drew (World.alloc (World.alloc V (.cells #[] 79)) (.cells #[.string s, .string t] 79))))[(World.heap (World.drew (World.alloc V (.cells #[] 79)))).size]? = some (.cells #[.string s, .string t] 79 (0, 0)) from heap_alloc_new (World.drew (World.alloc V (.cells #[] 79))) (.cells #[.string s, .string t] 79))).1 (by simp)).trans (show (World.heap (World.drew (World.alloc (World.alloc V (.cells #[] 79)) (.cells #[.string s, .string t] 79))))[(World.heap (World.drew (World.alloc V (.cells #[] 79)))).size]? = some (.cells #[.string s, .string t] 79 (0, 0)) from heap_alloc_new (World.drew (World.alloc V (.cells #[] 79))) (.cells #[.string s, .string t] 79))
    refine wpAnyH_ready (rs := [9]) (by kernel_rfl) (by simp) ?_
    refine AllReadyH.cons rfl (fun K hK => ?_) AllReadyH.nil
    skip
    have re2 : RowAt w1 79 2 g1 o1 cap1 l (textCells L.ts) := hr1'
    have sp : Src Tryd.prog 2 74 (.slice (some ⟨(World.heap (World.drew (World.alloc V (.cells #[] 79)))).size, 0, none⟩) 1 1) 1 [.string s, .string t] w1 := src_pair z1
    refine step_append_at ?qhgd6 ?qs6 ?qx6 74 74 ?qho6 79 (.agg #[.string ByteArray.empty, .string ByteArray.empty]) 2 32 Tryd.underlying74 info79 rfl g1 o1 cap1 l (textCells L.ts) ?qhsv6 ?qhrow6 (.slice (some ⟨(World.heap (World.drew (World.alloc V (.cells #[] 79)))).size, 0, none⟩) 1 1) ?qhxv6 1 [.string s, .string t] ?qhs6 ?qh16 ?qh26 ?qhh6
    case qho6 => rfl
    case qhgd6 => rfl
    case qhsv6 => rfl
    case qhxv6 => first | rfl | (simp; done) | (rw [show (World.heap (World.drew (World.alloc V (.cells #[] 79)))).size = V.heap.size + 1 by simp]; rfl)
    case qhrow6 => simpa using re2
    case qhs6 => simpa using sp
    case qh16 => simp [maxLen]; omega
    case qh26 => omega
    intro g2 o2 cap2 w2 hr2 hgb2 hg2
    have hgb2' : (w1).grownBy w2 (some g1) := by simpa using hgb2
    have k2 : Kept [] V w2 := Kept.trans k1 (Kept.of_grown hgb2') (fun x hx => .inr (by simp at hx; subst hx; exact hv1))
    refine hK.out _ _ ?_ (fun hHeld2 => ?_)
    · (try dsimp only); exact CF.out _ k2
    clear hK K hHeld
    have hHeld := hHeld2
    clear hHeld2
    (try simp only [Act.put, List.setIfInBounds_toArray, List.set_cons_zero, List.set_cons_succ, List.getElem_toArray, List.getElem_cons_zero, List.getElem_cons_succ])
    have c1x := (CF1.out _ k2).1
    have f1x := (CF1.out _ k2).2
    refine wpAnyH_take (i := 10) (v := ?_) rfl (by kernel_rfl) (by kernel_rfl) (by kernel_rfl) (fun _ _ _ h => h) (Or.inl ⟨by rfl, ?_⟩) (by assumption) ?_
    rotate_left; · (intro w hSw; (try dsimp only at hSw); go_simp; try with_reducible rfl)
    (try simp only [Act.put, List.setIfInBounds_toArray, List.set_cons_zero, List.set_cons_succ, List.getElem_toArray, List.getElem_cons_zero, List.getElem_cons_succ])
    refine wpAnyH_take (i := 11) (v := ?_) rfl (by kernel_rfl) (by kernel_rfl) (by kernel_rfl) (fun _ _ _ h => h) (Or.inl ⟨by rfl, ?_⟩) (by assumption) ?_
    rotate_left; · (intro w hSw; (try dsimp only at hSw); go_simp; try with_reducible rfl)
    (try simp only [Act.put, List.setIfInBounds_toArray, List.set_cons_zero, List.set_cons_succ, List.getElem_toArray, List.getElem_cons_zero, List.getElem_cons_succ])
    refine wpAnyH_ready (rs := [12]) (by kernel_rfl) (by simp) ?_
    refine AllReadyH.cons rfl (fun K hK => ?_) AllReadyH.nil
    (try simp only [List.getElem_toArray, List.getElem_cons_zero, List.getElem_cons_succ])
    go_simp
    refine hK.out _ _ ?_ (fun hHeld2 => ?_)
    · (try dsimp only); exact CF12.out _ _ k2
    clear hK K hHeld
    have hHeld := hHeld2
    clear hHeld2
    (try simp only [Act.put, List.setIfInBounds_toArray, List.set_cons_zero, List.set_cons_succ, List.getElem_toArray, List.getElem_cons_zero, List.getElem_cons_succ])
    refine wpAnyH_done (by kernel_rfl) ?_ _
    obtain ⟨X, hX⟩ : ∃ X, X = w2.setCell ⟨rb, 1, none⟩ (.slice (some ⟨g2, o2, none⟩) (l + 1) cap2) := ⟨_, rfl⟩
    try rw [← hX]
    have hXR : RAt X rb (.slice (some ⟨g2, o2, none⟩) (l + 1) cap2) (L.push (s, t)) := by
      rw [hX]
      refine (HRA.out _ k2).setCell 1 _ rfl (.inr ⟨g2, o2, cap2, ?_, ?_⟩)
      · rw [← HL.out]; simp [Lin.push]
      · have e : textCells (L.push (s, t)).ts = textCells L.ts ++ [.string s, .string t] := by unfold Lin.push; rw [textCells_append]; rfl
        rw [e, show (L.push (s, t)).ts.length = l + 1 by rw [← HL.out]; simp [Lin.push]]
        exact hr2
    have KX : Hid (Kept [rb] w X) := Lib.hid (by
      rw [hX]
      exact ((KW2.out _ k2).mono (fp' := [rb]) (by simp)).trans (Kept.setCell w2 rb 1 _) (by simp))
    have cc := hXR.at6
    have ff := hXR.f 6
    have hb0 : 0 ≤ L.c4 := HOK.out.2.2.2.2.2.2.2.2.1
    have hb1 : L.c4 ≤ 1000000 := HOK.out.2.2.2.2.2.2.2.2.2.1
    obtain ⟨cv, hcv⟩ : ∃ cv, L.c4 = cv := ⟨_, rfl⟩
    have CV := Lib.hid hcv
    rw [show (L.push (s, t)).c4 = L.c4 from rfl, hcv] at cc
    rw [hcv] at hb0 hb1
    have ew : IntKind.i64.wrap (cv + 1) = cv + 1 := IntWalk.i64_in _ (by omega)
    have F : Hid (RDone w rb { L.push (s, t) with c4 := L.c4 + 1 } (.int .i64 0) (.returned (.int .i64 0)) ((X.setCell ⟨rb, 6, none⟩ (.int .i64 (cv + 1))).drew)) := Lib.hid
      ⟨rfl, _, (hXR.setCell 6 (.int .i64 (cv + 1)) (L' := { L.push (s, t) with c4 := L.c4 + 1 }) (by rw [← CV.out]; rfl) hXR.row).below ⟨rfl, rfl, rfl, Nat.le_refl _, fun _ _ => rfl⟩, (KX.out.trans (Kept.setCell X rb 6 _) (by simp)).drew⟩
    clear hX hr2 k2 hcv hXR
    go_wp2_with fail
    go_still_tail 10, (by kernel_rfl)
    go_wp2
    go_ret
    exact F.out
  refine AllReadyH.cons rfl (fun K hK => ?_) ?_
  · (try simp only [List.getElem_toArray, List.getElem_cons_zero, List.getElem_cons_succ])
    have c1x : ((World.drew V)).cell? ⟨rb, 1, none⟩ = some (.slice A l cap) := (CF1.out _ KD).1
    go_simp
    clear c1x
    refine hK.out _ _ ?_ (fun hHeld2 => ?_)
    · (try dsimp only); exact CF.out _ KD
    clear hK K hHeld
    have hHeld := hHeld2
    clear hHeld2
    (try simp only [Act.put, List.setIfInBounds_toArray, List.set_cons_zero, List.set_cons_succ, List.getElem_toArray, List.getElem_cons_zero, List.getElem_cons_succ])
    refine wpAnyH_ready (rs := [1, 8]) (by kernel_rfl) (by simp) ?_
    refine AllReadyH.cons rfl (fun K hK => ?_) ?_
    · (try simp only [List.getElem_toArray, List.getElem_cons_zero, List.getElem_cons_succ])
      go_simp
      refine hK.out _ _ ?_ (fun hHeld2 => ?_)
      · (try dsimp only); exact CF.out _ (Kept.trans KD (show Kept [] (World.drew V) (World.drew (World.alloc V (.cells #[] 79))) from Kept.alloc (World.drew V) (.cells #[] 79)) (by simp))
      clear hK K hHeld
      have hHeld := hHeld2
      clear hHeld2
      (try simp only [Act.put, List.setIfInBounds_toArray, List.set_cons_zero, List.set_cons_succ, List.getElem_toArray, List.getElem_cons_zero, List.getElem_cons_succ])
      refine wpAnyH_ready (rs := [6, 8]) (by kernel_rfl) (by simp) ?_
      refine AllReadyH.cons rfl (fun K hK => ?_) ?_
      · skip
        have re : RowAt (World.drew (World.alloc V (.cells #[] 79))) 79 2 (World.heap (World.drew V)).size 0 0 0 [] := (show RowAt (World.drew (World.alloc V (.cells #[] 79))) 79 2 (World.heap (World.drew V)).size 0 0 0 [] from RowAt.empty (World.drew V) 79 2)
        have se : Src Tryd.prog 2 74 (.slice A l cap) l (textCells L.ts) (World.drew (World.alloc V (.cells #[] 79))) := (HRO.out _ (Kept.trans KD (show Kept [] (World.drew V) (World.drew (World.alloc V (.cells #[] 79))) from Kept.alloc (World.drew V) (.cells #[] 79)) (by simp))).src (textCells_one _) Tryd.underlying74
        refine step_append_at ?qhgd7 ?qs7 ?qx7 74 74 ?qho7 79 (.agg #[.string ByteArray.empty, .string ByteArray.empty]) 2 32 Tryd.underlying74 info79 rfl ?qg7 0 0 0 [] ?qhsv7 ?qhrow7 (.slice A l cap) ?qhxv7 l (textCells L.ts) ?qhs7 ?qh17 ?qh27 ?qhh7
        case qho7 => rfl
        case qhgd7 => rfl
        case qhsv7 => rfl
        case qhxv7 => rfl
        case qhrow7 => simpa using re
        case qhs7 => simpa using se
        case qh17 => simp [maxLen]; omega
        case qh27 => omega
        intro g1 o1 cap1 w1 hr1 hgb1 hg1
        have hgb1' : ((World.drew (World.alloc V (.cells #[] 79)))).grownBy w1 (some (World.heap (World.drew V)).size) := by simpa using hgb1
        have hr1' : RowAt w1 79 2 g1 o1 cap1 l (textCells L.ts) := by simpa using hr1
        have hv1 : V.heap.size ≤ g1 := by have p1 := Kept.size (Kept.trans KD (show Kept [] (World.drew V) (World.drew (World.alloc V (.cells #[] 79))) from Kept.alloc (World.drew V) (.cells #[] 79)) (by simp)); have p2 := Kept.size KD; rcases hg1 with h | h <;> (simp at h p1 p2 ⊢; omega)
        have k1 : Kept [] V w1 := Kept.trans (Kept.trans KD (show Kept [] (World.drew V) (World.drew (World.alloc V (.cells #[] 79))) from Kept.alloc (World.drew V) (.cells #[] 79)) (by simp)) (Kept.of_grown hgb1') (fun x hx => .inr (by simp at hx; subst hx; have p3 := Kept.size KD; first | exact p3 | (simp; done) | (simp at p3 ⊢; omega)))
        refine hK.out _ _ ?_ (fun hHeld2 => ?_)
        · (try dsimp only); exact CF.out _ k1
        clear hK K hHeld
        have hHeld := hHeld2
        clear hHeld2
        (try simp only [Act.put, List.setIfInBounds_toArray, List.set_cons_zero, List.set_cons_succ, List.getElem_toArray, List.getElem_cons_zero, List.getElem_cons_succ])
        (try simp only [Nat.zero_add])
        refine wpAnyH_ready (rs := [8]) (by kernel_rfl) (by simp) ?_
        refine AllReadyH.cons rfl (fun K hK => ?_) AllReadyH.nil
        (try simp only [List.getElem_toArray, List.getElem_cons_zero, List.getElem_cons_succ])
        go_simp
        refine hK.out _ _ ?_ (fun hHeld2 => ?_)
        · (try dsimp only); exact CF.out _ (Kept.trans k1 (show Kept [] w1 (World.alloc w1 (.cells #[.string s, .string t] 79)) from Kept.alloc w1 (.cells #[.string s, .string t] 79)) (by simp))
        clear hK K hHeld
        have hHeld := hHeld2
        clear hHeld2
        (try simp only [Act.put, List.setIfInBounds_toArray, List.set_cons_zero, List.set_cons_succ, List.getElem_toArray, List.getElem_cons_zero, List.getElem_cons_succ])
        refine wpAnyH_ready (rs := [9]) (by kernel_rfl) (by simp) ?_
        refine AllReadyH.cons rfl (fun K hK => ?_) AllReadyH.nil
        skip
        have re2 : RowAt (World.alloc w1 (.cells #[.string s, .string t] 79)) 79 2 g1 o1 cap1 l (textCells L.ts) := (RowAt.kept hr1' (show Kept [] w1 (World.alloc w1 (.cells #[.string s, .string t] 79)) from Kept.alloc w1 (.cells #[.string s, .string t] 79)) (by simp))
        have sp : Src Tryd.prog 2 74 (.slice (some ⟨(World.heap w1).size, 0, none⟩) 1 1) 1 [.string s, .string t] (World.alloc w1 (.cells #[.string s, .string t] 79)) := src_pair (show (World.heap (World.alloc w1 (.cells #[.string s, .string t] 79)))[(World.heap w1).size]? = some (.cells #[.string s, .string t] 79 (0, 0)) from heap_alloc_new w1 (.cells #[.string s, .string t] 79))
        refine step_append_at ?qhgd8 ?qs8 ?qx8 74 74 ?qho8 79 (.agg #[.string ByteArray.empty, .string ByteArray.empty]) 2 32 Tryd.underlying74 info79 rfl g1 o1 cap1 l (textCells L.ts) ?qhsv8 ?qhrow8 (.slice (some ⟨(World.heap w1).size, 0, none⟩) 1 1) ?qhxv8 1 [.string s, .string t] ?qhs8 ?qh18 ?qh28 ?qhh8
        case qho8 => rfl
        case qhgd8 => rfl
        case qhsv8 => rfl
        case qhxv8 => first | rfl | (simp; done) | (rw [show (World.heap w1).size = V.heap.size + 1 by simp]; rfl)
        case qhrow8 => simpa using re2
        case qhs8 => simpa using sp
        case qh18 => simp [maxLen]; omega
        case qh28 => omega
        intro g2 o2 cap2 w2 hr2 hgb2 hg2
        have hgb2' : ((World.alloc w1 (.cells #[.string s, .string t] 79))).grownBy w2 (some g1) := by simpa using hgb2
        have k2 : Kept [] V w2 := Kept.trans (Kept.trans k1 (show Kept [] w1 (World.alloc w1 (.cells #[.string s, .string t] 79)) from Kept.alloc w1 (.cells #[.string s, .string t] 79)) (by simp)) (Kept.of_grown hgb2') (fun x hx => .inr (by simp at hx; subst hx; exact hv1))
        refine hK.out _ _ ?_ (fun hHeld2 => ?_)
        · (try dsimp only); exact CF.out _ k2
        clear hK K hHeld
        have hHeld := hHeld2
        clear hHeld2
        (try simp only [Act.put, List.setIfInBounds_toArray, List.set_cons_zero, List.set_cons_succ, List.getElem_toArray, List.getElem_cons_zero, List.getElem_cons_succ])
        have c1x := (CF1.out _ k2).1
        have f1x := (CF1.out _ k2).2
        refine wpAnyH_take (i := 10) (v := ?_) rfl (by kernel_rfl) (by kernel_rfl) (by kernel_rfl) (fun _ _ _ h => h) (Or.inl ⟨by rfl, ?_⟩) (by assumption) ?_
        rotate_left; · (intro w hSw; (try dsimp only at hSw); go_simp; try with_reducible rfl)
        (try simp only [Act.put, List.setIfInBounds_toArray, List.set_cons_zero, List.set_cons_succ, List.getElem_toArray, List.getElem_cons_zero, List.getElem_cons_succ])
        refine wpAnyH_take (i := 11) (v := ?_) rfl (by kernel_rfl) (by kernel_rfl) (by kernel_rfl) (fun _ _ _ h => h) (Or.inl ⟨by rfl, ?_⟩) (by assumption) ?_
        rotate_left; · (intro w hSw; (try dsimp only at hSw); go_simp; try with_reducible rfl)
        (try simp only [Act.put, List.setIfInBounds_toArray, List.set_cons_zero, List.set_cons_succ, List.getElem_toArray, List.getElem_cons_zero, List.getElem_cons_succ])
        refine wpAnyH_ready (rs := [12]) (by kernel_rfl) (by simp) ?_
        refine AllReadyH.cons rfl (fun K hK => ?_) AllReadyH.nil
        (try simp only [List.getElem_toArray, List.getElem_cons_zero, List.getElem_cons_succ])
        go_simp
        refine hK.out _ _ ?_ (fun hHeld2 => ?_)
        · (try dsimp only); exact CF12.out _ _ k2
        clear hK K hHeld
        have hHeld := hHeld2
        clear hHeld2
        (try simp only [Act.put, List.setIfInBounds_toArray, List.set_cons_zero, List.set_cons_succ, List.getElem_toArray, List.getElem_cons_zero, List.getElem_cons_succ])
        refine wpAnyH_done (by kernel_rfl) ?_ _
        obtain ⟨X, hX⟩ : ∃ X, X = w2.setCell ⟨rb, 1, none⟩ (.slice (some ⟨g2, o2, none⟩) (l + 1) cap2) := ⟨_, rfl⟩
        try rw [← hX]
        have hXR : RAt X rb (.slice (some ⟨g2, o2, none⟩) (l + 1) cap2) (L.push (s, t)) := by
          rw [hX]
          refine (HRA.out _ k2).setCell 1 _ rfl (.inr ⟨g2, o2, cap2, ?_, ?_⟩)
          · rw [← HL.out]; simp [Lin.push]
          · have e : textCells (L.push (s, t)).ts = textCells L.ts ++ [.string s, .string t] := by unfold Lin.push; rw [textCells_append]; rfl
            rw [e, show (L.push (s, t)).ts.length = l + 1 by rw [← HL.out]; simp [Lin.push]]
            exact hr2
        have KX : Hid (Kept [rb] w X) := Lib.hid (by
          rw [hX]
          exact ((KW2.out _ k2).mono (fp' := [rb]) (by simp)).trans (Kept.setCell w2 rb 1 _) (by simp))
        have cc := hXR.at6
        have ff := hXR.f 6
        have hb0 : 0 ≤ L.c4 := HOK.out.2.2.2.2.2.2.2.2.1
        have hb1 : L.c4 ≤ 1000000 := HOK.out.2.2.2.2.2.2.2.2.2.1
        obtain ⟨cv, hcv⟩ : ∃ cv, L.c4 = cv := ⟨_, rfl⟩
        have CV := Lib.hid hcv
        rw [show (L.push (s, t)).c4 = L.c4 from rfl, hcv] at cc
        rw [hcv] at hb0 hb1
        have ew : IntKind.i64.wrap (cv + 1) = cv + 1 := IntWalk.i64_in _ (by omega)
        have F : Hid (RDone w rb { L.push (s, t) with c4 := L.c4 + 1 } (.int .i64 0) (.returned (.int .i64 0)) ((X.setCell ⟨rb, 6, none⟩ (.int .i64 (cv + 1))).drew)) := Lib.hid
          ⟨rfl, _, (hXR.setCell 6 (.int .i64 (cv + 1)) (L' := { L.push (s, t) with c4 := L.c4 + 1 }) (by rw [← CV.out]; rfl) hXR.row).below ⟨rfl, rfl, rfl, Nat.le_refl _, fun _ _ => rfl⟩, (KX.out.trans (Kept.setCell X rb 6 _) (by simp)).drew⟩
        clear hX hr2 k2 hcv hXR
        go_wp2_with fail
        go_still_tail 10, (by kernel_rfl)
        go_wp2
        go_ret
        exact F.out
      refine AllReadyH.cons rfl (fun K hK => ?_) AllReadyH.nil
      (try simp only [List.getElem_toArray, List.getElem_cons_zero, List.getElem_cons_succ])
      go_simp
      refine hK.out _ _ ?_ (fun hHeld2 => ?_)
      · (try dsimp only); exact CF.out _ (Kept.trans (Kept.trans KD (show Kept [] (World.drew V) (World.drew (World.alloc V (.cells #[] 79))) from Kept.alloc (World.drew V) (.cells #[] 79)) (by simp)) (show Kept [] (World.drew (World.alloc V (.cells #[] 79))) (World.drew (World.alloc (World.alloc V (.cells #[] 79)) (.cells #[.string s, .string t] 79))) from Kept.alloc (World.drew (World.alloc V (.cells #[] 79))) (.cells #[.string s, .string t] 79)) (by simp))
      clear hK K hHeld
      have hHeld := hHeld2
      clear hHeld2
      (try simp only [Act.put, List.setIfInBounds_toArray, List.set_cons_zero, List.set_cons_succ, List.getElem_toArray, List.getElem_cons_zero, List.getElem_cons_succ])
      refine wpAnyH_ready (rs := [6]) (by kernel_rfl) (by simp) ?_
      refine AllReadyH.cons rfl (fun K hK => ?_) AllReadyH.nil
      skip
      have re : RowAt (World.drew (World.alloc (World.alloc V (.cells #[] 79)) (.cells #[.string s, .string t] 79))) 79 2 (World.heap (World.drew V)).size 0 0 0 [] := (RowAt.kept (show RowAt (World.drew (World.alloc V (.cells #[] 79))) 79 2 (World.heap (World.drew V)).size 0 0 0 [] from RowAt.empty (World.drew V) 79 2) (show Kept [] (World.drew (World.alloc V (.cells #[] 79))) (World.drew (World.alloc (World.alloc V (.cells #[] 79)) (.cells #[.string s, .string t] 79))) from Kept.alloc (World.drew (World.alloc V (.cells #[] 79))) (.cells #[.string s, .string t] 79)) (by simp))
      have se : Src Tryd.prog 2 74 (.slice A l cap) l (textCells L.ts) (World.drew (World.alloc (World.alloc V (.cells #[] 79)) (.cells #[.string s, .string t] 79))) := (HRO.out _ (Kept.trans (Kept.trans KD (show Kept [] (World.drew V) (World.drew (World.alloc V (.cells #[] 79))) from Kept.alloc (World.drew V) (.cells #[] 79)) (by simp)) (show Kept [] (World.drew (World.alloc V (.cells #[] 79))) (World.drew (World.alloc (World.alloc V (.cells #[] 79)) (.cells #[.string s, .string t] 79))) from Kept.alloc (World.drew (World.alloc V (.cells #[] 79))) (.cells #[.string s, .string t] 79)) (by simp))).src (textCells_one _) Tryd.underlying74
      refine step_append_at ?qhgd9 ?qs9 ?qx9 74 74 ?qho9 79 (.agg #[.string ByteArray.empty, .string ByteArray.empty]) 2 32 Tryd.underlying74 info79 rfl ?qg9 0 0 0 [] ?qhsv9 ?qhrow9 (.slice A l cap) ?qhxv9 l (textCells L.ts) ?qhs9 ?qh19 ?qh29 ?qhh9
      case qho9 => rfl
      case qhgd9 => rfl
      case qhsv9 => rfl
      case qhxv9 => rfl
      case qhrow9 => simpa using re
      case qhs9 => simpa using se
      case qh19 => simp [maxLen]; omega
      case qh29 => omega
      intro g1 o1 cap1 w1 hr1 hgb1 hg1
      have hgb1' : ((World.drew (World.alloc (World.alloc V (.cells #[] 79)) (.cells #[.string s, .string t] 79)))).grownBy w1 (some (World.heap (World.drew V)).size) := by simpa using hgb1
      have hr1' : RowAt w1 79 2 g1 o1 cap1 l (textCells L.ts) := by simpa using hr1
      have hv1 : V.heap.size ≤ g1 := by have p1 := Kept.size (Kept.trans (Kept.trans KD (show Kept [] (World.drew V) (World.drew (World.alloc V (.cells #[] 79))) from Kept.alloc (World.drew V) (.cells #[] 79)) (by simp)) (show Kept [] (World.drew (World.alloc V (.cells #[] 79))) (World.drew (World.alloc (World.alloc V (.cells #[] 79)) (.cells #[.string s, .string t] 79))) from Kept.alloc (World.drew (World.alloc V (.cells #[] 79))) (.cells #[.string s, .string t] 79)) (by simp)); have p2 := Kept.size KD; rcases hg1 with h | h <;> (simp at h p1 p2 ⊢; omega)
      have k1 : Kept [] V w1 := Kept.trans (Kept.trans (Kept.trans KD (show Kept [] (World.drew V) (World.drew (World.alloc V (.cells #[] 79))) from Kept.alloc (World.drew V) (.cells #[] 79)) (by simp)) (show Kept [] (World.drew (World.alloc V (.cells #[] 79))) (World.drew (World.alloc (World.alloc V (.cells #[] 79)) (.cells #[.string s, .string t] 79))) from Kept.alloc (World.drew (World.alloc V (.cells #[] 79))) (.cells #[.string s, .string t] 79)) (by simp)) (Kept.of_grown hgb1') (fun x hx => .inr (by simp at hx; subst hx; have p3 := Kept.size KD; first | exact p3 | (simp; done) | (simp at p3 ⊢; omega)))
      refine hK.out _ _ ?_ (fun hHeld2 => ?_)
      · (try dsimp only); exact CF.out _ k1
      clear hK K hHeld
      have hHeld := hHeld2
      clear hHeld2
      (try simp only [Act.put, List.setIfInBounds_toArray, List.set_cons_zero, List.set_cons_succ, List.getElem_toArray, List.getElem_cons_zero, List.getElem_cons_succ])
      (try simp only [Nat.zero_add])
      have z1 : w1.heap[(World.heap (World.drew (World.alloc V (.cells #[] 79)))).size]? = some (.cells #[.string s, .string t] 79 (0, 0)) := ((Kept.of_grown hgb1').block _ (Array.getElem?_eq_some_iff.1 (show (World.heap (World.drew (World.alloc (World.alloc V (.cells #[] 79)) (.cells #[.string s, .string t] 79))))[(World.heap (World.drew (World.alloc V (.cells #[] 79)))).size]? = some (.cells #[.string s, .string t] 79 (0, 0)) from heap_alloc_new (World.drew (World.alloc V (.cells #[] 79))) (.cells #[.string s, .string t] 79))).1 (by simp)).trans (show (World.heap (World.drew (World.alloc (World.alloc V (.cells #[] 79)) (.cells #[.string s, .string t] 79))))[(World.heap (World.drew (World.alloc V (.cells #[] 79)))).size]? = some (.cells #[.string s, .string t] 79 (0, 0)) from heap_alloc_new (World.drew (World.alloc V (.cells #[] 79))) (.cells #[.string s, .string t] 79))
      refine wpAnyH_ready (rs := [9]) (by kernel_rfl) (by simp) ?_
      refine AllReadyH.cons rfl (fun K hK => ?_) AllReadyH.nil
      skip
      have re2 : RowAt w1 79 2 g1 o1 cap1 l (textCells L.ts) := hr1'
      have sp : Src Tryd.prog 2 74 (.slice (some ⟨(World.heap (World.drew (World.alloc V (.cells #[] 79)))).size, 0, none⟩) 1 1) 1 [.string s, .string t] w1 := src_pair z1
      refine step_append_at ?qhgd10 ?qs10 ?qx10 74 74 ?qho10 79 (.agg #[.string ByteArray.empty, .string ByteArray.empty]) 2 32 Tryd.underlying74 info79 rfl g1 o1 cap1 l (textCells L.ts) ?qhsv10 ?qhrow10 (.slice (some ⟨(World.heap (World.drew (World.alloc V (.cells #[] 79)))).size, 0, none⟩) 1 1) ?qhxv10 1 [.string s, .string t] ?qhs10 ?qh110 ?qh210 ?qhh10
      case qho10 => rfl
      case qhgd10 => rfl
      case qhsv10 => rfl
      case qhxv10 => first | rfl | (simp; done) | (rw [show (World.heap (World.drew (World.alloc V (.cells #[] 79)))).size = V.heap.size + 1 by simp]; rfl)
      case qhrow10 => simpa using re2
      case qhs10 => simpa using sp
      case qh110 => simp [maxLen]; omega
      case qh210 => omega
      intro g2 o2 cap2 w2 hr2 hgb2 hg2
      have hgb2' : (w1).grownBy w2 (some g1) := by simpa using hgb2
      have k2 : Kept [] V w2 := Kept.trans k1 (Kept.of_grown hgb2') (fun x hx => .inr (by simp at hx; subst hx; exact hv1))
      refine hK.out _ _ ?_ (fun hHeld2 => ?_)
      · (try dsimp only); exact CF.out _ k2
      clear hK K hHeld
      have hHeld := hHeld2
      clear hHeld2
      (try simp only [Act.put, List.setIfInBounds_toArray, List.set_cons_zero, List.set_cons_succ, List.getElem_toArray, List.getElem_cons_zero, List.getElem_cons_succ])
      have c1x := (CF1.out _ k2).1
      have f1x := (CF1.out _ k2).2
      refine wpAnyH_take (i := 10) (v := ?_) rfl (by kernel_rfl) (by kernel_rfl) (by kernel_rfl) (fun _ _ _ h => h) (Or.inl ⟨by rfl, ?_⟩) (by assumption) ?_
      rotate_left; · (intro w hSw; (try dsimp only at hSw); go_simp; try with_reducible rfl)
      (try simp only [Act.put, List.setIfInBounds_toArray, List.set_cons_zero, List.set_cons_succ, List.getElem_toArray, List.getElem_cons_zero, List.getElem_cons_succ])
      refine wpAnyH_take (i := 11) (v := ?_) rfl (by kernel_rfl) (by kernel_rfl) (by kernel_rfl) (fun _ _ _ h => h) (Or.inl ⟨by rfl, ?_⟩) (by assumption) ?_
      rotate_left; · (intro w hSw; (try dsimp only at hSw); go_simp; try with_reducible rfl)
      (try simp only [Act.put, List.setIfInBounds_toArray, List.set_cons_zero, List.set_cons_succ, List.getElem_toArray, List.getElem_cons_zero, List.getElem_cons_succ])
      refine wpAnyH_ready (rs := [12]) (by kernel_rfl) (by simp) ?_
      refine AllReadyH.cons rfl (fun K hK => ?_) AllReadyH.nil
      (try simp only [List.getElem_toArray, List.getElem_cons_zero, List.getElem_cons_succ])
      go_simp
      refine hK.out _ _ ?_ (fun hHeld2 => ?_)
      · (try dsimp only); exact CF12.out _ _ k2
      clear hK K hHeld
      have hHeld := hHeld2
      clear hHeld2
      (try simp only [Act.put, List.setIfInBounds_toArray, List.set_cons_zero, List.set_cons_succ, List.getElem_toArray, List.getElem_cons_zero, List.getElem_cons_succ])
      refine wpAnyH_done (by kernel_rfl) ?_ _
      obtain ⟨X, hX⟩ : ∃ X, X = w2.setCell ⟨rb, 1, none⟩ (.slice (some ⟨g2, o2, none⟩) (l + 1) cap2) := ⟨_, rfl⟩
      try rw [← hX]
      have hXR : RAt X rb (.slice (some ⟨g2, o2, none⟩) (l + 1) cap2) (L.push (s, t)) := by
        rw [hX]
        refine (HRA.out _ k2).setCell 1 _ rfl (.inr ⟨g2, o2, cap2, ?_, ?_⟩)
        · rw [← HL.out]; simp [Lin.push]
        · have e : textCells (L.push (s, t)).ts = textCells L.ts ++ [.string s, .string t] := by unfold Lin.push; rw [textCells_append]; rfl
          rw [e, show (L.push (s, t)).ts.length = l + 1 by rw [← HL.out]; simp [Lin.push]]
          exact hr2
      have KX : Hid (Kept [rb] w X) := Lib.hid (by
        rw [hX]
        exact ((KW2.out _ k2).mono (fp' := [rb]) (by simp)).trans (Kept.setCell w2 rb 1 _) (by simp))
      have cc := hXR.at6
      have ff := hXR.f 6
      have hb0 : 0 ≤ L.c4 := HOK.out.2.2.2.2.2.2.2.2.1
      have hb1 : L.c4 ≤ 1000000 := HOK.out.2.2.2.2.2.2.2.2.2.1
      obtain ⟨cv, hcv⟩ : ∃ cv, L.c4 = cv := ⟨_, rfl⟩
      have CV := Lib.hid hcv
      rw [show (L.push (s, t)).c4 = L.c4 from rfl, hcv] at cc
      rw [hcv] at hb0 hb1
      have ew : IntKind.i64.wrap (cv + 1) = cv + 1 := IntWalk.i64_in _ (by omega)
      have F : Hid (RDone w rb { L.push (s, t) with c4 := L.c4 + 1 } (.int .i64 0) (.returned (.int .i64 0)) ((X.setCell ⟨rb, 6, none⟩ (.int .i64 (cv + 1))).drew)) := Lib.hid
        ⟨rfl, _, (hXR.setCell 6 (.int .i64 (cv + 1)) (L' := { L.push (s, t) with c4 := L.c4 + 1 }) (by rw [← CV.out]; rfl) hXR.row).below ⟨rfl, rfl, rfl, Nat.le_refl _, fun _ _ => rfl⟩, (KX.out.trans (Kept.setCell X rb 6 _) (by simp)).drew⟩
      clear hX hr2 k2 hcv hXR
      go_wp2_with fail
      go_still_tail 10, (by kernel_rfl)
      go_wp2
      go_ret
      exact F.out
    refine AllReadyH.cons rfl (fun K hK => ?_) AllReadyH.nil
    (try simp only [List.getElem_toArray, List.getElem_cons_zero, List.getElem_cons_succ])
    go_simp
    refine hK.out _ _ ?_ (fun hHeld2 => ?_)
    · (try dsimp only); exact CF.out _ (Kept.trans KD (show Kept [] (World.drew V) (World.drew (World.alloc V (.cells #[.string s, .string t] 79))) from Kept.alloc (World.drew V) (.cells #[.string s, .string t] 79)) (by simp))
    clear hK K hHeld
    have hHeld := hHeld2
    clear hHeld2
    (try simp only [Act.put, List.setIfInBounds_toArray, List.set_cons_zero, List.set_cons_succ, List.getElem_toArray, List.getElem_cons_zero, List.getElem_cons_succ])
    refine wpAnyH_ready (rs := [1]) (by kernel_rfl) (by simp) ?_
    refine AllReadyH.cons rfl (fun K hK => ?_) AllReadyH.nil
    (try simp only [List.getElem_toArray, List.getElem_cons_zero, List.getElem_cons_succ])
    go_simp
    refine hK.out _ _ ?_ (fun hHeld2 => ?_)
    · (try dsimp only); exact CF.out _ (Kept.trans (Kept.trans KD (show Kept [] (World.drew V) (World.drew (World.alloc V (.cells #[.string s, .string t] 79))) from Kept.alloc (World.drew V) (.cells #[.string s, .string t] 79)) (by simp)) (show Kept [] (World.drew (World.alloc V (.cells #[.string s, .string t] 79))) (World.drew (World.alloc (World.alloc V (.cells #[.string s, .string t] 79)) (.cells #[] 79))) from Kept.alloc (World.drew (World.alloc V (.cells #[.string s, .string t] 79))) (.cells #[] 79)) (by simp))
    clear hK K hHeld
    have hHeld := hHeld2
    clear hHeld2
    (try simp only [Act.put, List.setIfInBounds_toArray, List.set_cons_zero, List.set_cons_succ, List.getElem_toArray, List.getElem_cons_zero, List.getElem_cons_succ])
    refine wpAnyH_ready (rs := [6]) (by kernel_rfl) (by simp) ?_
    refine AllReadyH.cons rfl (fun K hK => ?_) AllReadyH.nil
    skip
    have re : RowAt (World.drew (World.alloc (World.alloc V (.cells #[.string s, .string t] 79)) (.cells #[] 79))) 79 2 (World.heap (World.drew (World.alloc V (.cells #[.string s, .string t] 79)))).size 0 0 0 [] := (show RowAt (World.drew (World.alloc (World.alloc V (.cells #[.string s, .string t] 79)) (.cells #[] 79))) 79 2 (World.heap (World.drew (World.alloc V (.cells #[.string s, .string t] 79)))).size 0 0 0 [] from RowAt.empty (World.drew (World.alloc V (.cells #[.string s, .string t] 79))) 79 2)
    have se : Src Tryd.prog 2 74 (.slice A l cap) l (textCells L.ts) (World.drew (World.alloc (World.alloc V (.cells #[.string s, .string t] 79)) (.cells #[] 79))) := (HRO.out _ (Kept.trans (Kept.trans KD (show Kept [] (World.drew V) (World.drew (World.alloc V (.cells #[.string s, .string t] 79))) from Kept.alloc (World.drew V) (.cells #[.string s, .string t] 79)) (by simp)) (show Kept [] (World.drew (World.alloc V (.cells #[.string s, .string t] 79))) (World.drew (World.alloc (World.alloc V (.cells #[.string s, .string t] 79)) (.cells #[] 79))) from Kept.alloc (World.drew (World.alloc V (.cells #[.string s, .string t] 79))) (.cells #[] 79)) (by simp))).src (textCells_one _) Tryd.underlying74
    refine step_append_at ?qhgd11 ?qs11 ?qx11 74 74 ?qho11 79 (.agg #[.string ByteArray.empty, .string ByteArray.empty]) 2 32 Tryd.underlying74 info79 rfl ?qg11 0 0 0 [] ?qhsv11 ?qhrow11 (.slice A l cap) ?qhxv11 l (textCells L.ts) ?qhs11 ?qh111 ?qh211 ?qhh11
    case qho11 => rfl
    case qhgd11 => rfl
    case qhsv11 => rfl
    case qhxv11 => rfl
    case qhrow11 => simpa using re
    case qhs11 => simpa using se
    case qh111 => simp [maxLen]; omega
    case qh211 => omega
    intro g1 o1 cap1 w1 hr1 hgb1 hg1
    have hgb1' : ((World.drew (World.alloc (World.alloc V (.cells #[.string s, .string t] 79)) (.cells #[] 79)))).grownBy w1 (some (World.heap (World.drew (World.alloc V (.cells #[.string s, .string t] 79)))).size) := by simpa using hgb1
    have hr1' : RowAt w1 79 2 g1 o1 cap1 l (textCells L.ts) := by simpa using hr1
    have hv1 : V.heap.size ≤ g1 := by have p1 := Kept.size (Kept.trans (Kept.trans KD (show Kept [] (World.drew V) (World.drew (World.alloc V (.cells #[.string s, .string t] 79))) from Kept.alloc (World.drew V) (.cells #[.string s, .string t] 79)) (by simp)) (show Kept [] (World.drew (World.alloc V (.cells #[.string s, .string t] 79))) (World.drew (World.alloc (World.alloc V (.cells #[.string s, .string t] 79)) (.cells #[] 79))) from Kept.alloc (World.drew (World.alloc V (.cells #[.string s, .string t] 79))) (.cells #[] 79)) (by simp)); have p2 := Kept.size (Kept.trans KD (show Kept [] (World.drew V) (World.drew (World.alloc V (.cells #[.string s, .string t] 79))) from Kept.alloc (World.drew V) (.cells #[.string s, .string t] 79)) (by simp)); rcases hg1 with h | h <;> (simp at h p1 p2 ⊢; omega)
    have k1 : Kept [] V w1 := Kept.trans (Kept.trans (Kept.trans KD (show Kept [] (World.drew V) (World.drew (World.alloc V (.cells #[.string s, .string t] 79))) from Kept.alloc (World.drew V) (.cells #[.string s, .string t] 79)) (by simp)) (show Kept [] (World.drew (World.alloc V (.cells #[.string s, .string t] 79))) (World.drew (World.alloc (World.alloc V (.cells #[.string s, .string t] 79)) (.cells #[] 79))) from Kept.alloc (World.drew (World.alloc V (.cells #[.string s, .string t] 79))) (.cells #[] 79)) (by simp)) (Kept.of_grown hgb1') (fun x hx => .inr (by simp at hx; subst hx; have p3 := Kept.size (Kept.trans KD (show Kept [] (World.drew V) (World.drew (World.alloc V (.cells #[.string s, .string t] 79))) from Kept.alloc (World.drew V) (.cells #[.string s, .string t] 79)) (by simp)); first | exact p3 | (simp; done) | (simp at p3 ⊢; omega)))
    refine hK.out _ _ ?_ (fun hHeld2 => ?_)
    · (try dsimp only); exact CF.out _ k1
    clear hK K hHeld
    have hHeld := hHeld2
    clear hHeld2
    (try simp only [Act.put, List.setIfInBounds_toArray, List.set_cons_zero, List.set_cons_succ, List.getElem_toArray, List.getElem_cons_zero, List.getElem_cons_succ])
    (try simp only [Nat.zero_add])
    have z1 : w1.heap[(World.heap (World.drew V)).size]? = some (.cells #[.string s, .string t] 79 (0, 0)) := ((Kept.of_grown hgb1').block _ (Array.getElem?_eq_some_iff.1 (((show Kept [] (World.drew (World.alloc V (.cells #[.string s, .string t] 79))) (World.drew (World.alloc (World.alloc V (.cells #[.string s, .string t] 79)) (.cells #[] 79))) from Kept.alloc (World.drew (World.alloc V (.cells #[.string s, .string t] 79))) (.cells #[] 79)).block _ (Array.getElem?_eq_some_iff.1 (show (World.heap (World.drew (World.alloc V (.cells #[.string s, .string t] 79))))[(World.heap (World.drew V)).size]? = some (.cells #[.string s, .string t] 79 (0, 0)) from heap_alloc_new (World.drew V) (.cells #[.string s, .string t] 79))).1 (by simp)).trans (show (World.heap (World.drew (World.alloc V (.cells #[.string s, .string t] 79))))[(World.heap (World.drew V)).size]? = some (.cells #[.string s, .string t] 79 (0, 0)) from heap_alloc_new (World.drew V) (.cells #[.string s, .string t] 79)))).1 (by simp)).trans (((show Kept [] (World.drew (World.alloc V (.cells #[.string s, .string t] 79))) (World.drew (World.alloc (World.alloc V (.cells #[.string s, .string t] 79)) (.cells #[] 79))) from Kept.alloc (World.drew (World.alloc V (.cells #[.string s, .string t] 79))) (.cells #[] 79)).block _ (Array.getElem?_eq_some_iff.1 (show (World.heap (World.drew (World.alloc V (.cells #[.string s, .string t] 79))))[(World.heap (World.drew V)).size]? = some (.cells #[.string s, .string t] 79 (0, 0)) from heap_alloc_new (World.drew V) (.cells #[.string s, .string t] 79))).1 (by simp)).trans (show (World.heap (World.drew (World.alloc V (.cells #[.string s, .string t] 79))))[(World.heap (World.drew V)).size]? = some (.cells #[.string s, .string t] 79 (0, 0)) from heap_alloc_new (World.drew V) (.cells #[.string s, .string t] 79)))
    refine wpAnyH_ready (rs := [9]) (by kernel_rfl) (by simp) ?_
    refine AllReadyH.cons rfl (fun K hK => ?_) AllReadyH.nil
    skip
    have re2 : RowAt w1 79 2 g1 o1 cap1 l (textCells L.ts) := hr1'
    have sp : Src Tryd.prog 2 74 (.slice (some ⟨(World.heap (World.drew V)).size, 0, none⟩) 1 1) 1 [.string s, .string t] w1 := src_pair z1
    refine step_append_at ?qhgd12 ?qs12 ?qx12 74 74 ?qho12 79 (.agg #[.string ByteArray.empty, .string ByteArray.empty]) 2 32 Tryd.underlying74 info79 rfl g1 o1 cap1 l (textCells L.ts) ?qhsv12 ?qhrow12 (.slice (some ⟨(World.heap (World.drew V)).size, 0, none⟩) 1 1) ?qhxv12 1 [.string s, .string t] ?qhs12 ?qh112 ?qh212 ?qhh12
    case qho12 => rfl
    case qhgd12 => rfl
    case qhsv12 => rfl
    case qhxv12 => first | rfl | (simp; done) | (rw [show (World.heap (World.drew V)).size = V.heap.size + 1 by simp]; rfl)
    case qhrow12 => simpa using re2
    case qhs12 => simpa using sp
    case qh112 => simp [maxLen]; omega
    case qh212 => omega
    intro g2 o2 cap2 w2 hr2 hgb2 hg2
    have hgb2' : (w1).grownBy w2 (some g1) := by simpa using hgb2
    have k2 : Kept [] V w2 := Kept.trans k1 (Kept.of_grown hgb2') (fun x hx => .inr (by simp at hx; subst hx; exact hv1))
    refine hK.out _ _ ?_ (fun hHeld2 => ?_)
    · (try dsimp only); exact CF.out _ k2
    clear hK K hHeld
    have hHeld := hHeld2
    clear hHeld2
    (try simp only [Act.put, List.setIfInBounds_toArray, List.set_cons_zero, List.set_cons_succ, List.getElem_toArray, List.getElem_cons_zero, List.getElem_cons_succ])
    have c1x := (CF1.out _ k2).1
    have f1x := (CF1.out _ k2).2
    refine wpAnyH_take (i := 10) (v := ?_) rfl (by kernel_rfl) (by kernel_rfl) (by kernel_rfl) (fun _ _ _ h => h) (Or.inl ⟨by rfl, ?_⟩) (by assumption) ?_
    rotate_left; · (intro w hSw; (try dsimp only at hSw); go_simp; try with_reducible rfl)
    (try simp only [Act.put, List.setIfInBounds_toArray, List.set_cons_zero, List.set_cons_succ, List.getElem_toArray, List.getElem_cons_zero, List.getElem_cons_succ])
    refine wpAnyH_take (i := 11) (v := ?_) rfl (by kernel_rfl) (by kernel_rfl) (by kernel_rfl) (fun _ _ _ h => h) (Or.inl ⟨by rfl, ?_⟩) (by assumption) ?_
    rotate_left; · (intro w hSw; (try dsimp only at hSw); go_simp; try with_reducible rfl)
    (try simp only [Act.put, List.setIfInBounds_toArray, List.set_cons_zero, List.set_cons_succ, List.getElem_toArray, List.getElem_cons_zero, List.getElem_cons_succ])
    refine wpAnyH_ready (rs := [12]) (by kernel_rfl) (by simp) ?_
    refine AllReadyH.cons rfl (fun K hK => ?_) AllReadyH.nil
    (try simp only [List.getElem_toArray, List.getElem_cons_zero, List.getElem_cons_succ])
    go_simp
    refine hK.out _ _ ?_ (fun hHeld2 => ?_)
    · (try dsimp only); exact CF12.out _ _ k2
    clear hK K hHeld
    have hHeld := hHeld2
    clear hHeld2
    (try simp only [Act.put, List.setIfInBounds_toArray, List.set_cons_zero, List.set_cons_succ, List.getElem_toArray, List.getElem_cons_zero, List.getElem_cons_succ])
    refine wpAnyH_done (by kernel_rfl) ?_ _
    obtain ⟨X, hX⟩ : ∃ X, X = w2.setCell ⟨rb, 1, none⟩ (.slice (some ⟨g2, o2, none⟩) (l + 1) cap2) := ⟨_, rfl⟩
    try rw [← hX]
    have hXR : RAt X rb (.slice (some ⟨g2, o2, none⟩) (l + 1) cap2) (L.push (s, t)) := by
      rw [hX]
      refine (HRA.out _ k2).setCell 1 _ rfl (.inr ⟨g2, o2, cap2, ?_, ?_⟩)
      · rw [← HL.out]; simp [Lin.push]
      · have e : textCells (L.push (s, t)).ts = textCells L.ts ++ [.string s, .string t] := by unfold Lin.push; rw [textCells_append]; rfl
        rw [e, show (L.push (s, t)).ts.length = l + 1 by rw [← HL.out]; simp [Lin.push]]
        exact hr2
    have KX : Hid (Kept [rb] w X) := Lib.hid (by
      rw [hX]
      exact ((KW2.out _ k2).mono (fp' := [rb]) (by simp)).trans (Kept.setCell w2 rb 1 _) (by simp))
    have cc := hXR.at6
    have ff := hXR.f 6
    have hb0 : 0 ≤ L.c4 := HOK.out.2.2.2.2.2.2.2.2.1
    have hb1 : L.c4 ≤ 1000000 := HOK.out.2.2.2.2.2.2.2.2.2.1
    obtain ⟨cv, hcv⟩ : ∃ cv, L.c4 = cv := ⟨_, rfl⟩
    have CV := Lib.hid hcv
    rw [show (L.push (s, t)).c4 = L.c4 from rfl, hcv] at cc
    rw [hcv] at hb0 hb1
    have ew : IntKind.i64.wrap (cv + 1) = cv + 1 := IntWalk.i64_in _ (by omega)
    have F : Hid (RDone w rb { L.push (s, t) with c4 := L.c4 + 1 } (.int .i64 0) (.returned (.int .i64 0)) ((X.setCell ⟨rb, 6, none⟩ (.int .i64 (cv + 1))).drew)) := Lib.hid
      ⟨rfl, _, (hXR.setCell 6 (.int .i64 (cv + 1)) (L' := { L.push (s, t) with c4 := L.c4 + 1 }) (by rw [← CV.out]; rfl) hXR.row).below ⟨rfl, rfl, rfl, Nat.le_refl _, fun _ _ => rfl⟩, (KX.out.trans (Kept.setCell X rb 6 _) (by simp)).drew⟩
    clear hX hr2 k2 hcv hXR
    go_wp2_with fail
    go_still_tail 10, (by kernel_rfl)
    go_wp2
    go_ret
    exact F.out
  refine AllReadyH.cons rfl (fun K hK => ?_) AllReadyH.nil
  (try simp only [List.getElem_toArray, List.getElem_cons_zero, List.getElem_cons_succ])
  go_simp
  refine hK.out _ _ ?_ (fun hHeld2 => ?_)
  · (try dsimp only); exact CF.out _ (Kept.trans KD (show Kept [] (World.drew V) (World.drew (World.alloc V (.cells #[.string s, .string t] 79))) from Kept.alloc (World.drew V) (.cells #[.string s, .string t] 79)) (by simp))
  clear hK K hHeld
  have hHeld := hHeld2
  clear hHeld2
  (try simp only [Act.put, List.setIfInBounds_toArray, List.set_cons_zero, List.set_cons_succ, List.getElem_toArray, List.getElem_cons_zero, List.getElem_cons_succ])
  refine wpAnyH_ready (rs := [1, 5]) (by kernel_rfl) (by simp) ?_
  refine AllReadyH.cons rfl (fun K hK => ?_) ?_
  · (try simp only [List.getElem_toArray, List.getElem_cons_zero, List.getElem_cons_succ])
    go_simp
    refine hK.out _ _ ?_ (fun hHeld2 => ?_)
    · (try dsimp only); exact CF.out _ (Kept.trans (Kept.trans KD (show Kept [] (World.drew V) (World.drew (World.alloc V (.cells #[.string s, .string t] 79))) from Kept.alloc (World.drew V) (.cells #[.string s, .string t] 79)) (by simp)) (show Kept [] (World.drew (World.alloc V (.cells #[.string s, .string t] 79))) (World.drew (World.alloc (World.alloc V (.cells #[.string s, .string t] 79)) (.cells #[] 79))) from Kept.alloc (World.drew (World.alloc V (.cells #[.string s, .string t] 79))) (.cells #[] 79)) (by simp))
    clear hK K hHeld
    have hHeld := hHeld2
    clear hHeld2
    (try simp only [Act.put, List.setIfInBounds_toArray, List.set_cons_zero, List.set_cons_succ, List.getElem_toArray, List.getElem_cons_zero, List.getElem_cons_succ])
    refine wpAnyH_ready (rs := [5]) (by kernel_rfl) (by simp) ?_
    refine AllReadyH.cons rfl (fun K hK => ?_) AllReadyH.nil
    (try simp only [List.getElem_toArray, List.getElem_cons_zero, List.getElem_cons_succ])
    have c1x : ((World.drew (World.alloc (World.alloc V (.cells #[.string s, .string t] 79)) (.cells #[] 79)))).cell? ⟨rb, 1, none⟩ = some (.slice A l cap) := (CF1.out _ (Kept.trans (Kept.trans KD (show Kept [] (World.drew V) (World.drew (World.alloc V (.cells #[.string s, .string t] 79))) from Kept.alloc (World.drew V) (.cells #[.string s, .string t] 79)) (by simp)) (show Kept [] (World.drew (World.alloc V (.cells #[.string s, .string t] 79))) (World.drew (World.alloc (World.alloc V (.cells #[.string s, .string t] 79)) (.cells #[] 79))) from Kept.alloc (World.drew (World.alloc V (.cells #[.string s, .string t] 79))) (.cells #[] 79)) (by simp))).1
    go_simp
    clear c1x
    refine hK.out _ _ ?_ (fun hHeld2 => ?_)
    · (try dsimp only); exact CF.out _ (Kept.trans (Kept.trans KD (show Kept [] (World.drew V) (World.drew (World.alloc V (.cells #[.string s, .string t] 79))) from Kept.alloc (World.drew V) (.cells #[.string s, .string t] 79)) (by simp)) (show Kept [] (World.drew (World.alloc V (.cells #[.string s, .string t] 79))) (World.drew (World.alloc (World.alloc V (.cells #[.string s, .string t] 79)) (.cells #[] 79))) from Kept.alloc (World.drew (World.alloc V (.cells #[.string s, .string t] 79))) (.cells #[] 79)) (by simp))
    clear hK K hHeld
    have hHeld := hHeld2
    clear hHeld2
    (try simp only [Act.put, List.setIfInBounds_toArray, List.set_cons_zero, List.set_cons_succ, List.getElem_toArray, List.getElem_cons_zero, List.getElem_cons_succ])
    refine wpAnyH_ready (rs := [6]) (by kernel_rfl) (by simp) ?_
    refine AllReadyH.cons rfl (fun K hK => ?_) AllReadyH.nil
    skip
    have re : RowAt (World.drew (World.alloc (World.alloc V (.cells #[.string s, .string t] 79)) (.cells #[] 79))) 79 2 (World.heap (World.drew (World.alloc V (.cells #[.string s, .string t] 79)))).size 0 0 0 [] := (show RowAt (World.drew (World.alloc (World.alloc V (.cells #[.string s, .string t] 79)) (.cells #[] 79))) 79 2 (World.heap (World.drew (World.alloc V (.cells #[.string s, .string t] 79)))).size 0 0 0 [] from RowAt.empty (World.drew (World.alloc V (.cells #[.string s, .string t] 79))) 79 2)
    have se : Src Tryd.prog 2 74 (.slice A l cap) l (textCells L.ts) (World.drew (World.alloc (World.alloc V (.cells #[.string s, .string t] 79)) (.cells #[] 79))) := (HRO.out _ (Kept.trans (Kept.trans KD (show Kept [] (World.drew V) (World.drew (World.alloc V (.cells #[.string s, .string t] 79))) from Kept.alloc (World.drew V) (.cells #[.string s, .string t] 79)) (by simp)) (show Kept [] (World.drew (World.alloc V (.cells #[.string s, .string t] 79))) (World.drew (World.alloc (World.alloc V (.cells #[.string s, .string t] 79)) (.cells #[] 79))) from Kept.alloc (World.drew (World.alloc V (.cells #[.string s, .string t] 79))) (.cells #[] 79)) (by simp))).src (textCells_one _) Tryd.underlying74
    refine step_append_at ?qhgd13 ?qs13 ?qx13 74 74 ?qho13 79 (.agg #[.string ByteArray.empty, .string ByteArray.empty]) 2 32 Tryd.underlying74 info79 rfl ?qg13 0 0 0 [] ?qhsv13 ?qhrow13 (.slice A l cap) ?qhxv13 l (textCells L.ts) ?qhs13 ?qh113 ?qh213 ?qhh13
    case qho13 => rfl
    case qhgd13 => rfl
    case qhsv13 => rfl
    case qhxv13 => rfl
    case qhrow13 => simpa using re
    case qhs13 => simpa using se
    case qh113 => simp [maxLen]; omega
    case qh213 => omega
    intro g1 o1 cap1 w1 hr1 hgb1 hg1
    have hgb1' : ((World.drew (World.alloc (World.alloc V (.cells #[.string s, .string t] 79)) (.cells #[] 79)))).grownBy w1 (some (World.heap (World.drew (World.alloc V (.cells #[.string s, .string t] 79)))).size) := by simpa using hgb1
    have hr1' : RowAt w1 79 2 g1 o1 cap1 l (textCells L.ts) := by simpa using hr1
    have hv1 : V.heap.size ≤ g1 := by have p1 := Kept.size (Kept.trans (Kept.trans KD (show Kept [] (World.drew V) (World.drew (World.alloc V (.cells #[.string s, .string t] 79))) from Kept.alloc (World.drew V) (.cells #[.string s, .string t] 79)) (by simp)) (show Kept [] (World.drew (World.alloc V (.cells #[.string s, .string t] 79))) (World.drew (World.alloc (World.alloc V (.cells #[.string s, .string t] 79)) (.cells #[] 79))) from Kept.alloc (World.drew (World.alloc V (.cells #[.string s, .string t] 79))) (.cells #[] 79)) (by simp)); have p2 := Kept.size (Kept.trans KD (show Kept [] (World.drew V) (World.drew (World.alloc V (.cells #[.string s, .string t] 79))) from Kept.alloc (World.drew V) (.cells #[.string s, .string t] 79)) (by simp)); rcases hg1 with h | h <;> (simp at h p1 p2 ⊢; omega)
    have k1 : Kept [] V w1 := Kept.trans (Kept.trans (Kept.trans KD (show Kept [] (World.drew V) (World.drew (World.alloc V (.cells #[.string s, .string t] 79))) from Kept.alloc (World.drew V) (.cells #[.string s, .string t] 79)) (by simp)) (show Kept [] (World.drew (World.alloc V (.cells #[.string s, .string t] 79))) (World.drew (World.alloc (World.alloc V (.cells #[.string s, .string t] 79)) (.cells #[] 79))) from Kept.alloc (World.drew (World.alloc V (.cells #[.string s, .string t] 79))) (.cells #[] 79)) (by simp)) (Kept.of_grown hgb1') (fun x hx => .inr (by simp at hx; subst hx; have p3 := Kept.size (Kept.trans KD (show Kept [] (World.drew V) (World.drew (World.alloc V (.cells #[.string s, .string t] 79))) from Kept.alloc (World.drew V) (.cells #[.string s, .string t] 79)) (by simp)); first | exact p3 | (simp; done) | (simp at p3 ⊢; omega)))
    refine hK.out _ _ ?_ (fun hHeld2 => ?_)
    · (try dsimp only); exact CF.out _ k1
    clear hK K hHeld
    have hHeld := hHeld2
    clear hHeld2
    (try simp only [Act.put, List.setIfInBounds_toArray, List.set_cons_zero, List.set_cons_succ, List.getElem_toArray, List.getElem_cons_zero, List.getElem_cons_succ])
    (try simp only [Nat.zero_add])
    have z1 : w1.heap[(World.heap (World.drew V)).size]? = some (.cells #[.string s, .string t] 79 (0, 0)) := ((Kept.of_grown hgb1').block _ (Array.getElem?_eq_some_iff.1 (((show Kept [] (World.drew (World.alloc V (.cells #[.string s, .string t] 79))) (World.drew (World.alloc (World.alloc V (.cells #[.string s, .string t] 79)) (.cells #[] 79))) from Kept.alloc (World.drew (World.alloc V (.cells #[.string s, .string t] 79))) (.cells #[] 79)).block _ (Array.getElem?_eq_some_iff.1 (show (World.heap (World.drew (World.alloc V (.cells #[.string s, .string t] 79))))[(World.heap (World.drew V)).size]? = some (.cells #[.string s, .string t] 79 (0, 0)) from heap_alloc_new (World.drew V) (.cells #[.string s, .string t] 79))).1 (by simp)).trans (show (World.heap (World.drew (World.alloc V (.cells #[.string s, .string t] 79))))[(World.heap (World.drew V)).size]? = some (.cells #[.string s, .string t] 79 (0, 0)) from heap_alloc_new (World.drew V) (.cells #[.string s, .string t] 79)))).1 (by simp)).trans (((show Kept [] (World.drew (World.alloc V (.cells #[.string s, .string t] 79))) (World.drew (World.alloc (World.alloc V (.cells #[.string s, .string t] 79)) (.cells #[] 79))) from Kept.alloc (World.drew (World.alloc V (.cells #[.string s, .string t] 79))) (.cells #[] 79)).block _ (Array.getElem?_eq_some_iff.1 (show (World.heap (World.drew (World.alloc V (.cells #[.string s, .string t] 79))))[(World.heap (World.drew V)).size]? = some (.cells #[.string s, .string t] 79 (0, 0)) from heap_alloc_new (World.drew V) (.cells #[.string s, .string t] 79))).1 (by simp)).trans (show (World.heap (World.drew (World.alloc V (.cells #[.string s, .string t] 79))))[(World.heap (World.drew V)).size]? = some (.cells #[.string s, .string t] 79 (0, 0)) from heap_alloc_new (World.drew V) (.cells #[.string s, .string t] 79)))
    refine wpAnyH_ready (rs := [9]) (by kernel_rfl) (by simp) ?_
    refine AllReadyH.cons rfl (fun K hK => ?_) AllReadyH.nil
    skip
    have re2 : RowAt w1 79 2 g1 o1 cap1 l (textCells L.ts) := hr1'
    have sp : Src Tryd.prog 2 74 (.slice (some ⟨(World.heap (World.drew V)).size, 0, none⟩) 1 1) 1 [.string s, .string t] w1 := src_pair z1
    refine step_append_at ?qhgd14 ?qs14 ?qx14 74 74 ?qho14 79 (.agg #[.string ByteArray.empty, .string ByteArray.empty]) 2 32 Tryd.underlying74 info79 rfl g1 o1 cap1 l (textCells L.ts) ?qhsv14 ?qhrow14 (.slice (some ⟨(World.heap (World.drew V)).size, 0, none⟩) 1 1) ?qhxv14 1 [.string s, .string t] ?qhs14 ?qh114 ?qh214 ?qhh14
    case qho14 => rfl
    case qhgd14 => rfl
    case qhsv14 => rfl
    case qhxv14 => first | rfl | (simp; done) | (rw [show (World.heap (World.drew V)).size = V.heap.size + 1 by simp]; rfl)
    case qhrow14 => simpa using re2
    case qhs14 => simpa using sp
    case qh114 => simp [maxLen]; omega
    case qh214 => omega
    intro g2 o2 cap2 w2 hr2 hgb2 hg2
    have hgb2' : (w1).grownBy w2 (some g1) := by simpa using hgb2
    have k2 : Kept [] V w2 := Kept.trans k1 (Kept.of_grown hgb2') (fun x hx => .inr (by simp at hx; subst hx; exact hv1))
    refine hK.out _ _ ?_ (fun hHeld2 => ?_)
    · (try dsimp only); exact CF.out _ k2
    clear hK K hHeld
    have hHeld := hHeld2
    clear hHeld2
    (try simp only [Act.put, List.setIfInBounds_toArray, List.set_cons_zero, List.set_cons_succ, List.getElem_toArray, List.getElem_cons_zero, List.getElem_cons_succ])
    have c1x := (CF1.out _ k2).1
    have f1x := (CF1.out _ k2).2
    refine wpAnyH_take (i := 10) (v := ?_) rfl (by kernel_rfl) (by kernel_rfl) (by kernel_rfl) (fun _ _ _ h => h) (Or.inl ⟨by rfl, ?_⟩) (by assumption) ?_
    rotate_left; · (intro w hSw; (try dsimp only at hSw); go_simp; try with_reducible rfl)
    (try simp only [Act.put, List.setIfInBounds_toArray, List.set_cons_zero, List.set_cons_succ, List.getElem_toArray, List.getElem_cons_zero, List.getElem_cons_succ])
    refine wpAnyH_take (i := 11) (v := ?_) rfl (by kernel_rfl) (by kernel_rfl) (by kernel_rfl) (fun _ _ _ h => h) (Or.inl ⟨by rfl, ?_⟩) (by assumption) ?_
    rotate_left; · (intro w hSw; (try dsimp only at hSw); go_simp; try with_reducible rfl)
    (try simp only [Act.put, List.setIfInBounds_toArray, List.set_cons_zero, List.set_cons_succ, List.getElem_toArray, List.getElem_cons_zero, List.getElem_cons_succ])
    refine wpAnyH_ready (rs := [12]) (by kernel_rfl) (by simp) ?_
    refine AllReadyH.cons rfl (fun K hK => ?_) AllReadyH.nil
    (try simp only [List.getElem_toArray, List.getElem_cons_zero, List.getElem_cons_succ])
    go_simp
    refine hK.out _ _ ?_ (fun hHeld2 => ?_)
    · (try dsimp only); exact CF12.out _ _ k2
    clear hK K hHeld
    have hHeld := hHeld2
    clear hHeld2
    (try simp only [Act.put, List.setIfInBounds_toArray, List.set_cons_zero, List.set_cons_succ, List.getElem_toArray, List.getElem_cons_zero, List.getElem_cons_succ])
    refine wpAnyH_done (by kernel_rfl) ?_ _
    obtain ⟨X, hX⟩ : ∃ X, X = w2.setCell ⟨rb, 1, none⟩ (.slice (some ⟨g2, o2, none⟩) (l + 1) cap2) := ⟨_, rfl⟩
    try rw [← hX]
    have hXR : RAt X rb (.slice (some ⟨g2, o2, none⟩) (l + 1) cap2) (L.push (s, t)) := by
      rw [hX]
      refine (HRA.out _ k2).setCell 1 _ rfl (.inr ⟨g2, o2, cap2, ?_, ?_⟩)
      · rw [← HL.out]; simp [Lin.push]
      · have e : textCells (L.push (s, t)).ts = textCells L.ts ++ [.string s, .string t] := by unfold Lin.push; rw [textCells_append]; rfl
        rw [e, show (L.push (s, t)).ts.length = l + 1 by rw [← HL.out]; simp [Lin.push]]
        exact hr2
    have KX : Hid (Kept [rb] w X) := Lib.hid (by
      rw [hX]
      exact ((KW2.out _ k2).mono (fp' := [rb]) (by simp)).trans (Kept.setCell w2 rb 1 _) (by simp))
    have cc := hXR.at6
    have ff := hXR.f 6
    have hb0 : 0 ≤ L.c4 := HOK.out.2.2.2.2.2.2.2.2.1
    have hb1 : L.c4 ≤ 1000000 := HOK.out.2.2.2.2.2.2.2.2.2.1
    obtain ⟨cv, hcv⟩ : ∃ cv, L.c4 = cv := ⟨_, rfl⟩
    have CV := Lib.hid hcv
    rw [show (L.push (s, t)).c4 = L.c4 from rfl, hcv] at cc
    rw [hcv] at hb0 hb1
    have ew : IntKind.i64.wrap (cv + 1) = cv + 1 := IntWalk.i64_in _ (by omega)
    have F : Hid (RDone w rb { L.push (s, t) with c4 := L.c4 + 1 } (.int .i64 0) (.returned (.int .i64 0)) ((X.setCell ⟨rb, 6, none⟩ (.int .i64 (cv + 1))).drew)) := Lib.hid
      ⟨rfl, _, (hXR.setCell 6 (.int .i64 (cv + 1)) (L' := { L.push (s, t) with c4 := L.c4 + 1 }) (by rw [← CV.out]; rfl) hXR.row).below ⟨rfl, rfl, rfl, Nat.le_refl _, fun _ _ => rfl⟩, (KX.out.trans (Kept.setCell X rb 6 _) (by simp)).drew⟩
    clear hX hr2 k2 hcv hXR
    go_wp2_with fail
    go_still_tail 10, (by kernel_rfl)
    go_wp2
    go_ret
    exact F.out
  refine AllReadyH.cons rfl (fun K hK => ?_) AllReadyH.nil
  (try simp only [List.getElem_toArray, List.getElem_cons_zero, List.getElem_cons_succ])
  have c1x : ((World.drew (World.alloc V (.cells #[.string s, .string t] 79)))).cell? ⟨rb, 1, none⟩ = some (.slice A l cap) := (CF1.out _ (Kept.trans KD (show Kept [] (World.drew V) (World.drew (World.alloc V (.cells #[.string s, .string t] 79))) from Kept.alloc (World.drew V) (.cells #[.string s, .string t] 79)) (by simp))).1
  go_simp
  clear c1x
  refine hK.out _ _ ?_ (fun hHeld2 => ?_)
  · (try dsimp only); exact CF.out _ (Kept.trans KD (show Kept [] (World.drew V) (World.drew (World.alloc V (.cells #[.string s, .string t] 79))) from Kept.alloc (World.drew V) (.cells #[.string s, .string t] 79)) (by simp))
  clear hK K hHeld
  have hHeld := hHeld2
  clear hHeld2
  (try simp only [Act.put, List.setIfInBounds_toArray, List.set_cons_zero, List.set_cons_succ, List.getElem_toArray, List.getElem_cons_zero, List.getElem_cons_succ])
  refine wpAnyH_ready (rs := [1]) (by kernel_rfl) (by simp) ?_
  refine AllReadyH.cons rfl (fun K hK => ?_) AllReadyH.nil
  (try simp only [List.getElem_toArray, List.getElem_cons_zero, List.getElem_cons_succ])
  go_simp
  refine hK.out _ _ ?_ (fun hHeld2 => ?_)
  · (try dsimp only); exact CF.out _ (Kept.trans (Kept.trans KD (show Kept [] (World.drew V) (World.drew (World.alloc V (.cells #[.string s, .string t] 79))) from Kept.alloc (World.drew V) (.cells #[.string s, .string t] 79)) (by simp)) (show Kept [] (World.drew (World.alloc V (.cells #[.string s, .string t] 79))) (World.drew (World.alloc (World.alloc V (.cells #[.string s, .string t] 79)) (.cells #[] 79))) from Kept.alloc (World.drew (World.alloc V (.cells #[.string s, .string t] 79))) (.cells #[] 79)) (by simp))
  clear hK K hHeld
  have hHeld := hHeld2
  clear hHeld2
  (try simp only [Act.put, List.setIfInBounds_toArray, List.set_cons_zero, List.set_cons_succ, List.getElem_toArray, List.getElem_cons_zero, List.getElem_cons_succ])
  refine wpAnyH_ready (rs := [6]) (by kernel_rfl) (by simp) ?_
  refine AllReadyH.cons rfl (fun K hK => ?_) AllReadyH.nil
  skip
  have re : RowAt (World.drew (World.alloc (World.alloc V (.cells #[.string s, .string t] 79)) (.cells #[] 79))) 79 2 (World.heap (World.drew (World.alloc V (.cells #[.string s, .string t] 79)))).size 0 0 0 [] := (show RowAt (World.drew (World.alloc (World.alloc V (.cells #[.string s, .string t] 79)) (.cells #[] 79))) 79 2 (World.heap (World.drew (World.alloc V (.cells #[.string s, .string t] 79)))).size 0 0 0 [] from RowAt.empty (World.drew (World.alloc V (.cells #[.string s, .string t] 79))) 79 2)
  have se : Src Tryd.prog 2 74 (.slice A l cap) l (textCells L.ts) (World.drew (World.alloc (World.alloc V (.cells #[.string s, .string t] 79)) (.cells #[] 79))) := (HRO.out _ (Kept.trans (Kept.trans KD (show Kept [] (World.drew V) (World.drew (World.alloc V (.cells #[.string s, .string t] 79))) from Kept.alloc (World.drew V) (.cells #[.string s, .string t] 79)) (by simp)) (show Kept [] (World.drew (World.alloc V (.cells #[.string s, .string t] 79))) (World.drew (World.alloc (World.alloc V (.cells #[.string s, .string t] 79)) (.cells #[] 79))) from Kept.alloc (World.drew (World.alloc V (.cells #[.string s, .string t] 79))) (.cells #[] 79)) (by simp))).src (textCells_one _) Tryd.underlying74
  refine step_append_at ?qhgd15 ?qs15 ?qx15 74 74 ?qho15 79 (.agg #[.string ByteArray.empty, .string ByteArray.empty]) 2 32 Tryd.underlying74 info79 rfl ?qg15 0 0 0 [] ?qhsv15 ?qhrow15 (.slice A l cap) ?qhxv15 l (textCells L.ts) ?qhs15 ?qh115 ?qh215 ?qhh15
  case qho15 => rfl
  case qhgd15 => rfl
  case qhsv15 => rfl
  case qhxv15 => rfl
  case qhrow15 => simpa using re
  case qhs15 => simpa using se
  case qh115 => simp [maxLen]; omega
  case qh215 => omega
  intro g1 o1 cap1 w1 hr1 hgb1 hg1
  have hgb1' : ((World.drew (World.alloc (World.alloc V (.cells #[.string s, .string t] 79)) (.cells #[] 79)))).grownBy w1 (some (World.heap (World.drew (World.alloc V (.cells #[.string s, .string t] 79)))).size) := by simpa using hgb1
  have hr1' : RowAt w1 79 2 g1 o1 cap1 l (textCells L.ts) := by simpa using hr1
  have hv1 : V.heap.size ≤ g1 := by have p1 := Kept.size (Kept.trans (Kept.trans KD (show Kept [] (World.drew V) (World.drew (World.alloc V (.cells #[.string s, .string t] 79))) from Kept.alloc (World.drew V) (.cells #[.string s, .string t] 79)) (by simp)) (show Kept [] (World.drew (World.alloc V (.cells #[.string s, .string t] 79))) (World.drew (World.alloc (World.alloc V (.cells #[.string s, .string t] 79)) (.cells #[] 79))) from Kept.alloc (World.drew (World.alloc V (.cells #[.string s, .string t] 79))) (.cells #[] 79)) (by simp)); have p2 := Kept.size (Kept.trans KD (show Kept [] (World.drew V) (World.drew (World.alloc V (.cells #[.string s, .string t] 79))) from Kept.alloc (World.drew V) (.cells #[.string s, .string t] 79)) (by simp)); rcases hg1 with h | h <;> (simp at h p1 p2 ⊢; omega)
  have k1 : Kept [] V w1 := Kept.trans (Kept.trans (Kept.trans KD (show Kept [] (World.drew V) (World.drew (World.alloc V (.cells #[.string s, .string t] 79))) from Kept.alloc (World.drew V) (.cells #[.string s, .string t] 79)) (by simp)) (show Kept [] (World.drew (World.alloc V (.cells #[.string s, .string t] 79))) (World.drew (World.alloc (World.alloc V (.cells #[.string s, .string t] 79)) (.cells #[] 79))) from Kept.alloc (World.drew (World.alloc V (.cells #[.string s, .string t] 79))) (.cells #[] 79)) (by simp)) (Kept.of_grown hgb1') (fun x hx => .inr (by simp at hx; subst hx; have p3 := Kept.size (Kept.trans KD (show Kept [] (World.drew V) (World.drew (World.alloc V (.cells #[.string s, .string t] 79))) from Kept.alloc (World.drew V) (.cells #[.string s, .string t] 79)) (by simp)); first | exact p3 | (simp; done) | (simp at p3 ⊢; omega)))
  refine hK.out _ _ ?_ (fun hHeld2 => ?_)
  · (try dsimp only); exact CF.out _ k1
  clear hK K hHeld
  have hHeld := hHeld2
  clear hHeld2
  (try simp only [Act.put, List.setIfInBounds_toArray, List.set_cons_zero, List.set_cons_succ, List.getElem_toArray, List.getElem_cons_zero, List.getElem_cons_succ])
  (try simp only [Nat.zero_add])
  have z1 : w1.heap[(World.heap (World.drew V)).size]? = some (.cells #[.string s, .string t] 79 (0, 0)) := ((Kept.of_grown hgb1').block _ (Array.getElem?_eq_some_iff.1 (((show Kept [] (World.drew (World.alloc V (.cells #[.string s, .string t] 79))) (World.drew (World.alloc (World.alloc V (.cells #[.string s, .string t] 79)) (.cells #[] 79))) from Kept.alloc (World.drew (World.alloc V (.cells #[.string s, .string t] 79))) (.cells #[] 79)).block _ (Array.getElem?_eq_some_iff.1 (show (World.heap (World.drew (World.alloc V (.cells #[.string s, .string t] 79))))[(World.heap (World.drew V)).size]? = some (.cells #[.string s, .string t] 79 (0, 0)) from heap_alloc_new (World.drew V) (.cells #[.string s, .string t] 79))).1 (by simp)).trans (show (World.heap (World.drew (World.alloc V (.cells #[.string s, .string t] 79))))[(World.heap (World.drew V)).size]? = some (.cells #[.string s, .string t] 79 (0, 0)) from heap_alloc_new (World.drew V) (.cells #[.string s, .string t] 79)))).1 (by simp)).trans (((show Kept [] (World.drew (World.alloc V (.cells #[.string s, .string t] 79))) (World.drew (World.alloc (World.alloc V (.cells #[.string s, .string t] 79)) (.cells #[] 79))) from Kept.alloc (World.drew (World.alloc V (.cells #[.string s, .string t] 79))) (.cells #[] 79)).block _ (Array.getElem?_eq_some_iff.1 (show (World.heap (World.drew (World.alloc V (.cells #[.string s, .string t] 79))))[(World.heap (World.drew V)).size]? = some (.cells #[.string s, .string t] 79 (0, 0)) from heap_alloc_new (World.drew V) (.cells #[.string s, .string t] 79))).1 (by simp)).trans (show (World.heap (World.drew (World.alloc V (.cells #[.string s, .string t] 79))))[(World.heap (World.drew V)).size]? = some (.cells #[.string s, .string t] 79 (0, 0)) from heap_alloc_new (World.drew V) (.cells #[.string s, .string t] 79)))
  refine wpAnyH_ready (rs := [9]) (by kernel_rfl) (by simp) ?_
  refine AllReadyH.cons rfl (fun K hK => ?_) AllReadyH.nil
  skip
  have re2 : RowAt w1 79 2 g1 o1 cap1 l (textCells L.ts) := hr1'
  have sp : Src Tryd.prog 2 74 (.slice (some ⟨(World.heap (World.drew V)).size, 0, none⟩) 1 1) 1 [.string s, .string t] w1 := src_pair z1
  refine step_append_at ?qhgd16 ?qs16 ?qx16 74 74 ?qho16 79 (.agg #[.string ByteArray.empty, .string ByteArray.empty]) 2 32 Tryd.underlying74 info79 rfl g1 o1 cap1 l (textCells L.ts) ?qhsv16 ?qhrow16 (.slice (some ⟨(World.heap (World.drew V)).size, 0, none⟩) 1 1) ?qhxv16 1 [.string s, .string t] ?qhs16 ?qh116 ?qh216 ?qhh16
  case qho16 => rfl
  case qhgd16 => rfl
  case qhsv16 => rfl
  case qhxv16 => first | rfl | (simp; done) | (rw [show (World.heap (World.drew V)).size = V.heap.size + 1 by simp]; rfl)
  case qhrow16 => simpa using re2
  case qhs16 => simpa using sp
  case qh116 => simp [maxLen]; omega
  case qh216 => omega
  intro g2 o2 cap2 w2 hr2 hgb2 hg2
  have hgb2' : (w1).grownBy w2 (some g1) := by simpa using hgb2
  have k2 : Kept [] V w2 := Kept.trans k1 (Kept.of_grown hgb2') (fun x hx => .inr (by simp at hx; subst hx; exact hv1))
  refine hK.out _ _ ?_ (fun hHeld2 => ?_)
  · (try dsimp only); exact CF.out _ k2
  clear hK K hHeld
  have hHeld := hHeld2
  clear hHeld2
  (try simp only [Act.put, List.setIfInBounds_toArray, List.set_cons_zero, List.set_cons_succ, List.getElem_toArray, List.getElem_cons_zero, List.getElem_cons_succ])
  have c1x := (CF1.out _ k2).1
  have f1x := (CF1.out _ k2).2
  refine wpAnyH_take (i := 10) (v := ?_) rfl (by kernel_rfl) (by kernel_rfl) (by kernel_rfl) (fun _ _ _ h => h) (Or.inl ⟨by rfl, ?_⟩) (by assumption) ?_
  rotate_left; · (intro w hSw; (try dsimp only at hSw); go_simp; try with_reducible rfl)
  (try simp only [Act.put, List.setIfInBounds_toArray, List.set_cons_zero, List.set_cons_succ, List.getElem_toArray, List.getElem_cons_zero, List.getElem_cons_succ])
  refine wpAnyH_take (i := 11) (v := ?_) rfl (by kernel_rfl) (by kernel_rfl) (by kernel_rfl) (fun _ _ _ h => h) (Or.inl ⟨by rfl, ?_⟩) (by assumption) ?_
  rotate_left; · (intro w hSw; (try dsimp only at hSw); go_simp; try with_reducible rfl)
  (try simp only [Act.put, List.setIfInBounds_toArray, List.set_cons_zero, List.set_cons_succ, List.getElem_toArray, List.getElem_cons_zero, List.getElem_cons_succ])
  refine wpAnyH_ready (rs := [12]) (by kernel_rfl) (by simp) ?_
  refine AllReadyH.cons rfl (fun K hK => ?_) AllReadyH.nil
  (try simp only [List.getElem_toArray, List.getElem_cons_zero, List.getElem_cons_succ])
  go_simp
  refine hK.out _ _ ?_ (fun hHeld2 => ?_)
  · (try dsimp only); exact CF12.out _ _ k2
  clear hK K hHeld
  have hHeld := hHeld2
  clear hHeld2
  (try simp only [Act.put, List.setIfInBounds_toArray, List.set_cons_zero, List.set_cons_succ, List.getElem_toArray, List.getElem_cons_zero, List.getElem_cons_succ])
  refine wpAnyH_done (by kernel_rfl) ?_ _
  obtain ⟨X, hX⟩ : ∃ X, X = w2.setCell ⟨rb, 1, none⟩ (.slice (some ⟨g2, o2, none⟩) (l + 1) cap2) := ⟨_, rfl⟩
  try rw [← hX]
  have hXR : RAt X rb (.slice (some ⟨g2, o2, none⟩) (l + 1) cap2) (L.push (s, t)) := by
    rw [hX]
    refine (HRA.out _ k2).setCell 1 _ rfl (.inr ⟨g2, o2, cap2, ?_, ?_⟩)
    · rw [← HL.out]; simp [Lin.push]
    · have e : textCells (L.push (s, t)).ts = textCells L.ts ++ [.string s, .string t] := by unfold Lin.push; rw [textCells_append]; rfl
      rw [e, show (L.push (s, t)).ts.length = l + 1 by rw [← HL.out]; simp [Lin.push]]
      exact hr2
  have KX : Hid (Kept [rb] w X) := Lib.hid (by
    rw [hX]
    exact ((KW2.out _ k2).mono (fp' := [rb]) (by simp)).trans (Kept.setCell w2 rb 1 _) (by simp))
  have cc := hXR.at6
  have ff := hXR.f 6
  have hb0 : 0 ≤ L.c4 := HOK.out.2.2.2.2.2.2.2.2.1
  have hb1 : L.c4 ≤ 1000000 := HOK.out.2.2.2.2.2.2.2.2.2.1
  obtain ⟨cv, hcv⟩ : ∃ cv, L.c4 = cv := ⟨_, rfl⟩
  have CV := Lib.hid hcv
  rw [show (L.push (s, t)).c4 = L.c4 from rfl, hcv] at cc
  rw [hcv] at hb0 hb1
  have ew : IntKind.i64.wrap (cv + 1) = cv + 1 := IntWalk.i64_in _ (by omega)
  have F : Hid (RDone w rb { L.push (s, t) with c4 := L.c4 + 1 } (.int .i64 0) (.returned (.int .i64 0)) ((X.setCell ⟨rb, 6, none⟩ (.int .i64 (cv + 1))).drew)) := Lib.hid
    ⟨rfl, _, (hXR.setCell 6 (.int .i64 (cv + 1)) (L' := { L.push (s, t) with c4 := L.c4 + 1 }) (by rw [← CV.out]; rfl) hXR.row).below ⟨rfl, rfl, rfl, Nat.le_refl _, fun _ _ => rfl⟩, (KX.out.trans (Kept.setCell X rb 6 _) (by simp)).drew⟩
  clear hX hr2 k2 hcv hXR
  go_wp2_with fail
  go_still_tail 10, (by kernel_rfl)
  go_wp2
  go_ret
  exact F.out

end Go.Proofs.YtkpbjahjiajodaaDoor
