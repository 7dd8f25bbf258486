/- This text proves what the reference's queue does when it is closed, over the loaded program. -/
import Derived.Test.YtkpbjahjiajodaaDoorRQ6
namespace Go.Proofs.YtkpbjahjiajodaaDoor
open Go.RowKit Go.WideShapes
set_option linter.unusedSimpArgs false

section
variable {w : World} {rb : Nat} {fp : List Nat} {sv gv : Value} {q : Que} {G : List (Int × Int)}

set_option maxRecDepth 100000 in
set_option maxHeartbeats 12800000 in
theorem rqclose_nil  (h : RqAt w rb fp (.slice none 0 0) gv q G) (hok : q.ok) (hG : G.length ≤ 1000000) (hc : q.closed = false) (f : Int) (k : Nat) (hk : (k : Int) = f - q.first + 1) (hf2 : f ≤ q.last) (hl0 : q.xs.length = 0) :
    Calls Tryd.prog 50 #[.pointer (some ⟨rb, 0, none⟩), .int .i64 f] w (RqDone w rb fp { q with xs := q.xs.take k, wrong := closeW f q G, closed := true, fin := f } G (.int .i64 0)) := by
  have LA := Lib.hid (rqlast_any h hok)
  obtain ⟨ok1, ok2, ok3⟩ := hok
  have hkl : k ≤ q.xs.length := by unfold Que.last at hf2; omega
  obtain ⟨L, hL⟩ : ∃ x, q.last = x := ⟨_, rfl⟩
  rw [hL] at LA hf2
  obtain ⟨l, hl⟩ : ∃ l, q.xs.length = l := ⟨_, rfl⟩
  have HL := Lib.hid hl
  obtain ⟨fst, hfst⟩ : ∃ x, q.first = x := ⟨_, rfl⟩
  have FST := Lib.hid hfst
  have c0 := h.c0
  have c5 := h.c5
  rw [hc] at c5
  rw [hfst] at c0 ok1 ok2 hk
  rw [hl] at ok2 ok3 hkl
  obtain ⟨n, hn⟩ : ∃ n, G.length = n := ⟨_, rfl⟩
  have HN := Lib.hid hn
  rw [hn] at hG
  have H0 := Lib.hid h
  rw [hl] at hl0
  obtain ⟨B1, hB1⟩ : ∃ B1, closeG f G 0 = B1 := ⟨_, rfl⟩
  have HB1 := Lib.hid hB1
  obtain ⟨B2, hB2⟩ : ∃ B2, closeL f q.xs q.first B1 = B2 := ⟨_, rfl⟩
  have HB2 := Lib.hid hB2
  have t1 : decide (f < fst - 1) = false := by simp; omega
  have t2 : decide (L < f) = false := by simp; omega
  have ew0 : IntKind.i64.wrap (fst - 1) = fst - 1 := IntWalk.i64_in _ (by omega)
  have ew1 : IntKind.i64.wrap (f - fst) = f - fst := IntWalk.i64_in _ (by omega)
  have ew2 : IntKind.i64.wrap (f - fst + 1) = (k : Int) := by rw [← hk]; exact IntWalk.i64_in _ (by omega)
  have hki : (k : Int) ≤ (l : Int) := by omega
  have hk0 : (0 : Int) ≤ (k : Int) := by omega
  have hk00 : k = 0 := by omega
  clear h hc hL hl hfst hn hB1 hB2 hk
  go_enter Tryd.func50, Tryd.ntmps50
  go_wp2_with fail
  refine LA.out.mono ?_
  rintro e w1 ⟨rfl, kd, rfl⟩
  obtain ⟨V0, hV0⟩ : ∃ V0, V0 = w.drewN kd := ⟨_, rfl⟩
  rw [← hV0]
  have R0 : Hid (RqAt V0 rb fp (.slice none 0 0) gv q G) := Lib.hid (by rw [hV0]; exact H0.out.drewN kd)
  have K0 : Hid (Kept [rb] w V0) := Lib.hid (by rw [hV0]; exact Kept.drewN [rb] w kd)
  obtain ⟨B, gcap, hgv⟩ := R0.out.gs.lens
  rw [HN.out] at hgv
  have hGV := Lib.hid hgv
  have c2 := R0.out.c2
  rw [hgv] at c2
  have c0 := R0.out.c0
  rw [FST.out] at c0
  have c1 := R0.out.c1
  clear hV0 hgv
  dsimp only
  go_wp2_with fail
  go_loopw [5, 6] (fun bv iv wz => ∃ i : Nat, i ≤ n ∧ iv = .int .i64 i ∧ ∃ b, bv = .int .i64 b ∧ wz = V0 ∧ closeG f (G.drop i) b = B1) (fun _ iv _ => n - (intOf iv).toNat)
  case atStart => exact ⟨0, Nat.zero_le _, rfl, 0, rfl, rfl, HB1.out⟩
  case round =>
    obtain ⟨i, hi, rfl, b, rfl, hwz, hP⟩ := hrel
    obtain rfl := hwz.symm
    have PP := Lib.hid hP
    clear hP
    by_cases hin : i < n
    · obtain ⟨p, hp⟩ : ∃ p, G[i]? = some p := ⟨G[i]'(by rw [HN.out]; exact hin), by simp [HN.out, hin]⟩
      obtain ⟨ga, gb⟩ := gCells_at G i p hp
      obtain ⟨gg, go, gc, hBe, _, m0⟩ := R0.out.gs.at _ _ ga
      obtain ⟨gg', go', gc', hBe', _, m1⟩ := R0.out.gs.at _ _ gb
      rw [HN.out, hGV.out] at hBe hBe'
      cases hBe
      cases hBe'
      rw [← Nat.add_assoc] at m1
      have hd : G.drop i = p :: G.drop (i + 1) := by
        obtain ⟨h1, h2⟩ := List.getElem?_eq_some_iff.1 hp
        rw [List.drop_eq_getElem_cons h1, h2]
      have PS : Hid (closeG f (G.drop (i + 1)) (if f < p.1 ∧ p.2 ≠ 0 ∧ (b = 0 ∨ p.1 < b) then p.1 else b) = B1) := Lib.hid (by have := PP.out; rw [hd] at this; exact this)
      have hi0 : (0 : Int) ≤ (i : Int) := by omega
      have hi1 : (i : Int) < (n : Int) := by omega
      have ei : IntKind.i64.wrap ((i : Int) + 1) = (i : Int) + 1 := IntWalk.i64_in _ (by omega)
      obtain ⟨p1, p2⟩ := p
      simp only at m0 m1 PS
      clear hp ga gb hd PP
      by_cases a1 : f < p1
      · have s1 : decide (f < p1) = true := by simpa using a1
        by_cases a2 : p2 = 0
        · subst a2
          rw [if_neg (fun e => e.2.1 rfl)] at PS
          clear a1
          go_wp2_with fail
          exact ⟨⟨i + 1, by omega, by go_num, b, rfl, by first | rfl | trivial, PS.out⟩, by simp [intOf]; omega⟩
        · have s2 : (p2 != 0) = true := by simpa using a2
          by_cases a3 : b = 0
          · subst a3
            rw [if_pos ⟨a1, a2, .inl rfl⟩] at PS
            clear a1 a2
            go_wp2_with fail
            exact ⟨⟨i + 1, by omega, by go_num, p1, rfl, by first | rfl | trivial, PS.out⟩, by simp [intOf]; omega⟩
          · have s3 : (b == 0) = false := by simpa using a3
            by_cases a4 : p1 < b
            · rw [if_pos ⟨a1, a2, .inr a4⟩] at PS
              have s4 : decide (p1 < b) = true := by simpa using a4
              clear a1 a2 a3 a4
              go_wp2_with fail
              exact ⟨⟨i + 1, by omega, by go_num, p1, rfl, by first | rfl | trivial, PS.out⟩, by simp [intOf]; omega⟩
            · rw [if_neg (fun e => by rcases e.2.2 with e | e; exact a3 e; exact a4 e)] at PS
              have s4 : decide (p1 < b) = false := by simpa using a4
              clear a1 a2 a3 a4
              go_wp2_with fail
              exact ⟨⟨i + 1, by omega, by go_num, b, rfl, by first | rfl | trivial, PS.out⟩, by simp [intOf]; omega⟩
      · have s1 : decide (f < p1) = false := by simpa using a1
        rw [if_neg (fun e => a1 e.1)] at PS
        clear a1
        go_wp2_with fail
        exact ⟨⟨i + 1, by omega, by go_num, b, rfl, by first | rfl | trivial, PS.out⟩, by simp [intOf]; omega⟩
    · have hi2 : (n : Int) ≤ (i : Int) := by omega
      have PE : b = B1 := by
        have := PP.out
        rw [List.drop_of_length_le (by rw [HN.out]; omega)] at this
        exact this
      subst PE
      clear hin PP
      go_wp2_with fail
      go_loopw [5, 7] (fun bv iv wz => ∃ i : Nat, i ≤ l ∧ iv = .int .i64 i ∧ ∃ c, bv = .int .i64 c ∧ wz = V0 ∧ closeL f (q.xs.drop i) (fst + i) c = B2) (fun _ iv _ => l - (intOf iv).toNat)
      case atStart => exact ⟨0, Nat.zero_le _, rfl, b, rfl, rfl, by have := HB2.out; rw [FST.out] at this; simpa using this⟩
      case round =>
        obtain ⟨i, hi, rfl, c, rfl, hwz, hP⟩ := hrel
        obtain rfl := hwz.symm
        have PP := Lib.hid hP
        clear hP
        by_cases hil : i < l
        · exact absurd hil (by omega)
        · have hi2 : (l : Int) ≤ (i : Int) := by omega
          have PE : c = B2 := by
            have := PP.out
            rw [List.drop_of_length_le (by rw [HL.out]; omega)] at this
            exact this
          subst PE
          clear hil PP
          have c3 := R0.out.c3
          have f3 := R0.out.f 3
          obtain ⟨wr0, hwr⟩ : ∃ x, q.wrong = x := ⟨_, rfl⟩
          have WRH := Lib.hid hwr
          rw [hwr] at c3
          by_cases b1 : c = 0
          · subst b1
            have WEQ : Hid (closeW f q G = wr0) := Lib.hid (by unfold closeW; rw [HB1.out, HB2.out, if_neg (fun e => e.1 rfl)]; exact WRH.out)
            have RX : Hid (RqAt V0 rb fp (.slice none 0 0) gv { q with wrong := wr0 } G) := Lib.hid (by rw [← WRH.out]; exact R0.out)
            have KX := K0
            clear hwr
            have c5x := RX.out.c5
            have f5x := RX.out.f 5
            have R5 := RX.out.set 5 (.bool true) (q' := { q with wrong := wr0, closed := true }) (sv' := (.slice none 0 0)) (gv' := gv) (G' := G) rfl RX.out.row RX.out.gs RX.out.ne RX.out.small
            have c4x := R5.c4
            have f4x := R5.f 4
            have R4 : Hid (RqAt ((V0.setCell ⟨rb, 5, none⟩ (.bool true)).setCell ⟨rb, 4, none⟩ (.int .i64 f)) rb fp (.slice none 0 0) gv { q with wrong := wr0, closed := true, fin := f } G) := Lib.hid (R5.set 4 (.int .i64 f) rfl R5.row R5.gs R5.ne R5.small)
            have K4 : Hid (Kept [rb] w ((V0.setCell ⟨rb, 5, none⟩ (.bool true)).setCell ⟨rb, 4, none⟩ (.int .i64 f))) := Lib.hid ((KX.out.trans (Kept.setCell V0 rb 5 (.bool true)) (by simp)).trans (Kept.setCell _ rb 4 (.int .i64 f)) (by simp))
            clear R5
            go_wp2_with fail
            obtain ⟨V, hV⟩ : ∃ V, V = (V0.setCell ⟨rb, 5, none⟩ (.bool true)).setCell ⟨rb, 4, none⟩ (.int .i64 f) := ⟨_, rfl⟩
            rw [← hV] at R4 K4 ⊢
            clear hV c5x f5x c4x f4x
            have KD : Kept [] V V.drew := (Kept.refl [] V).drew
            have CF : Hid (∀ wx, Kept [] V wx → wx.cell? ⟨rb, 0, none⟩ = some (.int .i64 fst)) := Lib.hid (fun wx hk => by
              have := (R4.out.kept hk (by simp) (by simp)).c0
              rw [← FST.out]
              exact this)
            have CF12 : Hid (∀ wx v, Kept [] V wx → (wx.setCell ⟨rb, 1, none⟩ v).cell? ⟨rb, 0, none⟩ = some (.int .i64 fst)) := Lib.hid (fun wx v hk => by
              have hc := (R4.out.kept hk (by simp) (by simp)).cell
              rw [World.cell?, heap_setCell_at hc, ← FST.out]
              rfl)
            have CF1 : Hid (∀ wx, Kept [] V wx → wx.cell? ⟨rb, 1, none⟩ = some (.slice none 0 0) ∧ wx.frozen? ⟨rb, 1, none⟩ = false) := Lib.hid (fun wx hk => by
              have r := R4.out.kept hk (by simp) (by simp)
              exact ⟨r.c1, r.f 1⟩)
            have SRC : Hid (∀ wx, Kept [] V wx → Src Tryd.prog 1 22 (.slice none 0 0) k ((q.xs.take k).map (Value.int .i64)) wx) := Lib.hid (fun wx hk => by
              have r := R4.out.kept hk (by simp) (by simp)
              have hx : (q.xs.take k).map (Value.int .i64) = [] := by rw [List.take_eq_nil_iff.2 (.inl (by omega))]; rfl
              rw [hx]
              obtain rfl : k = 0 := by omega
              exact Src.ofNil wx Tryd.underlying22 0)
            have RF : Hid (∀ w1, Kept [] V w1 → ∀ g1 o1 cap1, RowAt w1 3 1 g1 o1 cap1 k ((q.xs.take k).map (Value.int .i64)) → V.heap.size ≤ g1 → RqDone w rb fp { q with xs := q.xs.take k, wrong := closeW f q G, closed := true, fin := f } G (.int .i64 0) (.returned (.int .i64 0)) (w1.setCell ⟨rb, 1, none⟩ (.slice (some ⟨g1, o1, none⟩) k cap1))) := Lib.hid (fun w1 hk g1 o1 cap1 hr hg => by
              have r := R4.out.kept hk (by simp) (by simp)
              have hlt := R4.out.lt
              have hsz := K4.out.size
              have hkl : (q.xs.take k).length = k := by rw [List.length_take, HL.out]; omega
              refine ⟨rfl, g1 :: fp, _, gv, r.set 1 _ (by rw [WEQ.out]; rfl) (.inr ⟨g1, o1, cap1, by rw [hkl], by simp, by rw [hkl]; exact hr⟩) (r.gs.fpMono (by simp; exact fun x hx => .inr hx)) (by simp; exact ⟨by omega, r.ne⟩) ?_, (K4.out.trans hk (by simp)).trans (Kept.setCell w1 rb 1 _) (by simp), fun y hy => ?_⟩
              · intro y hy
                simp at hy
                rcases hy with rfl | hy
                · exact hr.lt
                · exact r.small y hy
              · simp at hy
                rcases hy with rfl | hy
                · exact .inr (by omega)
                · exact .inl hy)
            clear R4 K4 KX RX
            refine wp_region_held_drew (S := (fun w' => w'.cell? ⟨rb, 0, none⟩ = some (.int .i64 fst))) (by kernel_rfl) ?_ (fun hHeld => ?_)
            · (try dsimp only); exact CF.out _ KD
            refine wpAnyH_take (i := 0) (v := ?_) rfl (by kernel_rfl) (by kernel_rfl) (by kernel_rfl) (fun _ _ _ h => h) (Or.inl ⟨by rfl, ?_⟩) (by assumption) ?_
            rotate_left; · (intro w hSw; (try dsimp only at hSw); go_simp; try with_reducible rfl)
            (try simp only [Act.put, List.setIfInBounds_toArray, List.set_cons_zero, List.set_cons_succ, List.getElem_toArray, List.getElem_cons_zero, List.getElem_cons_succ])
            refine wpAnyH_take (i := 2) (v := ?_) rfl (by kernel_rfl) (by kernel_rfl) (by kernel_rfl) (fun _ _ _ h => h) (Or.inl ⟨by rfl, ?_⟩) (by assumption) ?_
            rotate_left; · (intro w hSw; (try dsimp only at hSw); go_simp; try with_reducible rfl)
            (try simp only [Act.put, List.setIfInBounds_toArray, List.set_cons_zero, List.set_cons_succ, List.getElem_toArray, List.getElem_cons_zero, List.getElem_cons_succ])
            refine wpAnyH_take (i := 3) (v := ?_) rfl (by kernel_rfl) (by kernel_rfl) (by kernel_rfl) (fun _ _ _ h => h) (Or.inl ⟨by rfl, ?_⟩) (by assumption) ?_
            rotate_left; · (intro w hSw; (try dsimp only at hSw); go_simp; try with_reducible rfl)
            (try simp only [Act.put, List.setIfInBounds_toArray, List.set_cons_zero, List.set_cons_succ, List.getElem_toArray, List.getElem_cons_zero, List.getElem_cons_succ])
            refine wpAnyH_take (i := 4) (v := ?_) rfl (by kernel_rfl) (by kernel_rfl) (by kernel_rfl) (fun _ _ _ h => h) (Or.inl ⟨by rfl, ?_⟩) (by assumption) ?_
            rotate_left; · (intro w hSw; (try dsimp only at hSw); go_simp; try with_reducible rfl)
            (try simp only [Act.put, List.setIfInBounds_toArray, List.set_cons_zero, List.set_cons_succ, List.getElem_toArray, List.getElem_cons_zero, List.getElem_cons_succ])
            refine wpAnyH_take (i := 6) (v := ?_) rfl (by kernel_rfl) (by kernel_rfl) (by kernel_rfl) (fun _ _ _ h => h) (Or.inl ⟨by rfl, ?_⟩) (by assumption) ?_
            rotate_left; · (intro w hSw; (try dsimp only at hSw); go_simp; try with_reducible rfl)
            (try simp only [Act.put, List.setIfInBounds_toArray, List.set_cons_zero, List.set_cons_succ, List.getElem_toArray, List.getElem_cons_zero, List.getElem_cons_succ])
            refine wpAnyH_take (i := 7) (v := ?_) rfl (by kernel_rfl) (by kernel_rfl) (by kernel_rfl) (fun _ _ _ h => h) (Or.inl ⟨by rfl, ?_⟩) (by assumption) ?_
            rotate_left; · (intro w hSw; (try dsimp only at hSw); go_simp; try with_reducible rfl)
            (try simp only [Act.put, List.setIfInBounds_toArray, List.set_cons_zero, List.set_cons_succ, List.getElem_toArray, List.getElem_cons_zero, List.getElem_cons_succ])
            refine wpAnyH_take (i := 8) (v := ?_) rfl (by kernel_rfl) (by kernel_rfl) (by kernel_rfl) (fun _ _ _ h => h) (Or.inl ⟨by rfl, ?_⟩) (by assumption) ?_
            rotate_left; · (intro w hSw; (try dsimp only at hSw); go_simp; try with_reducible rfl)
            (try simp only [Act.put, List.setIfInBounds_toArray, List.set_cons_zero, List.set_cons_succ, List.getElem_toArray, List.getElem_cons_zero, List.getElem_cons_succ])
            refine wpAnyH_take (i := 9) (v := ?_) rfl (by kernel_rfl) (by kernel_rfl) (by kernel_rfl) (fun _ _ _ h => h) (Or.inl ⟨by rfl, ?_⟩) (by assumption) ?_
            rotate_left; · (intro w hSw; (try dsimp only at hSw); go_simp; try with_reducible rfl)
            (try simp only [Act.put, List.setIfInBounds_toArray, List.set_cons_zero, List.set_cons_succ, List.getElem_toArray, List.getElem_cons_zero, List.getElem_cons_succ])
            refine wpAnyH_take (i := 10) (v := ?_) rfl (by kernel_rfl) (by kernel_rfl) (by kernel_rfl) (fun _ _ _ h => h) (Or.inl ⟨by rfl, ?_⟩) (by assumption) ?_
            rotate_left; · (intro w hSw; (try dsimp only at hSw); go_simp; try with_reducible rfl)
            (try simp only [Act.put, List.setIfInBounds_toArray, List.set_cons_zero, List.set_cons_succ, List.getElem_toArray, List.getElem_cons_zero, List.getElem_cons_succ])
            refine wpAnyH_take (i := 11) (v := ?_) rfl (by kernel_rfl) (by kernel_rfl) (by kernel_rfl) (fun _ _ _ h => h) (Or.inl ⟨by rfl, ?_⟩) (by assumption) ?_
            rotate_left; · (intro w hSw; (try dsimp only at hSw); go_simp; try with_reducible rfl)
            (try simp only [Act.put, List.setIfInBounds_toArray, List.set_cons_zero, List.set_cons_succ, List.getElem_toArray, List.getElem_cons_zero, List.getElem_cons_succ])
            refine wpAnyH_take (i := 12) (v := ?_) rfl (by kernel_rfl) (by kernel_rfl) (by kernel_rfl) (fun _ _ _ h => h) (Or.inl ⟨by rfl, ?_⟩) (by assumption) ?_
            rotate_left; · (intro w hSw; (try dsimp only at hSw); go_simp; try with_reducible rfl)
            (try simp only [Act.put, List.setIfInBounds_toArray, List.set_cons_zero, List.set_cons_succ, List.getElem_toArray, List.getElem_cons_zero, List.getElem_cons_succ])
            refine wpAnyH_ready (rs := [1, 5]) (by kernel_rfl) (by simp) ?_
            refine AllReadyH.cons rfl (fun K hK => ?_) ?_
            · (try simp only [List.getElem_toArray, List.getElem_cons_zero, List.getElem_cons_succ])
              go_simp
              refine hK.out _ _ ?_ (fun hHeld2 => ?_)
              · (try dsimp only); exact CF.out _ (Kept.trans KD (show Kept [] (World.drew V) (World.drew (World.alloc V (.cells #[] 3))) from Kept.alloc (World.drew V) (.cells #[] 3)) (by simp))
              clear hK K hHeld
              have hHeld := hHeld2
              clear hHeld2
              (try simp only [Act.put, List.setIfInBounds_toArray, List.set_cons_zero, List.set_cons_succ, List.getElem_toArray, List.getElem_cons_zero, List.getElem_cons_succ])
              refine wpAnyH_ready (rs := [5]) (by kernel_rfl) (by simp) ?_
              refine AllReadyH.cons rfl (fun K hK => ?_) AllReadyH.nil
              (try simp only [List.getElem_toArray, List.getElem_cons_zero, List.getElem_cons_succ])
              have c1x : ((World.drew (World.alloc V (.cells #[] 3)))).cell? ⟨rb, 1, none⟩ = some (.slice none 0 0) := (CF1.out _ (Kept.trans KD (show Kept [] (World.drew V) (World.drew (World.alloc V (.cells #[] 3))) from Kept.alloc (World.drew V) (.cells #[] 3)) (by simp))).1
              go_simp
              clear c1x
              refine hK.out _ _ ?_ (fun hHeld2 => ?_)
              · (try dsimp only); exact CF.out _ (Kept.trans KD (show Kept [] (World.drew V) (World.drew (World.alloc V (.cells #[] 3))) from Kept.alloc (World.drew V) (.cells #[] 3)) (by simp))
              clear hK K hHeld
              have hHeld := hHeld2
              clear hHeld2
              (try simp only [Act.put, List.setIfInBounds_toArray, List.set_cons_zero, List.set_cons_succ, List.getElem_toArray, List.getElem_cons_zero, List.getElem_cons_succ])
              refine wpAnyH_take (i := 13) (v := ?_) rfl (by kernel_rfl) (by kernel_rfl) (by kernel_rfl) (fun _ _ _ h => h) (Or.inl ⟨by rfl, ?_⟩) (by assumption) ?_
              rotate_left; · (intro w hSw; (try dsimp only at hSw); go_simp; try with_reducible rfl)
              (try simp only [Act.put, List.setIfInBounds_toArray, List.set_cons_zero, List.set_cons_succ, List.getElem_toArray, List.getElem_cons_zero, List.getElem_cons_succ])
              refine wpAnyH_ready (rs := [14]) (by kernel_rfl) (by simp) ?_
              refine AllReadyH.cons rfl (fun K hK => ?_) AllReadyH.nil
              skip
              have re : RowAt (World.drew (World.alloc V (.cells #[] 3))) 3 1 (World.heap (World.drew V)).size 0 0 0 [] := row_empty (World.drew V) 3 1
              have se : Src Tryd.prog 1 22 (.slice none 0 0) k ((q.xs.take k).map (Value.int .i64)) (World.drew (World.alloc V (.cells #[] 3))) := SRC.out _ (Kept.trans KD (show Kept [] (World.drew V) (World.drew (World.alloc V (.cells #[] 3))) from Kept.alloc (World.drew V) (.cells #[] 3)) (by simp))
              refine step_append_q ?qhgd9 ?qs9 ?qx9 22 22 ?qho9 3 (.int .i64 0) 1 8 Tryd.underlying22 info3 rfl ?qg9 0 0 0 [] ?qhsv9 ?qhrow9 (.slice none 0 0) ?qhxv9 k ((q.xs.take k).map (Value.int .i64)) ?qhs9 ?qh19 ?qh29 ?qhh9
              case qho9 => rfl
              case qhgd9 => rfl
              case qhsv9 => rfl
              case qhxv9 => rfl
              case qhrow9 => simpa using re
              case qhs9 => simpa using se
              case qh19 => simp [maxLen]; omega
              case qh29 => omega
              intro g1 o1 cap1 w1 hr1 hgb1 hg1
              have hgb1' : (World.drew (World.alloc V (.cells #[] 3))).grownBy w1 (some (World.heap (World.drew V)).size) := by simpa using hgb1
              have hr1' : RowAt w1 3 1 g1 o1 cap1 k ((q.xs.take k).map (Value.int .i64)) := by simpa using hr1
              have hv1 : V.heap.size ≤ g1 := by rcases hg1 with h | h <;> first | omega | (simp at h; omega)
              have k1 : Kept [] V w1 := Kept.trans (Kept.trans KD (show Kept [] (World.drew V) (World.drew (World.alloc V (.cells #[] 3))) from Kept.alloc (World.drew V) (.cells #[] 3)) (by simp)) (Kept.of_grown hgb1') (fun x hx => .inr (by simp at hx; subst hx; simp))
              refine hK.out _ _ ?_ (fun hHeld2 => ?_)
              · (try dsimp only); exact CF.out _ k1
              clear hK K hHeld
              have hHeld := hHeld2
              clear hHeld2
              (try simp only [Act.put, List.setIfInBounds_toArray, List.set_cons_zero, List.set_cons_succ, List.getElem_toArray, List.getElem_cons_zero, List.getElem_cons_succ])
              (try simp only [Nat.zero_add])
              have d1x := (CF1.out _ k1).1
              have f1x := (CF1.out _ k1).2
              refine wpAnyH_take (i := 15) (v := ?_) rfl (by kernel_rfl) (by kernel_rfl) (by kernel_rfl) (fun _ _ _ h => h) (Or.inl ⟨by rfl, ?_⟩) (by assumption) ?_
              rotate_left; · (intro w hSw; (try dsimp only at hSw); go_simp; try with_reducible rfl)
              (try simp only [Act.put, List.setIfInBounds_toArray, List.set_cons_zero, List.set_cons_succ, List.getElem_toArray, List.getElem_cons_zero, List.getElem_cons_succ])
              refine wpAnyH_take (i := 16) (v := ?_) rfl (by kernel_rfl) (by kernel_rfl) (by kernel_rfl) (fun _ _ _ h => h) (Or.inl ⟨by rfl, ?_⟩) (by assumption) ?_
              rotate_left; · (intro w hSw; (try dsimp only at hSw); go_simp; try with_reducible rfl)
              (try simp only [Act.put, List.setIfInBounds_toArray, List.set_cons_zero, List.set_cons_succ, List.getElem_toArray, List.getElem_cons_zero, List.getElem_cons_succ])
              refine wpAnyH_ready (rs := [17]) (by kernel_rfl) (by simp) ?_
              refine AllReadyH.cons rfl (fun K hK => ?_) AllReadyH.nil
              (try simp only [List.getElem_toArray, List.getElem_cons_zero, List.getElem_cons_succ])
              go_simp
              refine hK.out _ _ ?_ (fun hHeld2 => ?_)
              · (try dsimp only); exact CF12.out _ _ k1
              clear hK K hHeld
              have hHeld := hHeld2
              clear hHeld2
              (try simp only [Act.put, List.setIfInBounds_toArray, List.set_cons_zero, List.set_cons_succ, List.getElem_toArray, List.getElem_cons_zero, List.getElem_cons_succ])
              refine wpAnyH_done (by kernel_rfl) ?_ _
              have XF := RF.out _ k1 _ _ _ hr1' hv1
              go_wp2
              go_ret
              rw [show Value.slice (some ⟨g1, o1, none⟩) k cap1 = .slice (some ⟨g1, o1, none⟩) 0 cap1 by rw [hk00]] at XF
              exact XF
            refine AllReadyH.cons rfl (fun K hK => ?_) AllReadyH.nil
            (try simp only [List.getElem_toArray, List.getElem_cons_zero, List.getElem_cons_succ])
            have c1x : ((World.drew V)).cell? ⟨rb, 1, none⟩ = some (.slice none 0 0) := (CF1.out _ KD).1
            go_simp
            clear c1x
            refine hK.out _ _ ?_ (fun hHeld2 => ?_)
            · (try dsimp only); exact CF.out _ KD
            clear hK K hHeld
            have hHeld := hHeld2
            clear hHeld2
            (try simp only [Act.put, List.setIfInBounds_toArray, List.set_cons_zero, List.set_cons_succ, List.getElem_toArray, List.getElem_cons_zero, List.getElem_cons_succ])
            refine wpAnyH_take (i := 13) (v := ?_) rfl (by kernel_rfl) (by kernel_rfl) (by kernel_rfl) (fun _ _ _ h => h) (Or.inl ⟨by rfl, ?_⟩) (by assumption) ?_
            rotate_left; · (intro w hSw; (try dsimp only at hSw); go_simp; try with_reducible rfl)
            (try simp only [Act.put, List.setIfInBounds_toArray, List.set_cons_zero, List.set_cons_succ, List.getElem_toArray, List.getElem_cons_zero, List.getElem_cons_succ])
            refine wpAnyH_ready (rs := [1]) (by kernel_rfl) (by simp) ?_
            refine AllReadyH.cons rfl (fun K hK => ?_) AllReadyH.nil
            (try simp only [List.getElem_toArray, List.getElem_cons_zero, List.getElem_cons_succ])
            go_simp
            refine hK.out _ _ ?_ (fun hHeld2 => ?_)
            · (try dsimp only); exact CF.out _ (Kept.trans KD (show Kept [] (World.drew V) (World.drew (World.alloc V (.cells #[] 3))) from Kept.alloc (World.drew V) (.cells #[] 3)) (by simp))
            clear hK K hHeld
            have hHeld := hHeld2
            clear hHeld2
            (try simp only [Act.put, List.setIfInBounds_toArray, List.set_cons_zero, List.set_cons_succ, List.getElem_toArray, List.getElem_cons_zero, List.getElem_cons_succ])
            refine wpAnyH_ready (rs := [14]) (by kernel_rfl) (by simp) ?_
            refine AllReadyH.cons rfl (fun K hK => ?_) AllReadyH.nil
            skip
            have re : RowAt (World.drew (World.alloc V (.cells #[] 3))) 3 1 (World.heap (World.drew V)).size 0 0 0 [] := row_empty (World.drew V) 3 1
            have se : Src Tryd.prog 1 22 (.slice none 0 0) k ((q.xs.take k).map (Value.int .i64)) (World.drew (World.alloc V (.cells #[] 3))) := SRC.out _ (Kept.trans KD (show Kept [] (World.drew V) (World.drew (World.alloc V (.cells #[] 3))) from Kept.alloc (World.drew V) (.cells #[] 3)) (by simp))
            refine step_append_q ?qhgd10 ?qs10 ?qx10 22 22 ?qho10 3 (.int .i64 0) 1 8 Tryd.underlying22 info3 rfl ?qg10 0 0 0 [] ?qhsv10 ?qhrow10 (.slice none 0 0) ?qhxv10 k ((q.xs.take k).map (Value.int .i64)) ?qhs10 ?qh110 ?qh210 ?qhh10
            case qho10 => rfl
            case qhgd10 => rfl
            case qhsv10 => rfl
            case qhxv10 => rfl
            case qhrow10 => simpa using re
            case qhs10 => simpa using se
            case qh110 => simp [maxLen]; omega
            case qh210 => omega
            intro g1 o1 cap1 w1 hr1 hgb1 hg1
            have hgb1' : (World.drew (World.alloc V (.cells #[] 3))).grownBy w1 (some (World.heap (World.drew V)).size) := by simpa using hgb1
            have hr1' : RowAt w1 3 1 g1 o1 cap1 k ((q.xs.take k).map (Value.int .i64)) := by simpa using hr1
            have hv1 : V.heap.size ≤ g1 := by rcases hg1 with h | h <;> first | omega | (simp at h; omega)
            have k1 : Kept [] V w1 := Kept.trans (Kept.trans KD (show Kept [] (World.drew V) (World.drew (World.alloc V (.cells #[] 3))) from Kept.alloc (World.drew V) (.cells #[] 3)) (by simp)) (Kept.of_grown hgb1') (fun x hx => .inr (by simp at hx; subst hx; simp))
            refine hK.out _ _ ?_ (fun hHeld2 => ?_)
            · (try dsimp only); exact CF.out _ k1
            clear hK K hHeld
            have hHeld := hHeld2
            clear hHeld2
            (try simp only [Act.put, List.setIfInBounds_toArray, List.set_cons_zero, List.set_cons_succ, List.getElem_toArray, List.getElem_cons_zero, List.getElem_cons_succ])
            (try simp only [Nat.zero_add])
            have d1x := (CF1.out _ k1).1
            have f1x := (CF1.out _ k1).2
            refine wpAnyH_take (i := 15) (v := ?_) rfl (by kernel_rfl) (by kernel_rfl) (by kernel_rfl) (fun _ _ _ h => h) (Or.inl ⟨by rfl, ?_⟩) (by assumption) ?_
            rotate_left; · (intro w hSw; (try dsimp only at hSw); go_simp; try with_reducible rfl)
            (try simp only [Act.put, List.setIfInBounds_toArray, List.set_cons_zero, List.set_cons_succ, List.getElem_toArray, List.getElem_cons_zero, List.getElem_cons_succ])
            refine wpAnyH_take (i := 16) (v := ?_) rfl (by kernel_rfl) (by kernel_rfl) (by kernel_rfl) (fun _ _ _ h => h) (Or.inl ⟨by rfl, ?_⟩) (by assumption) ?_
            rotate_left; · (intro w hSw; (try dsimp only at hSw); go_simp; try with_reducible rfl)
            (try simp only [Act.put, List.setIfInBounds_toArray, List.set_cons_zero, List.set_cons_succ, List.getElem_toArray, List.getElem_cons_zero, List.getElem_cons_succ])
            refine wpAnyH_ready (rs := [17]) (by kernel_rfl) (by simp) ?_
            refine AllReadyH.cons rfl (fun K hK => ?_) AllReadyH.nil
            (try simp only [List.getElem_toArray, List.getElem_cons_zero, List.getElem_cons_succ])
            go_simp
            refine hK.out _ _ ?_ (fun hHeld2 => ?_)
            · (try dsimp only); exact CF12.out _ _ k1
            clear hK K hHeld
            have hHeld := hHeld2
            clear hHeld2
            (try simp only [Act.put, List.setIfInBounds_toArray, List.set_cons_zero, List.set_cons_succ, List.getElem_toArray, List.getElem_cons_zero, List.getElem_cons_succ])
            refine wpAnyH_done (by kernel_rfl) ?_ _
            have XF := RF.out _ k1 _ _ _ hr1' hv1
            go_wp2
            go_ret
            rw [show Value.slice (some ⟨g1, o1, none⟩) k cap1 = .slice (some ⟨g1, o1, none⟩) 0 cap1 by rw [hk00]] at XF
            exact XF
          · have s1 : (c != 0) = true := by simpa using b1
            by_cases b2 : wr0 = 0
            · have WEQ : Hid (closeW f q G = c) := Lib.hid (by unfold closeW; rw [HB1.out, HB2.out, if_pos ⟨b1, .inl (by rw [WRH.out, b2])⟩])
              have RX : Hid (RqAt (V0.setCell ⟨rb, 3, none⟩ (.int .i64 c)) rb fp (.slice none 0 0) gv { q with wrong := c } G) := Lib.hid (R0.out.set 3 _ rfl R0.out.row R0.out.gs R0.out.ne R0.out.small)
              have KX : Hid (Kept [rb] w (V0.setCell ⟨rb, 3, none⟩ (.int .i64 c))) := Lib.hid (K0.out.trans (Kept.setCell V0 rb 3 _) (by simp))
              subst b2
              clear hwr b1
              have c5x := RX.out.c5
              have f5x := RX.out.f 5
              have R5 := RX.out.set 5 (.bool true) (q' := { q with wrong := c, closed := true }) (sv' := (.slice none 0 0)) (gv' := gv) (G' := G) rfl RX.out.row RX.out.gs RX.out.ne RX.out.small
              have c4x := R5.c4
              have f4x := R5.f 4
              have R4 : Hid (RqAt (((V0.setCell ⟨rb, 3, none⟩ (.int .i64 c)).setCell ⟨rb, 5, none⟩ (.bool true)).setCell ⟨rb, 4, none⟩ (.int .i64 f)) rb fp (.slice none 0 0) gv { q with wrong := c, closed := true, fin := f } G) := Lib.hid (R5.set 4 (.int .i64 f) rfl R5.row R5.gs R5.ne R5.small)
              have K4 : Hid (Kept [rb] w (((V0.setCell ⟨rb, 3, none⟩ (.int .i64 c)).setCell ⟨rb, 5, none⟩ (.bool true)).setCell ⟨rb, 4, none⟩ (.int .i64 f))) := Lib.hid ((KX.out.trans (Kept.setCell (V0.setCell ⟨rb, 3, none⟩ (.int .i64 c)) rb 5 (.bool true)) (by simp)).trans (Kept.setCell _ rb 4 (.int .i64 f)) (by simp))
              clear R5
              go_wp2_with fail
              obtain ⟨V, hV⟩ : ∃ V, V = ((V0.setCell ⟨rb, 3, none⟩ (.int .i64 c)).setCell ⟨rb, 5, none⟩ (.bool true)).setCell ⟨rb, 4, none⟩ (.int .i64 f) := ⟨_, rfl⟩
              rw [← hV] at R4 K4 ⊢
              clear hV c5x f5x c4x f4x
              have KD : Kept [] V V.drew := (Kept.refl [] V).drew
              have CF : Hid (∀ wx, Kept [] V wx → wx.cell? ⟨rb, 0, none⟩ = some (.int .i64 fst)) := Lib.hid (fun wx hk => by
                have := (R4.out.kept hk (by simp) (by simp)).c0
                rw [← FST.out]
                exact this)
              have CF12 : Hid (∀ wx v, Kept [] V wx → (wx.setCell ⟨rb, 1, none⟩ v).cell? ⟨rb, 0, none⟩ = some (.int .i64 fst)) := Lib.hid (fun wx v hk => by
                have hc := (R4.out.kept hk (by simp) (by simp)).cell
                rw [World.cell?, heap_setCell_at hc, ← FST.out]
                rfl)
              have CF1 : Hid (∀ wx, Kept [] V wx → wx.cell? ⟨rb, 1, none⟩ = some (.slice none 0 0) ∧ wx.frozen? ⟨rb, 1, none⟩ = false) := Lib.hid (fun wx hk => by
                have r := R4.out.kept hk (by simp) (by simp)
                exact ⟨r.c1, r.f 1⟩)
              have SRC : Hid (∀ wx, Kept [] V wx → Src Tryd.prog 1 22 (.slice none 0 0) k ((q.xs.take k).map (Value.int .i64)) wx) := Lib.hid (fun wx hk => by
                have r := R4.out.kept hk (by simp) (by simp)
                have hx : (q.xs.take k).map (Value.int .i64) = [] := by rw [List.take_eq_nil_iff.2 (.inl (by omega))]; rfl
                rw [hx]
                obtain rfl : k = 0 := by omega
                exact Src.ofNil wx Tryd.underlying22 0)
              have RF : Hid (∀ w1, Kept [] V w1 → ∀ g1 o1 cap1, RowAt w1 3 1 g1 o1 cap1 k ((q.xs.take k).map (Value.int .i64)) → V.heap.size ≤ g1 → RqDone w rb fp { q with xs := q.xs.take k, wrong := closeW f q G, closed := true, fin := f } G (.int .i64 0) (.returned (.int .i64 0)) (w1.setCell ⟨rb, 1, none⟩ (.slice (some ⟨g1, o1, none⟩) k cap1))) := Lib.hid (fun w1 hk g1 o1 cap1 hr hg => by
                have r := R4.out.kept hk (by simp) (by simp)
                have hlt := R4.out.lt
                have hsz := K4.out.size
                have hkl : (q.xs.take k).length = k := by rw [List.length_take, HL.out]; omega
                refine ⟨rfl, g1 :: fp, _, gv, r.set 1 _ (by rw [WEQ.out]; rfl) (.inr ⟨g1, o1, cap1, by rw [hkl], by simp, by rw [hkl]; exact hr⟩) (r.gs.fpMono (by simp; exact fun x hx => .inr hx)) (by simp; exact ⟨by omega, r.ne⟩) ?_, (K4.out.trans hk (by simp)).trans (Kept.setCell w1 rb 1 _) (by simp), fun y hy => ?_⟩
                · intro y hy
                  simp at hy
                  rcases hy with rfl | hy
                  · exact hr.lt
                  · exact r.small y hy
                · simp at hy
                  rcases hy with rfl | hy
                  · exact .inr (by omega)
                  · exact .inl hy)
              clear R4 K4 KX RX
              refine wp_region_held_drew (S := (fun w' => w'.cell? ⟨rb, 0, none⟩ = some (.int .i64 fst))) (by kernel_rfl) ?_ (fun hHeld => ?_)
              · (try dsimp only); exact CF.out _ KD
              refine wpAnyH_take (i := 0) (v := ?_) rfl (by kernel_rfl) (by kernel_rfl) (by kernel_rfl) (fun _ _ _ h => h) (Or.inl ⟨by rfl, ?_⟩) (by assumption) ?_
              rotate_left; · (intro w hSw; (try dsimp only at hSw); go_simp; try with_reducible rfl)
              (try simp only [Act.put, List.setIfInBounds_toArray, List.set_cons_zero, List.set_cons_succ, List.getElem_toArray, List.getElem_cons_zero, List.getElem_cons_succ])
              refine wpAnyH_take (i := 2) (v := ?_) rfl (by kernel_rfl) (by kernel_rfl) (by kernel_rfl) (fun _ _ _ h => h) (Or.inl ⟨by rfl, ?_⟩) (by assumption) ?_
              rotate_left; · (intro w hSw; (try dsimp only at hSw); go_simp; try with_reducible rfl)
              (try simp only [Act.put, List.setIfInBounds_toArray, List.set_cons_zero, List.set_cons_succ, List.getElem_toArray, List.getElem_cons_zero, List.getElem_cons_succ])
              refine wpAnyH_take (i := 3) (v := ?_) rfl (by kernel_rfl) (by kernel_rfl) (by kernel_rfl) (fun _ _ _ h => h) (Or.inl ⟨by rfl, ?_⟩) (by assumption) ?_
              rotate_left; · (intro w hSw; (try dsimp only at hSw); go_simp; try with_reducible rfl)
              (try simp only [Act.put, List.setIfInBounds_toArray, List.set_cons_zero, List.set_cons_succ, List.getElem_toArray, List.getElem_cons_zero, List.getElem_cons_succ])
              refine wpAnyH_take (i := 4) (v := ?_) rfl (by kernel_rfl) (by kernel_rfl) (by kernel_rfl) (fun _ _ _ h => h) (Or.inl ⟨by rfl, ?_⟩) (by assumption) ?_
              rotate_left; · (intro w hSw; (try dsimp only at hSw); go_simp; try with_reducible rfl)
              (try simp only [Act.put, List.setIfInBounds_toArray, List.set_cons_zero, List.set_cons_succ, List.getElem_toArray, List.getElem_cons_zero, List.getElem_cons_succ])
              refine wpAnyH_take (i := 6) (v := ?_) rfl (by kernel_rfl) (by kernel_rfl) (by kernel_rfl) (fun _ _ _ h => h) (Or.inl ⟨by rfl, ?_⟩) (by assumption) ?_
              rotate_left; · (intro w hSw; (try dsimp only at hSw); go_simp; try with_reducible rfl)
              (try simp only [Act.put, List.setIfInBounds_toArray, List.set_cons_zero, List.set_cons_succ, List.getElem_toArray, List.getElem_cons_zero, List.getElem_cons_succ])
              refine wpAnyH_take (i := 7) (v := ?_) rfl (by kernel_rfl) (by kernel_rfl) (by kernel_rfl) (fun _ _ _ h => h) (Or.inl ⟨by rfl, ?_⟩) (by assumption) ?_
              rotate_left; · (intro w hSw; (try dsimp only at hSw); go_simp; try with_reducible rfl)
              (try simp only [Act.put, List.setIfInBounds_toArray, List.set_cons_zero, List.set_cons_succ, List.getElem_toArray, List.getElem_cons_zero, List.getElem_cons_succ])
              refine wpAnyH_take (i := 8) (v := ?_) rfl (by kernel_rfl) (by kernel_rfl) (by kernel_rfl) (fun _ _ _ h => h) (Or.inl ⟨by rfl, ?_⟩) (by assumption) ?_
              rotate_left; · (intro w hSw; (try dsimp only at hSw); go_simp; try with_reducible rfl)
              (try simp only [Act.put, List.setIfInBounds_toArray, List.set_cons_zero, List.set_cons_succ, List.getElem_toArray, List.getElem_cons_zero, List.getElem_cons_succ])
              refine wpAnyH_take (i := 9) (v := ?_) rfl (by kernel_rfl) (by kernel_rfl) (by kernel_rfl) (fun _ _ _ h => h) (Or.inl ⟨by rfl, ?_⟩) (by assumption) ?_
              rotate_left; · (intro w hSw; (try dsimp only at hSw); go_simp; try with_reducible rfl)
              (try simp only [Act.put, List.setIfInBounds_toArray, List.set_cons_zero, List.set_cons_succ, List.getElem_toArray, List.getElem_cons_zero, List.getElem_cons_succ])
              refine wpAnyH_take (i := 10) (v := ?_) rfl (by kernel_rfl) (by kernel_rfl) (by kernel_rfl) (fun _ _ _ h => h) (Or.inl ⟨by rfl, ?_⟩) (by assumption) ?_
              rotate_left; · (intro w hSw; (try dsimp only at hSw); go_simp; try with_reducible rfl)
              (try simp only [Act.put, List.setIfInBounds_toArray, List.set_cons_zero, List.set_cons_succ, List.getElem_toArray, List.getElem_cons_zero, List.getElem_cons_succ])
              refine wpAnyH_take (i := 11) (v := ?_) rfl (by kernel_rfl) (by kernel_rfl) (by kernel_rfl) (fun _ _ _ h => h) (Or.inl ⟨by rfl, ?_⟩) (by assumption) ?_
              rotate_left; · (intro w hSw; (try dsimp only at hSw); go_simp; try with_reducible rfl)
              (try simp only [Act.put, List.setIfInBounds_toArray, List.set_cons_zero, List.set_cons_succ, List.getElem_toArray, List.getElem_cons_zero, List.getElem_cons_succ])
              refine wpAnyH_take (i := 12) (v := ?_) rfl (by kernel_rfl) (by kernel_rfl) (by kernel_rfl) (fun _ _ _ h => h) (Or.inl ⟨by rfl, ?_⟩) (by assumption) ?_
              rotate_left; · (intro w hSw; (try dsimp only at hSw); go_simp; try with_reducible rfl)
              (try simp only [Act.put, List.setIfInBounds_toArray, List.set_cons_zero, List.set_cons_succ, List.getElem_toArray, List.getElem_cons_zero, List.getElem_cons_succ])
              refine wpAnyH_ready (rs := [1, 5]) (by kernel_rfl) (by simp) ?_
              refine AllReadyH.cons rfl (fun K hK => ?_) ?_
              · (try simp only [List.getElem_toArray, List.getElem_cons_zero, List.getElem_cons_succ])
                go_simp
                refine hK.out _ _ ?_ (fun hHeld2 => ?_)
                · (try dsimp only); exact CF.out _ (Kept.trans KD (show Kept [] (World.drew V) (World.drew (World.alloc V (.cells #[] 3))) from Kept.alloc (World.drew V) (.cells #[] 3)) (by simp))
                clear hK K hHeld
                have hHeld := hHeld2
                clear hHeld2
                (try simp only [Act.put, List.setIfInBounds_toArray, List.set_cons_zero, List.set_cons_succ, List.getElem_toArray, List.getElem_cons_zero, List.getElem_cons_succ])
                refine wpAnyH_ready (rs := [5]) (by kernel_rfl) (by simp) ?_
                refine AllReadyH.cons rfl (fun K hK => ?_) AllReadyH.nil
                (try simp only [List.getElem_toArray, List.getElem_cons_zero, List.getElem_cons_succ])
                have c1x : ((World.drew (World.alloc V (.cells #[] 3)))).cell? ⟨rb, 1, none⟩ = some (.slice none 0 0) := (CF1.out _ (Kept.trans KD (show Kept [] (World.drew V) (World.drew (World.alloc V (.cells #[] 3))) from Kept.alloc (World.drew V) (.cells #[] 3)) (by simp))).1
                go_simp
                clear c1x
                refine hK.out _ _ ?_ (fun hHeld2 => ?_)
                · (try dsimp only); exact CF.out _ (Kept.trans KD (show Kept [] (World.drew V) (World.drew (World.alloc V (.cells #[] 3))) from Kept.alloc (World.drew V) (.cells #[] 3)) (by simp))
                clear hK K hHeld
                have hHeld := hHeld2
                clear hHeld2
                (try simp only [Act.put, List.setIfInBounds_toArray, List.set_cons_zero, List.set_cons_succ, List.getElem_toArray, List.getElem_cons_zero, List.getElem_cons_succ])
                refine wpAnyH_take (i := 13) (v := ?_) rfl (by kernel_rfl) (by kernel_rfl) (by kernel_rfl) (fun _ _ _ h => h) (Or.inl ⟨by rfl, ?_⟩) (by assumption) ?_
                rotate_left; · (intro w hSw; (try dsimp only at hSw); go_simp; try with_reducible rfl)
                (try simp only [Act.put, List.setIfInBounds_toArray, List.set_cons_zero, List.set_cons_succ, List.getElem_toArray, List.getElem_cons_zero, List.getElem_cons_succ])
                refine wpAnyH_ready (rs := [14]) (by kernel_rfl) (by simp) ?_
                refine AllReadyH.cons rfl (fun K hK => ?_) AllReadyH.nil
                skip
                have re : RowAt (World.drew (World.alloc V (.cells #[] 3))) 3 1 (World.heap (World.drew V)).size 0 0 0 [] := row_empty (World.drew V) 3 1
                have se : Src Tryd.prog 1 22 (.slice none 0 0) k ((q.xs.take k).map (Value.int .i64)) (World.drew (World.alloc V (.cells #[] 3))) := SRC.out _ (Kept.trans KD (show Kept [] (World.drew V) (World.drew (World.alloc V (.cells #[] 3))) from Kept.alloc (World.drew V) (.cells #[] 3)) (by simp))
                refine step_append_q ?qhgd11 ?qs11 ?qx11 22 22 ?qho11 3 (.int .i64 0) 1 8 Tryd.underlying22 info3 rfl ?qg11 0 0 0 [] ?qhsv11 ?qhrow11 (.slice none 0 0) ?qhxv11 k ((q.xs.take k).map (Value.int .i64)) ?qhs11 ?qh111 ?qh211 ?qhh11
                case qho11 => rfl
                case qhgd11 => rfl
                case qhsv11 => rfl
                case qhxv11 => rfl
                case qhrow11 => simpa using re
                case qhs11 => simpa using se
                case qh111 => simp [maxLen]; omega
                case qh211 => omega
                intro g1 o1 cap1 w1 hr1 hgb1 hg1
                have hgb1' : (World.drew (World.alloc V (.cells #[] 3))).grownBy w1 (some (World.heap (World.drew V)).size) := by simpa using hgb1
                have hr1' : RowAt w1 3 1 g1 o1 cap1 k ((q.xs.take k).map (Value.int .i64)) := by simpa using hr1
                have hv1 : V.heap.size ≤ g1 := by rcases hg1 with h | h <;> first | omega | (simp at h; omega)
                have k1 : Kept [] V w1 := Kept.trans (Kept.trans KD (show Kept [] (World.drew V) (World.drew (World.alloc V (.cells #[] 3))) from Kept.alloc (World.drew V) (.cells #[] 3)) (by simp)) (Kept.of_grown hgb1') (fun x hx => .inr (by simp at hx; subst hx; simp))
                refine hK.out _ _ ?_ (fun hHeld2 => ?_)
                · (try dsimp only); exact CF.out _ k1
                clear hK K hHeld
                have hHeld := hHeld2
                clear hHeld2
                (try simp only [Act.put, List.setIfInBounds_toArray, List.set_cons_zero, List.set_cons_succ, List.getElem_toArray, List.getElem_cons_zero, List.getElem_cons_succ])
                (try simp only [Nat.zero_add])
                have d1x := (CF1.out _ k1).1
                have f1x := (CF1.out _ k1).2
                refine wpAnyH_take (i := 15) (v := ?_) rfl (by kernel_rfl) (by kernel_rfl) (by kernel_rfl) (fun _ _ _ h => h) (Or.inl ⟨by rfl, ?_⟩) (by assumption) ?_
                rotate_left; · (intro w hSw; (try dsimp only at hSw); go_simp; try with_reducible rfl)
                (try simp only [Act.put, List.setIfInBounds_toArray, List.set_cons_zero, List.set_cons_succ, List.getElem_toArray, List.getElem_cons_zero, List.getElem_cons_succ])
                refine wpAnyH_take (i := 16) (v := ?_) rfl (by kernel_rfl) (by kernel_rfl) (by kernel_rfl) (fun _ _ _ h => h) (Or.inl ⟨by rfl, ?_⟩) (by assumption) ?_
                rotate_left; · (intro w hSw; (try dsimp only at hSw); go_simp; try with_reducible rfl)
                (try simp only [Act.put, List.setIfInBounds_toArray, List.set_cons_zero, List.set_cons_succ, List.getElem_toArray, List.getElem_cons_zero, List.getElem_cons_succ])
                refine wpAnyH_ready (rs := [17]) (by kernel_rfl) (by simp) ?_
                refine AllReadyH.cons rfl (fun K hK => ?_) AllReadyH.nil
                (try simp only [List.getElem_toArray, List.getElem_cons_zero, List.getElem_cons_succ])
                go_simp
                refine hK.out _ _ ?_ (fun hHeld2 => ?_)
                · (try dsimp only); exact CF12.out _ _ k1
                clear hK K hHeld
                have hHeld := hHeld2
                clear hHeld2
                (try simp only [Act.put, List.setIfInBounds_toArray, List.set_cons_zero, List.set_cons_succ, List.getElem_toArray, List.getElem_cons_zero, List.getElem_cons_succ])
                refine wpAnyH_done (by kernel_rfl) ?_ _
                have XF := RF.out _ k1 _ _ _ hr1' hv1
                go_wp2
                go_ret
                rw [show Value.slice (some ⟨g1, o1, none⟩) k cap1 = .slice (some ⟨g1, o1, none⟩) 0 cap1 by rw [hk00]] at XF
                exact XF
              refine AllReadyH.cons rfl (fun K hK => ?_) AllReadyH.nil
              (try simp only [List.getElem_toArray, List.getElem_cons_zero, List.getElem_cons_succ])
              have c1x : ((World.drew V)).cell? ⟨rb, 1, none⟩ = some (.slice none 0 0) := (CF1.out _ KD).1
              go_simp
              clear c1x
              refine hK.out _ _ ?_ (fun hHeld2 => ?_)
              · (try dsimp only); exact CF.out _ KD
              clear hK K hHeld
              have hHeld := hHeld2
              clear hHeld2
              (try simp only [Act.put, List.setIfInBounds_toArray, List.set_cons_zero, List.set_cons_succ, List.getElem_toArray, List.getElem_cons_zero, List.getElem_cons_succ])
              refine wpAnyH_take (i := 13) (v := ?_) rfl (by kernel_rfl) (by kernel_rfl) (by kernel_rfl) (fun _ _ _ h => h) (Or.inl ⟨by rfl, ?_⟩) (by assumption) ?_
              rotate_left; · (intro w hSw; (try dsimp only at hSw); go_simp; try with_reducible rfl)
              (try simp only [Act.put, List.setIfInBounds_toArray, List.set_cons_zero, List.set_cons_succ, List.getElem_toArray, List.getElem_cons_zero, List.getElem_cons_succ])
              refine wpAnyH_ready (rs := [1]) (by kernel_rfl) (by simp) ?_
              refine AllReadyH.cons rfl (fun K hK => ?_) AllReadyH.nil
              (try simp only [List.getElem_toArray, List.getElem_cons_zero, List.getElem_cons_succ])
              go_simp
              refine hK.out _ _ ?_ (fun hHeld2 => ?_)
              · (try dsimp only); exact CF.out _ (Kept.trans KD (show Kept [] (World.drew V) (World.drew (World.alloc V (.cells #[] 3))) from Kept.alloc (World.drew V) (.cells #[] 3)) (by simp))
              clear hK K hHeld
              have hHeld := hHeld2
              clear hHeld2
              (try simp only [Act.put, List.setIfInBounds_toArray, List.set_cons_zero, List.set_cons_succ, List.getElem_toArray, List.getElem_cons_zero, List.getElem_cons_succ])
              refine wpAnyH_ready (rs := [14]) (by kernel_rfl) (by simp) ?_
              refine AllReadyH.cons rfl (fun K hK => ?_) AllReadyH.nil
              skip
              have re : RowAt (World.drew (World.alloc V (.cells #[] 3))) 3 1 (World.heap (World.drew V)).size 0 0 0 [] := row_empty (World.drew V) 3 1
              have se : Src Tryd.prog 1 22 (.slice none 0 0) k ((q.xs.take k).map (Value.int .i64)) (World.drew (World.alloc V (.cells #[] 3))) := SRC.out _ (Kept.trans KD (show Kept [] (World.drew V) (World.drew (World.alloc V (.cells #[] 3))) from Kept.alloc (World.drew V) (.cells #[] 3)) (by simp))
              refine step_append_q ?qhgd12 ?qs12 ?qx12 22 22 ?qho12 3 (.int .i64 0) 1 8 Tryd.underlying22 info3 rfl ?qg12 0 0 0 [] ?qhsv12 ?qhrow12 (.slice none 0 0) ?qhxv12 k ((q.xs.take k).map (Value.int .i64)) ?qhs12 ?qh112 ?qh212 ?qhh12
              case qho12 => rfl
              case qhgd12 => rfl
              case qhsv12 => rfl
              case qhxv12 => rfl
              case qhrow12 => simpa using re
              case qhs12 => simpa using se
              case qh112 => simp [maxLen]; omega
              case qh212 => omega
              intro g1 o1 cap1 w1 hr1 hgb1 hg1
              have hgb1' : (World.drew (World.alloc V (.cells #[] 3))).grownBy w1 (some (World.heap (World.drew V)).size) := by simpa using hgb1
              have hr1' : RowAt w1 3 1 g1 o1 cap1 k ((q.xs.take k).map (Value.int .i64)) := by simpa using hr1
              have hv1 : V.heap.size ≤ g1 := by rcases hg1 with h | h <;> first | omega | (simp at h; omega)
              have k1 : Kept [] V w1 := Kept.trans (Kept.trans KD (show Kept [] (World.drew V) (World.drew (World.alloc V (.cells #[] 3))) from Kept.alloc (World.drew V) (.cells #[] 3)) (by simp)) (Kept.of_grown hgb1') (fun x hx => .inr (by simp at hx; subst hx; simp))
              refine hK.out _ _ ?_ (fun hHeld2 => ?_)
              · (try dsimp only); exact CF.out _ k1
              clear hK K hHeld
              have hHeld := hHeld2
              clear hHeld2
              (try simp only [Act.put, List.setIfInBounds_toArray, List.set_cons_zero, List.set_cons_succ, List.getElem_toArray, List.getElem_cons_zero, List.getElem_cons_succ])
              (try simp only [Nat.zero_add])
              have d1x := (CF1.out _ k1).1
              have f1x := (CF1.out _ k1).2
              refine wpAnyH_take (i := 15) (v := ?_) rfl (by kernel_rfl) (by kernel_rfl) (by kernel_rfl) (fun _ _ _ h => h) (Or.inl ⟨by rfl, ?_⟩) (by assumption) ?_
              rotate_left; · (intro w hSw; (try dsimp only at hSw); go_simp; try with_reducible rfl)
              (try simp only [Act.put, List.setIfInBounds_toArray, List.set_cons_zero, List.set_cons_succ, List.getElem_toArray, List.getElem_cons_zero, List.getElem_cons_succ])
              refine wpAnyH_take (i := 16) (v := ?_) rfl (by kernel_rfl) (by kernel_rfl) (by kernel_rfl) (fun _ _ _ h => h) (Or.inl ⟨by rfl, ?_⟩) (by assumption) ?_
              rotate_left; · (intro w hSw; (try dsimp only at hSw); go_simp; try with_reducible rfl)
              (try simp only [Act.put, List.setIfInBounds_toArray, List.set_cons_zero, List.set_cons_succ, List.getElem_toArray, List.getElem_cons_zero, List.getElem_cons_succ])
              refine wpAnyH_ready (rs := [17]) (by kernel_rfl) (by simp) ?_
              refine AllReadyH.cons rfl (fun K hK => ?_) AllReadyH.nil
              (try simp only [List.getElem_toArray, List.getElem_cons_zero, List.getElem_cons_succ])
              go_simp
              refine hK.out _ _ ?_ (fun hHeld2 => ?_)
              · (try dsimp only); exact CF12.out _ _ k1
              clear hK K hHeld
              have hHeld := hHeld2
              clear hHeld2
              (try simp only [Act.put, List.setIfInBounds_toArray, List.set_cons_zero, List.set_cons_succ, List.getElem_toArray, List.getElem_cons_zero, List.getElem_cons_succ])
              refine wpAnyH_done (by kernel_rfl) ?_ _
              have XF := RF.out _ k1 _ _ _ hr1' hv1
              go_wp2
              go_ret
              rw [show Value.slice (some ⟨g1, o1, none⟩) k cap1 = .slice (some ⟨g1, o1, none⟩) 0 cap1 by rw [hk00]] at XF
              exact XF
            · have s2 : (wr0 == 0) = false := by simpa using b2
              by_cases b3 : c < wr0
              · have s3 : decide (c < wr0) = true := by simpa using b3
                have WEQ : Hid (closeW f q G = c) := Lib.hid (by unfold closeW; rw [HB1.out, HB2.out, if_pos ⟨b1, .inr (by rw [WRH.out]; exact b3)⟩])
                have RX : Hid (RqAt (V0.setCell ⟨rb, 3, none⟩ (.int .i64 c)) rb fp (.slice none 0 0) gv { q with wrong := c } G) := Lib.hid (R0.out.set 3 _ rfl R0.out.row R0.out.gs R0.out.ne R0.out.small)
                have KX : Hid (Kept [rb] w (V0.setCell ⟨rb, 3, none⟩ (.int .i64 c))) := Lib.hid (K0.out.trans (Kept.setCell V0 rb 3 _) (by simp))
                clear hwr b1 b2 b3
                have c5x := RX.out.c5
                have f5x := RX.out.f 5
                have R5 := RX.out.set 5 (.bool true) (q' := { q with wrong := c, closed := true }) (sv' := (.slice none 0 0)) (gv' := gv) (G' := G) rfl RX.out.row RX.out.gs RX.out.ne RX.out.small
                have c4x := R5.c4
                have f4x := R5.f 4
                have R4 : Hid (RqAt (((V0.setCell ⟨rb, 3, none⟩ (.int .i64 c)).setCell ⟨rb, 5, none⟩ (.bool true)).setCell ⟨rb, 4, none⟩ (.int .i64 f)) rb fp (.slice none 0 0) gv { q with wrong := c, closed := true, fin := f } G) := Lib.hid (R5.set 4 (.int .i64 f) rfl R5.row R5.gs R5.ne R5.small)
                have K4 : Hid (Kept [rb] w (((V0.setCell ⟨rb, 3, none⟩ (.int .i64 c)).setCell ⟨rb, 5, none⟩ (.bool true)).setCell ⟨rb, 4, none⟩ (.int .i64 f))) := Lib.hid ((KX.out.trans (Kept.setCell (V0.setCell ⟨rb, 3, none⟩ (.int .i64 c)) rb 5 (.bool true)) (by simp)).trans (Kept.setCell _ rb 4 (.int .i64 f)) (by simp))
                clear R5
                go_wp2_with fail
                obtain ⟨V, hV⟩ : ∃ V, V = ((V0.setCell ⟨rb, 3, none⟩ (.int .i64 c)).setCell ⟨rb, 5, none⟩ (.bool true)).setCell ⟨rb, 4, none⟩ (.int .i64 f) := ⟨_, rfl⟩
                rw [← hV] at R4 K4 ⊢
                clear hV c5x f5x c4x f4x
                have KD : Kept [] V V.drew := (Kept.refl [] V).drew
                have CF : Hid (∀ wx, Kept [] V wx → wx.cell? ⟨rb, 0, none⟩ = some (.int .i64 fst)) := Lib.hid (fun wx hk => by
                  have := (R4.out.kept hk (by simp) (by simp)).c0
                  rw [← FST.out]
                  exact this)
                have CF12 : Hid (∀ wx v, Kept [] V wx → (wx.setCell ⟨rb, 1, none⟩ v).cell? ⟨rb, 0, none⟩ = some (.int .i64 fst)) := Lib.hid (fun wx v hk => by
                  have hc := (R4.out.kept hk (by simp) (by simp)).cell
                  rw [World.cell?, heap_setCell_at hc, ← FST.out]
                  rfl)
                have CF1 : Hid (∀ wx, Kept [] V wx → wx.cell? ⟨rb, 1, none⟩ = some (.slice none 0 0) ∧ wx.frozen? ⟨rb, 1, none⟩ = false) := Lib.hid (fun wx hk => by
                  have r := R4.out.kept hk (by simp) (by simp)
                  exact ⟨r.c1, r.f 1⟩)
                have SRC : Hid (∀ wx, Kept [] V wx → Src Tryd.prog 1 22 (.slice none 0 0) k ((q.xs.take k).map (Value.int .i64)) wx) := Lib.hid (fun wx hk => by
                  have r := R4.out.kept hk (by simp) (by simp)
                  have hx : (q.xs.take k).map (Value.int .i64) = [] := by rw [List.take_eq_nil_iff.2 (.inl (by omega))]; rfl
                  rw [hx]
                  obtain rfl : k = 0 := by omega
                  exact Src.ofNil wx Tryd.underlying22 0)
                have RF : Hid (∀ w1, Kept [] V w1 → ∀ g1 o1 cap1, RowAt w1 3 1 g1 o1 cap1 k ((q.xs.take k).map (Value.int .i64)) → V.heap.size ≤ g1 → RqDone w rb fp { q with xs := q.xs.take k, wrong := closeW f q G, closed := true, fin := f } G (.int .i64 0) (.returned (.int .i64 0)) (w1.setCell ⟨rb, 1, none⟩ (.slice (some ⟨g1, o1, none⟩) k cap1))) := Lib.hid (fun w1 hk g1 o1 cap1 hr hg => by
                  have r := R4.out.kept hk (by simp) (by simp)
                  have hlt := R4.out.lt
                  have hsz := K4.out.size
                  have hkl : (q.xs.take k).length = k := by rw [List.length_take, HL.out]; omega
                  refine ⟨rfl, g1 :: fp, _, gv, r.set 1 _ (by rw [WEQ.out]; rfl) (.inr ⟨g1, o1, cap1, by rw [hkl], by simp, by rw [hkl]; exact hr⟩) (r.gs.fpMono (by simp; exact fun x hx => .inr hx)) (by simp; exact ⟨by omega, r.ne⟩) ?_, (K4.out.trans hk (by simp)).trans (Kept.setCell w1 rb 1 _) (by simp), fun y hy => ?_⟩
                  · intro y hy
                    simp at hy
                    rcases hy with rfl | hy
                    · exact hr.lt
                    · exact r.small y hy
                  · simp at hy
                    rcases hy with rfl | hy
                    · exact .inr (by omega)
                    · exact .inl hy)
                clear R4 K4 KX RX
                refine wp_region_held_drew (S := (fun w' => w'.cell? ⟨rb, 0, none⟩ = some (.int .i64 fst))) (by kernel_rfl) ?_ (fun hHeld => ?_)
                · (try dsimp only); exact CF.out _ KD
                refine wpAnyH_take (i := 0) (v := ?_) rfl (by kernel_rfl) (by kernel_rfl) (by kernel_rfl) (fun _ _ _ h => h) (Or.inl ⟨by rfl, ?_⟩) (by assumption) ?_
                rotate_left; · (intro w hSw; (try dsimp only at hSw); go_simp; try with_reducible rfl)
                (try simp only [Act.put, List.setIfInBounds_toArray, List.set_cons_zero, List.set_cons_succ, List.getElem_toArray, List.getElem_cons_zero, List.getElem_cons_succ])
                refine wpAnyH_take (i := 2) (v := ?_) rfl (by kernel_rfl) (by kernel_rfl) (by kernel_rfl) (fun _ _ _ h => h) (Or.inl ⟨by rfl, ?_⟩) (by assumption) ?_
                rotate_left; · (intro w hSw; (try dsimp only at hSw); go_simp; try with_reducible rfl)
                (try simp only [Act.put, List.setIfInBounds_toArray, List.set_cons_zero, List.set_cons_succ, List.getElem_toArray, List.getElem_cons_zero, List.getElem_cons_succ])
                refine wpAnyH_take (i := 3) (v := ?_) rfl (by kernel_rfl) (by kernel_rfl) (by kernel_rfl) (fun _ _ _ h => h) (Or.inl ⟨by rfl, ?_⟩) (by assumption) ?_
                rotate_left; · (intro w hSw; (try dsimp only at hSw); go_simp; try with_reducible rfl)
                (try simp only [Act.put, List.setIfInBounds_toArray, List.set_cons_zero, List.set_cons_succ, List.getElem_toArray, List.getElem_cons_zero, List.getElem_cons_succ])
                refine wpAnyH_take (i := 4) (v := ?_) rfl (by kernel_rfl) (by kernel_rfl) (by kernel_rfl) (fun _ _ _ h => h) (Or.inl ⟨by rfl, ?_⟩) (by assumption) ?_
                rotate_left; · (intro w hSw; (try dsimp only at hSw); go_simp; try with_reducible rfl)
                (try simp only [Act.put, List.setIfInBounds_toArray, List.set_cons_zero, List.set_cons_succ, List.getElem_toArray, List.getElem_cons_zero, List.getElem_cons_succ])
                refine wpAnyH_take (i := 6) (v := ?_) rfl (by kernel_rfl) (by kernel_rfl) (by kernel_rfl) (fun _ _ _ h => h) (Or.inl ⟨by rfl, ?_⟩) (by assumption) ?_
                rotate_left; · (intro w hSw; (try dsimp only at hSw); go_simp; try with_reducible rfl)
                (try simp only [Act.put, List.setIfInBounds_toArray, List.set_cons_zero, List.set_cons_succ, List.getElem_toArray, List.getElem_cons_zero, List.getElem_cons_succ])
                refine wpAnyH_take (i := 7) (v := ?_) rfl (by kernel_rfl) (by kernel_rfl) (by kernel_rfl) (fun _ _ _ h => h) (Or.inl ⟨by rfl, ?_⟩) (by assumption) ?_
                rotate_left; · (intro w hSw; (try dsimp only at hSw); go_simp; try with_reducible rfl)
                (try simp only [Act.put, List.setIfInBounds_toArray, List.set_cons_zero, List.set_cons_succ, List.getElem_toArray, List.getElem_cons_zero, List.getElem_cons_succ])
                refine wpAnyH_take (i := 8) (v := ?_) rfl (by kernel_rfl) (by kernel_rfl) (by kernel_rfl) (fun _ _ _ h => h) (Or.inl ⟨by rfl, ?_⟩) (by assumption) ?_
                rotate_left; · (intro w hSw; (try dsimp only at hSw); go_simp; try with_reducible rfl)
                (try simp only [Act.put, List.setIfInBounds_toArray, List.set_cons_zero, List.set_cons_succ, List.getElem_toArray, List.getElem_cons_zero, List.getElem_cons_succ])
                refine wpAnyH_take (i := 9) (v := ?_) rfl (by kernel_rfl) (by kernel_rfl) (by kernel_rfl) (fun _ _ _ h => h) (Or.inl ⟨by rfl, ?_⟩) (by assumption) ?_
                rotate_left; · (intro w hSw; (try dsimp only at hSw); go_simp; try with_reducible rfl)
                (try simp only [Act.put, List.setIfInBounds_toArray, List.set_cons_zero, List.set_cons_succ, List.getElem_toArray, List.getElem_cons_zero, List.getElem_cons_succ])
                refine wpAnyH_take (i := 10) (v := ?_) rfl (by kernel_rfl) (by kernel_rfl) (by kernel_rfl) (fun _ _ _ h => h) (Or.inl ⟨by rfl, ?_⟩) (by assumption) ?_
                rotate_left; · (intro w hSw; (try dsimp only at hSw); go_simp; try with_reducible rfl)
                (try simp only [Act.put, List.setIfInBounds_toArray, List.set_cons_zero, List.set_cons_succ, List.getElem_toArray, List.getElem_cons_zero, List.getElem_cons_succ])
                refine wpAnyH_take (i := 11) (v := ?_) rfl (by kernel_rfl) (by kernel_rfl) (by kernel_rfl) (fun _ _ _ h => h) (Or.inl ⟨by rfl, ?_⟩) (by assumption) ?_
                rotate_left; · (intro w hSw; (try dsimp only at hSw); go_simp; try with_reducible rfl)
                (try simp only [Act.put, List.setIfInBounds_toArray, List.set_cons_zero, List.set_cons_succ, List.getElem_toArray, List.getElem_cons_zero, List.getElem_cons_succ])
                refine wpAnyH_take (i := 12) (v := ?_) rfl (by kernel_rfl) (by kernel_rfl) (by kernel_rfl) (fun _ _ _ h => h) (Or.inl ⟨by rfl, ?_⟩) (by assumption) ?_
                rotate_left; · (intro w hSw; (try dsimp only at hSw); go_simp; try with_reducible rfl)
                (try simp only [Act.put, List.setIfInBounds_toArray, List.set_cons_zero, List.set_cons_succ, List.getElem_toArray, List.getElem_cons_zero, List.getElem_cons_succ])
                refine wpAnyH_ready (rs := [1, 5]) (by kernel_rfl) (by simp) ?_
                refine AllReadyH.cons rfl (fun K hK => ?_) ?_
                · (try simp only [List.getElem_toArray, List.getElem_cons_zero, List.getElem_cons_succ])
                  go_simp
                  refine hK.out _ _ ?_ (fun hHeld2 => ?_)
                  · (try dsimp only); exact CF.out _ (Kept.trans KD (show Kept [] (World.drew V) (World.drew (World.alloc V (.cells #[] 3))) from Kept.alloc (World.drew V) (.cells #[] 3)) (by simp))
                  clear hK K hHeld
                  have hHeld := hHeld2
                  clear hHeld2
                  (try simp only [Act.put, List.setIfInBounds_toArray, List.set_cons_zero, List.set_cons_succ, List.getElem_toArray, List.getElem_cons_zero, List.getElem_cons_succ])
                  refine wpAnyH_ready (rs := [5]) (by kernel_rfl) (by simp) ?_
                  refine AllReadyH.cons rfl (fun K hK => ?_) AllReadyH.nil
                  (try simp only [List.getElem_toArray, List.getElem_cons_zero, List.getElem_cons_succ])
                  have c1x : ((World.drew (World.alloc V (.cells #[] 3)))).cell? ⟨rb, 1, none⟩ = some (.slice none 0 0) := (CF1.out _ (Kept.trans KD (show Kept [] (World.drew V) (World.drew (World.alloc V (.cells #[] 3))) from Kept.alloc (World.drew V) (.cells #[] 3)) (by simp))).1
                  go_simp
                  clear c1x
                  refine hK.out _ _ ?_ (fun hHeld2 => ?_)
                  · (try dsimp only); exact CF.out _ (Kept.trans KD (show Kept [] (World.drew V) (World.drew (World.alloc V (.cells #[] 3))) from Kept.alloc (World.drew V) (.cells #[] 3)) (by simp))
                  clear hK K hHeld
                  have hHeld := hHeld2
                  clear hHeld2
                  (try simp only [Act.put, List.setIfInBounds_toArray, List.set_cons_zero, List.set_cons_succ, List.getElem_toArray, List.getElem_cons_zero, List.getElem_cons_succ])
                  refine wpAnyH_take (i := 13) (v := ?_) rfl (by kernel_rfl) (by kernel_rfl) (by kernel_rfl) (fun _ _ _ h => h) (Or.inl ⟨by rfl, ?_⟩) (by assumption) ?_
                  rotate_left; · (intro w hSw; (try dsimp only at hSw); go_simp; try with_reducible rfl)
                  (try simp only [Act.put, List.setIfInBounds_toArray, List.set_cons_zero, List.set_cons_succ, List.getElem_toArray, List.getElem_cons_zero, List.getElem_cons_succ])
                  refine wpAnyH_ready (rs := [14]) (by kernel_rfl) (by simp) ?_
                  refine AllReadyH.cons rfl (fun K hK => ?_) AllReadyH.nil
                  skip
                  have re : RowAt (World.drew (World.alloc V (.cells #[] 3))) 3 1 (World.heap (World.drew V)).size 0 0 0 [] := row_empty (World.drew V) 3 1
                  have se : Src Tryd.prog 1 22 (.slice none 0 0) k ((q.xs.take k).map (Value.int .i64)) (World.drew (World.alloc V (.cells #[] 3))) := SRC.out _ (Kept.trans KD (show Kept [] (World.drew V) (World.drew (World.alloc V (.cells #[] 3))) from Kept.alloc (World.drew V) (.cells #[] 3)) (by simp))
                  refine step_append_q ?qhgd13 ?qs13 ?qx13 22 22 ?qho13 3 (.int .i64 0) 1 8 Tryd.underlying22 info3 rfl ?qg13 0 0 0 [] ?qhsv13 ?qhrow13 (.slice none 0 0) ?qhxv13 k ((q.xs.take k).map (Value.int .i64)) ?qhs13 ?qh113 ?qh213 ?qhh13
                  case qho13 => rfl
                  case qhgd13 => rfl
                  case qhsv13 => rfl
                  case qhxv13 => rfl
                  case qhrow13 => simpa using re
                  case qhs13 => simpa using se
                  case qh113 => simp [maxLen]; omega
                  case qh213 => omega
                  intro g1 o1 cap1 w1 hr1 hgb1 hg1
                  have hgb1' : (World.drew (World.alloc V (.cells #[] 3))).grownBy w1 (some (World.heap (World.drew V)).size) := by simpa using hgb1
                  have hr1' : RowAt w1 3 1 g1 o1 cap1 k ((q.xs.take k).map (Value.int .i64)) := by simpa using hr1
                  have hv1 : V.heap.size ≤ g1 := by rcases hg1 with h | h <;> first | omega | (simp at h; omega)
                  have k1 : Kept [] V w1 := Kept.trans (Kept.trans KD (show Kept [] (World.drew V) (World.drew (World.alloc V (.cells #[] 3))) from Kept.alloc (World.drew V) (.cells #[] 3)) (by simp)) (Kept.of_grown hgb1') (fun x hx => .inr (by simp at hx; subst hx; simp))
                  refine hK.out _ _ ?_ (fun hHeld2 => ?_)
                  · (try dsimp only); exact CF.out _ k1
                  clear hK K hHeld
                  have hHeld := hHeld2
                  clear hHeld2
                  (try simp only [Act.put, List.setIfInBounds_toArray, List.set_cons_zero, List.set_cons_succ, List.getElem_toArray, List.getElem_cons_zero, List.getElem_cons_succ])
                  (try simp only [Nat.zero_add])
                  have d1x := (CF1.out _ k1).1
                  have f1x := (CF1.out _ k1).2
                  refine wpAnyH_take (i := 15) (v := ?_) rfl (by kernel_rfl) (by kernel_rfl) (by kernel_rfl) (fun _ _ _ h => h) (Or.inl ⟨by rfl, ?_⟩) (by assumption) ?_
                  rotate_left; · (intro w hSw; (try dsimp only at hSw); go_simp; try with_reducible rfl)
                  (try simp only [Act.put, List.setIfInBounds_toArray, List.set_cons_zero, List.set_cons_succ, List.getElem_toArray, List.getElem_cons_zero, List.getElem_cons_succ])
                  refine wpAnyH_take (i := 16) (v := ?_) rfl (by kernel_rfl) (by kernel_rfl) (by kernel_rfl) (fun _ _ _ h => h) (Or.inl ⟨by rfl, ?_⟩) (by assumption) ?_
                  rotate_left; · (intro w hSw; (try dsimp only at hSw); go_simp; try with_reducible rfl)
                  (try simp only [Act.put, List.setIfInBounds_toArray, List.set_cons_zero, List.set_cons_succ, List.getElem_toArray, List.getElem_cons_zero, List.getElem_cons_succ])
                  refine wpAnyH_ready (rs := [17]) (by kernel_rfl) (by simp) ?_
                  refine AllReadyH.cons rfl (fun K hK => ?_) AllReadyH.nil
                  (try simp only [List.getElem_toArray, List.getElem_cons_zero, List.getElem_cons_succ])
                  go_simp
                  refine hK.out _ _ ?_ (fun hHeld2 => ?_)
                  · (try dsimp only); exact CF12.out _ _ k1
                  clear hK K hHeld
                  have hHeld := hHeld2
                  clear hHeld2
                  (try simp only [Act.put, List.setIfInBounds_toArray, List.set_cons_zero, List.set_cons_succ, List.getElem_toArray, List.getElem_cons_zero, List.getElem_cons_succ])
                  refine wpAnyH_done (by kernel_rfl) ?_ _
                  have XF := RF.out _ k1 _ _ _ hr1' hv1
                  go_wp2
                  go_ret
                  rw [show Value.slice (some ⟨g1, o1, none⟩) k cap1 = .slice (some ⟨g1, o1, none⟩) 0 cap1 by rw [hk00]] at XF
                  exact XF
                refine AllReadyH.cons rfl (fun K hK => ?_) AllReadyH.nil
                (try simp only [List.getElem_toArray, List.getElem_cons_zero, List.getElem_cons_succ])
                have c1x : ((World.drew V)).cell? ⟨rb, 1, none⟩ = some (.slice none 0 0) := (CF1.out _ KD).1
                go_simp
                clear c1x
                refine hK.out _ _ ?_ (fun hHeld2 => ?_)
                · (try dsimp only); exact CF.out _ KD
                clear hK K hHeld
                have hHeld := hHeld2
                clear hHeld2
                (try simp only [Act.put, List.setIfInBounds_toArray, List.set_cons_zero, List.set_cons_succ, List.getElem_toArray, List.getElem_cons_zero, List.getElem_cons_succ])
                refine wpAnyH_take (i := 13) (v := ?_) rfl (by kernel_rfl) (by kernel_rfl) (by kernel_rfl) (fun _ _ _ h => h) (Or.inl ⟨by rfl, ?_⟩) (by assumption) ?_
                rotate_left; · (intro w hSw; (try dsimp only at hSw); go_simp; try with_reducible rfl)
                (try simp only [Act.put, List.setIfInBounds_toArray, List.set_cons_zero, List.set_cons_succ, List.getElem_toArray, List.getElem_cons_zero, List.getElem_cons_succ])
                refine wpAnyH_ready (rs := [1]) (by kernel_rfl) (by simp) ?_
                refine AllReadyH.cons rfl (fun K hK => ?_) AllReadyH.nil
                (try simp only [List.getElem_toArray, List.getElem_cons_zero, List.getElem_cons_succ])
                go_simp
                refine hK.out _ _ ?_ (fun hHeld2 => ?_)
                · (try dsimp only); exact CF.out _ (Kept.trans KD (show Kept [] (World.drew V) (World.drew (World.alloc V (.cells #[] 3))) from Kept.alloc (World.drew V) (.cells #[] 3)) (by simp))
                clear hK K hHeld
                have hHeld := hHeld2
                clear hHeld2
                (try simp only [Act.put, List.setIfInBounds_toArray, List.set_cons_zero, List.set_cons_succ, List.getElem_toArray, List.getElem_cons_zero, List.getElem_cons_succ])
                refine wpAnyH_ready (rs := [14]) (by kernel_rfl) (by simp) ?_
                refine AllReadyH.cons rfl (fun K hK => ?_) AllReadyH.nil
                skip
                have re : RowAt (World.drew (World.alloc V (.cells #[] 3))) 3 1 (World.heap (World.drew V)).size 0 0 0 [] := row_empty (World.drew V) 3 1
                have se : Src Tryd.prog 1 22 (.slice none 0 0) k ((q.xs.take k).map (Value.int .i64)) (World.drew (World.alloc V (.cells #[] 3))) := SRC.out _ (Kept.trans KD (show Kept [] (World.drew V) (World.drew (World.alloc V (.cells #[] 3))) from Kept.alloc (World.drew V) (.cells #[] 3)) (by simp))
                refine step_append_q ?qhgd14 ?qs14 ?qx14 22 22 ?qho14 3 (.int .i64 0) 1 8 Tryd.underlying22 info3 rfl ?qg14 0 0 0 [] ?qhsv14 ?qhrow14 (.slice none 0 0) ?qhxv14 k ((q.xs.take k).map (Value.int .i64)) ?qhs14 ?qh114 ?qh214 ?qhh14
                case qho14 => rfl
                case qhgd14 => rfl
                case qhsv14 => rfl
                case qhxv14 => rfl
                case qhrow14 => simpa using re
                case qhs14 => simpa using se
                case qh114 => simp [maxLen]; omega
                case qh214 => omega
                intro g1 o1 cap1 w1 hr1 hgb1 hg1
                have hgb1' : (World.drew (World.alloc V (.cells #[] 3))).grownBy w1 (some (World.heap (World.drew V)).size) := by simpa using hgb1
                have hr1' : RowAt w1 3 1 g1 o1 cap1 k ((q.xs.take k).map (Value.int .i64)) := by simpa using hr1
                have hv1 : V.heap.size ≤ g1 := by rcases hg1 with h | h <;> first | omega | (simp at h; omega)
                have k1 : Kept [] V w1 := Kept.trans (Kept.trans KD (show Kept [] (World.drew V) (World.drew (World.alloc V (.cells #[] 3))) from Kept.alloc (World.drew V) (.cells #[] 3)) (by simp)) (Kept.of_grown hgb1') (fun x hx => .inr (by simp at hx; subst hx; simp))
                refine hK.out _ _ ?_ (fun hHeld2 => ?_)
                · (try dsimp only); exact CF.out _ k1
                clear hK K hHeld
                have hHeld := hHeld2
                clear hHeld2
                (try simp only [Act.put, List.setIfInBounds_toArray, List.set_cons_zero, List.set_cons_succ, List.getElem_toArray, List.getElem_cons_zero, List.getElem_cons_succ])
                (try simp only [Nat.zero_add])
                have d1x := (CF1.out _ k1).1
                have f1x := (CF1.out _ k1).2
                refine wpAnyH_take (i := 15) (v := ?_) rfl (by kernel_rfl) (by kernel_rfl) (by kernel_rfl) (fun _ _ _ h => h) (Or.inl ⟨by rfl, ?_⟩) (by assumption) ?_
                rotate_left; · (intro w hSw; (try dsimp only at hSw); go_simp; try with_reducible rfl)
                (try simp only [Act.put, List.setIfInBounds_toArray, List.set_cons_zero, List.set_cons_succ, List.getElem_toArray, List.getElem_cons_zero, List.getElem_cons_succ])
                refine wpAnyH_take (i := 16) (v := ?_) rfl (by kernel_rfl) (by kernel_rfl) (by kernel_rfl) (fun _ _ _ h => h) (Or.inl ⟨by rfl, ?_⟩) (by assumption) ?_
                rotate_left; · (intro w hSw; (try dsimp only at hSw); go_simp; try with_reducible rfl)
                (try simp only [Act.put, List.setIfInBounds_toArray, List.set_cons_zero, List.set_cons_succ, List.getElem_toArray, List.getElem_cons_zero, List.getElem_cons_succ])
                refine wpAnyH_ready (rs := [17]) (by kernel_rfl) (by simp) ?_
                refine AllReadyH.cons rfl (fun K hK => ?_) AllReadyH.nil
                (try simp only [List.getElem_toArray, List.getElem_cons_zero, List.getElem_cons_succ])
                go_simp
                refine hK.out _ _ ?_ (fun hHeld2 => ?_)
                · (try dsimp only); exact CF12.out _ _ k1
                clear hK K hHeld
                have hHeld := hHeld2
                clear hHeld2
                (try simp only [Act.put, List.setIfInBounds_toArray, List.set_cons_zero, List.set_cons_succ, List.getElem_toArray, List.getElem_cons_zero, List.getElem_cons_succ])
                refine wpAnyH_done (by kernel_rfl) ?_ _
                have XF := RF.out _ k1 _ _ _ hr1' hv1
                go_wp2
                go_ret
                rw [show Value.slice (some ⟨g1, o1, none⟩) k cap1 = .slice (some ⟨g1, o1, none⟩) 0 cap1 by rw [hk00]] at XF
                exact XF
              · have s3 : decide (c < wr0) = false := by simpa using b3
                have WEQ : Hid (closeW f q G = wr0) := Lib.hid (by unfold closeW; rw [HB1.out, HB2.out, if_neg (fun e => by rcases e.2 with e | e; exact b2 (WRH.out ▸ e); exact b3 (WRH.out ▸ e))]; exact WRH.out)
                have RX : Hid (RqAt V0 rb fp (.slice none 0 0) gv { q with wrong := wr0 } G) := Lib.hid (by rw [← WRH.out]; exact R0.out)
                have KX := K0
                clear hwr b1 b2 b3
                have c5x := RX.out.c5
                have f5x := RX.out.f 5
                have R5 := RX.out.set 5 (.bool true) (q' := { q with wrong := wr0, closed := true }) (sv' := (.slice none 0 0)) (gv' := gv) (G' := G) rfl RX.out.row RX.out.gs RX.out.ne RX.out.small
                have c4x := R5.c4
                have f4x := R5.f 4
                have R4 : Hid (RqAt ((V0.setCell ⟨rb, 5, none⟩ (.bool true)).setCell ⟨rb, 4, none⟩ (.int .i64 f)) rb fp (.slice none 0 0) gv { q with wrong := wr0, closed := true, fin := f } G) := Lib.hid (R5.set 4 (.int .i64 f) rfl R5.row R5.gs R5.ne R5.small)
                have K4 : Hid (Kept [rb] w ((V0.setCell ⟨rb, 5, none⟩ (.bool true)).setCell ⟨rb, 4, none⟩ (.int .i64 f))) := Lib.hid ((KX.out.trans (Kept.setCell V0 rb 5 (.bool true)) (by simp)).trans (Kept.setCell _ rb 4 (.int .i64 f)) (by simp))
                clear R5
                go_wp2_with fail
                obtain ⟨V, hV⟩ : ∃ V, V = (V0.setCell ⟨rb, 5, none⟩ (.bool true)).setCell ⟨rb, 4, none⟩ (.int .i64 f) := ⟨_, rfl⟩
                rw [← hV] at R4 K4 ⊢
                clear hV c5x f5x c4x f4x
                have KD : Kept [] V V.drew := (Kept.refl [] V).drew
                have CF : Hid (∀ wx, Kept [] V wx → wx.cell? ⟨rb, 0, none⟩ = some (.int .i64 fst)) := Lib.hid (fun wx hk => by
                  have := (R4.out.kept hk (by simp) (by simp)).c0
                  rw [← FST.out]
                  exact this)
                have CF12 : Hid (∀ wx v, Kept [] V wx → (wx.setCell ⟨rb, 1, none⟩ v).cell? ⟨rb, 0, none⟩ = some (.int .i64 fst)) := Lib.hid (fun wx v hk => by
                  have hc := (R4.out.kept hk (by simp) (by simp)).cell
                  rw [World.cell?, heap_setCell_at hc, ← FST.out]
                  rfl)
                have CF1 : Hid (∀ wx, Kept [] V wx → wx.cell? ⟨rb, 1, none⟩ = some (.slice none 0 0) ∧ wx.frozen? ⟨rb, 1, none⟩ = false) := Lib.hid (fun wx hk => by
                  have r := R4.out.kept hk (by simp) (by simp)
                  exact ⟨r.c1, r.f 1⟩)
                have SRC : Hid (∀ wx, Kept [] V wx → Src Tryd.prog 1 22 (.slice none 0 0) k ((q.xs.take k).map (Value.int .i64)) wx) := Lib.hid (fun wx hk => by
                  have r := R4.out.kept hk (by simp) (by simp)
                  have hx : (q.xs.take k).map (Value.int .i64) = [] := by rw [List.take_eq_nil_iff.2 (.inl (by omega))]; rfl
                  rw [hx]
                  obtain rfl : k = 0 := by omega
                  exact Src.ofNil wx Tryd.underlying22 0)
                have RF : Hid (∀ w1, Kept [] V w1 → ∀ g1 o1 cap1, RowAt w1 3 1 g1 o1 cap1 k ((q.xs.take k).map (Value.int .i64)) → V.heap.size ≤ g1 → RqDone w rb fp { q with xs := q.xs.take k, wrong := closeW f q G, closed := true, fin := f } G (.int .i64 0) (.returned (.int .i64 0)) (w1.setCell ⟨rb, 1, none⟩ (.slice (some ⟨g1, o1, none⟩) k cap1))) := Lib.hid (fun w1 hk g1 o1 cap1 hr hg => by
                  have r := R4.out.kept hk (by simp) (by simp)
                  have hlt := R4.out.lt
                  have hsz := K4.out.size
                  have hkl : (q.xs.take k).length = k := by rw [List.length_take, HL.out]; omega
                  refine ⟨rfl, g1 :: fp, _, gv, r.set 1 _ (by rw [WEQ.out]; rfl) (.inr ⟨g1, o1, cap1, by rw [hkl], by simp, by rw [hkl]; exact hr⟩) (r.gs.fpMono (by simp; exact fun x hx => .inr hx)) (by simp; exact ⟨by omega, r.ne⟩) ?_, (K4.out.trans hk (by simp)).trans (Kept.setCell w1 rb 1 _) (by simp), fun y hy => ?_⟩
                  · intro y hy
                    simp at hy
                    rcases hy with rfl | hy
                    · exact hr.lt
                    · exact r.small y hy
                  · simp at hy
                    rcases hy with rfl | hy
                    · exact .inr (by omega)
                    · exact .inl hy)
                clear R4 K4 KX RX
                refine wp_region_held_drew (S := (fun w' => w'.cell? ⟨rb, 0, none⟩ = some (.int .i64 fst))) (by kernel_rfl) ?_ (fun hHeld => ?_)
                · (try dsimp only); exact CF.out _ KD
                refine wpAnyH_take (i := 0) (v := ?_) rfl (by kernel_rfl) (by kernel_rfl) (by kernel_rfl) (fun _ _ _ h => h) (Or.inl ⟨by rfl, ?_⟩) (by assumption) ?_
                rotate_left; · (intro w hSw; (try dsimp only at hSw); go_simp; try with_reducible rfl)
                (try simp only [Act.put, List.setIfInBounds_toArray, List.set_cons_zero, List.set_cons_succ, List.getElem_toArray, List.getElem_cons_zero, List.getElem_cons_succ])
                refine wpAnyH_take (i := 2) (v := ?_) rfl (by kernel_rfl) (by kernel_rfl) (by kernel_rfl) (fun _ _ _ h => h) (Or.inl ⟨by rfl, ?_⟩) (by assumption) ?_
                rotate_left; · (intro w hSw; (try dsimp only at hSw); go_simp; try with_reducible rfl)
                (try simp only [Act.put, List.setIfInBounds_toArray, List.set_cons_zero, List.set_cons_succ, List.getElem_toArray, List.getElem_cons_zero, List.getElem_cons_succ])
                refine wpAnyH_take (i := 3) (v := ?_) rfl (by kernel_rfl) (by kernel_rfl) (by kernel_rfl) (fun _ _ _ h => h) (Or.inl ⟨by rfl, ?_⟩) (by assumption) ?_
                rotate_left; · (intro w hSw; (try dsimp only at hSw); go_simp; try with_reducible rfl)
                (try simp only [Act.put, List.setIfInBounds_toArray, List.set_cons_zero, List.set_cons_succ, List.getElem_toArray, List.getElem_cons_zero, List.getElem_cons_succ])
                refine wpAnyH_take (i := 4) (v := ?_) rfl (by kernel_rfl) (by kernel_rfl) (by kernel_rfl) (fun _ _ _ h => h) (Or.inl ⟨by rfl, ?_⟩) (by assumption) ?_
                rotate_left; · (intro w hSw; (try dsimp only at hSw); go_simp; try with_reducible rfl)
                (try simp only [Act.put, List.setIfInBounds_toArray, List.set_cons_zero, List.set_cons_succ, List.getElem_toArray, List.getElem_cons_zero, List.getElem_cons_succ])
                refine wpAnyH_take (i := 6) (v := ?_) rfl (by kernel_rfl) (by kernel_rfl) (by kernel_rfl) (fun _ _ _ h => h) (Or.inl ⟨by rfl, ?_⟩) (by assumption) ?_
                rotate_left; · (intro w hSw; (try dsimp only at hSw); go_simp; try with_reducible rfl)
                (try simp only [Act.put, List.setIfInBounds_toArray, List.set_cons_zero, List.set_cons_succ, List.getElem_toArray, List.getElem_cons_zero, List.getElem_cons_succ])
                refine wpAnyH_take (i := 7) (v := ?_) rfl (by kernel_rfl) (by kernel_rfl) (by kernel_rfl) (fun _ _ _ h => h) (Or.inl ⟨by rfl, ?_⟩) (by assumption) ?_
                rotate_left; · (intro w hSw; (try dsimp only at hSw); go_simp; try with_reducible rfl)
                (try simp only [Act.put, List.setIfInBounds_toArray, List.set_cons_zero, List.set_cons_succ, List.getElem_toArray, List.getElem_cons_zero, List.getElem_cons_succ])
                refine wpAnyH_take (i := 8) (v := ?_) rfl (by kernel_rfl) (by kernel_rfl) (by kernel_rfl) (fun _ _ _ h => h) (Or.inl ⟨by rfl, ?_⟩) (by assumption) ?_
                rotate_left; · (intro w hSw; (try dsimp only at hSw); go_simp; try with_reducible rfl)
                (try simp only [Act.put, List.setIfInBounds_toArray, List.set_cons_zero, List.set_cons_succ, List.getElem_toArray, List.getElem_cons_zero, List.getElem_cons_succ])
                refine wpAnyH_take (i := 9) (v := ?_) rfl (by kernel_rfl) (by kernel_rfl) (by kernel_rfl) (fun _ _ _ h => h) (Or.inl ⟨by rfl, ?_⟩) (by assumption) ?_
                rotate_left; · (intro w hSw; (try dsimp only at hSw); go_simp; try with_reducible rfl)
                (try simp only [Act.put, List.setIfInBounds_toArray, List.set_cons_zero, List.set_cons_succ, List.getElem_toArray, List.getElem_cons_zero, List.getElem_cons_succ])
                refine wpAnyH_take (i := 10) (v := ?_) rfl (by kernel_rfl) (by kernel_rfl) (by kernel_rfl) (fun _ _ _ h => h) (Or.inl ⟨by rfl, ?_⟩) (by assumption) ?_
                rotate_left; · (intro w hSw; (try dsimp only at hSw); go_simp; try with_reducible rfl)
                (try simp only [Act.put, List.setIfInBounds_toArray, List.set_cons_zero, List.set_cons_succ, List.getElem_toArray, List.getElem_cons_zero, List.getElem_cons_succ])
                refine wpAnyH_take (i := 11) (v := ?_) rfl (by kernel_rfl) (by kernel_rfl) (by kernel_rfl) (fun _ _ _ h => h) (Or.inl ⟨by rfl, ?_⟩) (by assumption) ?_
                rotate_left; · (intro w hSw; (try dsimp only at hSw); go_simp; try with_reducible rfl)
                (try simp only [Act.put, List.setIfInBounds_toArray, List.set_cons_zero, List.set_cons_succ, List.getElem_toArray, List.getElem_cons_zero, List.getElem_cons_succ])
                refine wpAnyH_take (i := 12) (v := ?_) rfl (by kernel_rfl) (by kernel_rfl) (by kernel_rfl) (fun _ _ _ h => h) (Or.inl ⟨by rfl, ?_⟩) (by assumption) ?_
                rotate_left; · (intro w hSw; (try dsimp only at hSw); go_simp; try with_reducible rfl)
                (try simp only [Act.put, List.setIfInBounds_toArray, List.set_cons_zero, List.set_cons_succ, List.getElem_toArray, List.getElem_cons_zero, List.getElem_cons_succ])
                refine wpAnyH_ready (rs := [1, 5]) (by kernel_rfl) (by simp) ?_
                refine AllReadyH.cons rfl (fun K hK => ?_) ?_
                · (try simp only [List.getElem_toArray, List.getElem_cons_zero, List.getElem_cons_succ])
                  go_simp
                  refine hK.out _ _ ?_ (fun hHeld2 => ?_)
                  · (try dsimp only); exact CF.out _ (Kept.trans KD (show Kept [] (World.drew V) (World.drew (World.alloc V (.cells #[] 3))) from Kept.alloc (World.drew V) (.cells #[] 3)) (by simp))
                  clear hK K hHeld
                  have hHeld := hHeld2
                  clear hHeld2
                  (try simp only [Act.put, List.setIfInBounds_toArray, List.set_cons_zero, List.set_cons_succ, List.getElem_toArray, List.getElem_cons_zero, List.getElem_cons_succ])
                  refine wpAnyH_ready (rs := [5]) (by kernel_rfl) (by simp) ?_
                  refine AllReadyH.cons rfl (fun K hK => ?_) AllReadyH.nil
                  (try simp only [List.getElem_toArray, List.getElem_cons_zero, List.getElem_cons_succ])
                  have c1x : ((World.drew (World.alloc V (.cells #[] 3)))).cell? ⟨rb, 1, none⟩ = some (.slice none 0 0) := (CF1.out _ (Kept.trans KD (show Kept [] (World.drew V) (World.drew (World.alloc V (.cells #[] 3))) from Kept.alloc (World.drew V) (.cells #[] 3)) (by simp))).1
                  go_simp
                  clear c1x
                  refine hK.out _ _ ?_ (fun hHeld2 => ?_)
                  · (try dsimp only); exact CF.out _ (Kept.trans KD (show Kept [] (World.drew V) (World.drew (World.alloc V (.cells #[] 3))) from Kept.alloc (World.drew V) (.cells #[] 3)) (by simp))
                  clear hK K hHeld
                  have hHeld := hHeld2
                  clear hHeld2
                  (try simp only [Act.put, List.setIfInBounds_toArray, List.set_cons_zero, List.set_cons_succ, List.getElem_toArray, List.getElem_cons_zero, List.getElem_cons_succ])
                  refine wpAnyH_take (i := 13) (v := ?_) rfl (by kernel_rfl) (by kernel_rfl) (by kernel_rfl) (fun _ _ _ h => h) (Or.inl ⟨by rfl, ?_⟩) (by assumption) ?_
                  rotate_left; · (intro w hSw; (try dsimp only at hSw); go_simp; try with_reducible rfl)
                  (try simp only [Act.put, List.setIfInBounds_toArray, List.set_cons_zero, List.set_cons_succ, List.getElem_toArray, List.getElem_cons_zero, List.getElem_cons_succ])
                  refine wpAnyH_ready (rs := [14]) (by kernel_rfl) (by simp) ?_
                  refine AllReadyH.cons rfl (fun K hK => ?_) AllReadyH.nil
                  skip
                  have re : RowAt (World.drew (World.alloc V (.cells #[] 3))) 3 1 (World.heap (World.drew V)).size 0 0 0 [] := row_empty (World.drew V) 3 1
                  have se : Src Tryd.prog 1 22 (.slice none 0 0) k ((q.xs.take k).map (Value.int .i64)) (World.drew (World.alloc V (.cells #[] 3))) := SRC.out _ (Kept.trans KD (show Kept [] (World.drew V) (World.drew (World.alloc V (.cells #[] 3))) from Kept.alloc (World.drew V) (.cells #[] 3)) (by simp))
                  refine step_append_q ?qhgd15 ?qs15 ?qx15 22 22 ?qho15 3 (.int .i64 0) 1 8 Tryd.underlying22 info3 rfl ?qg15 0 0 0 [] ?qhsv15 ?qhrow15 (.slice none 0 0) ?qhxv15 k ((q.xs.take k).map (Value.int .i64)) ?qhs15 ?qh115 ?qh215 ?qhh15
                  case qho15 => rfl
                  case qhgd15 => rfl
                  case qhsv15 => rfl
                  case qhxv15 => rfl
                  case qhrow15 => simpa using re
                  case qhs15 => simpa using se
                  case qh115 => simp [maxLen]; omega
                  case qh215 => omega
                  intro g1 o1 cap1 w1 hr1 hgb1 hg1
                  have hgb1' : (World.drew (World.alloc V (.cells #[] 3))).grownBy w1 (some (World.heap (World.drew V)).size) := by simpa using hgb1
                  have hr1' : RowAt w1 3 1 g1 o1 cap1 k ((q.xs.take k).map (Value.int .i64)) := by simpa using hr1
                  have hv1 : V.heap.size ≤ g1 := by rcases hg1 with h | h <;> first | omega | (simp at h; omega)
                  have k1 : Kept [] V w1 := Kept.trans (Kept.trans KD (show Kept [] (World.drew V) (World.drew (World.alloc V (.cells #[] 3))) from Kept.alloc (World.drew V) (.cells #[] 3)) (by simp)) (Kept.of_grown hgb1') (fun x hx => .inr (by simp at hx; subst hx; simp))
                  refine hK.out _ _ ?_ (fun hHeld2 => ?_)
                  · (try dsimp only); exact CF.out _ k1
                  clear hK K hHeld
                  have hHeld := hHeld2
                  clear hHeld2
                  (try simp only [Act.put, List.setIfInBounds_toArray, List.set_cons_zero, List.set_cons_succ, List.getElem_toArray, List.getElem_cons_zero, List.getElem_cons_succ])
                  (try simp only [Nat.zero_add])
                  have d1x := (CF1.out _ k1).1
                  have f1x := (CF1.out _ k1).2
                  refine wpAnyH_take (i := 15) (v := ?_) rfl (by kernel_rfl) (by kernel_rfl) (by kernel_rfl) (fun _ _ _ h => h) (Or.inl ⟨by rfl, ?_⟩) (by assumption) ?_
                  rotate_left; · (intro w hSw; (try dsimp only at hSw); go_simp; try with_reducible rfl)
                  (try simp only [Act.put, List.setIfInBounds_toArray, List.set_cons_zero, List.set_cons_succ, List.getElem_toArray, List.getElem_cons_zero, List.getElem_cons_succ])
                  refine wpAnyH_take (i := 16) (v := ?_) rfl (by kernel_rfl) (by kernel_rfl) (by kernel_rfl) (fun _ _ _ h => h) (Or.inl ⟨by rfl, ?_⟩) (by assumption) ?_
                  rotate_left; · (intro w hSw; (try dsimp only at hSw); go_simp; try with_reducible rfl)
                  (try simp only [Act.put, List.setIfInBounds_toArray, List.set_cons_zero, List.set_cons_succ, List.getElem_toArray, List.getElem_cons_zero, List.getElem_cons_succ])
                  refine wpAnyH_ready (rs := [17]) (by kernel_rfl) (by simp) ?_
                  refine AllReadyH.cons rfl (fun K hK => ?_) AllReadyH.nil
                  (try simp only [List.getElem_toArray, List.getElem_cons_zero, List.getElem_cons_succ])
                  go_simp
                  refine hK.out _ _ ?_ (fun hHeld2 => ?_)
                  · (try dsimp only); exact CF12.out _ _ k1
                  clear hK K hHeld
                  have hHeld := hHeld2
                  clear hHeld2
                  (try simp only [Act.put, List.setIfInBounds_toArray, List.set_cons_zero, List.set_cons_succ, List.getElem_toArray, List.getElem_cons_zero, List.getElem_cons_succ])
                  refine wpAnyH_done (by kernel_rfl) ?_ _
                  have XF := RF.out _ k1 _ _ _ hr1' hv1
                  go_wp2
                  go_ret
                  rw [show Value.slice (some ⟨g1, o1, none⟩) k cap1 = .slice (some ⟨g1, o1, none⟩) 0 cap1 by rw [hk00]] at XF
                  exact XF
                refine AllReadyH.cons rfl (fun K hK => ?_) AllReadyH.nil
                (try simp only [List.getElem_toArray, List.getElem_cons_zero, List.getElem_cons_succ])
                have c1x : ((World.drew V)).cell? ⟨rb, 1, none⟩ = some (.slice none 0 0) := (CF1.out _ KD).1
                go_simp
                clear c1x
                refine hK.out _ _ ?_ (fun hHeld2 => ?_)
                · (try dsimp only); exact CF.out _ KD
                clear hK K hHeld
                have hHeld := hHeld2
                clear hHeld2
                (try simp only [Act.put, List.setIfInBounds_toArray, List.set_cons_zero, List.set_cons_succ, List.getElem_toArray, List.getElem_cons_zero, List.getElem_cons_succ])
                refine wpAnyH_take (i := 13) (v := ?_) rfl (by kernel_rfl) (by kernel_rfl) (by kernel_rfl) (fun _ _ _ h => h) (Or.inl ⟨by rfl, ?_⟩) (by assumption) ?_
                rotate_left; · (intro w hSw; (try dsimp only at hSw); go_simp; try with_reducible rfl)
                (try simp only [Act.put, List.setIfInBounds_toArray, List.set_cons_zero, List.set_cons_succ, List.getElem_toArray, List.getElem_cons_zero, List.getElem_cons_succ])
                refine wpAnyH_ready (rs := [1]) (by kernel_rfl) (by simp) ?_
                refine AllReadyH.cons rfl (fun K hK => ?_) AllReadyH.nil
                (try simp only [List.getElem_toArray, List.getElem_cons_zero, List.getElem_cons_succ])
                go_simp
                refine hK.out _ _ ?_ (fun hHeld2 => ?_)
                · (try dsimp only); exact CF.out _ (Kept.trans KD (show Kept [] (World.drew V) (World.drew (World.alloc V (.cells #[] 3))) from Kept.alloc (World.drew V) (.cells #[] 3)) (by simp))
                clear hK K hHeld
                have hHeld := hHeld2
                clear hHeld2
                (try simp only [Act.put, List.setIfInBounds_toArray, List.set_cons_zero, List.set_cons_succ, List.getElem_toArray, List.getElem_cons_zero, List.getElem_cons_succ])
                refine wpAnyH_ready (rs := [14]) (by kernel_rfl) (by simp) ?_
                refine AllReadyH.cons rfl (fun K hK => ?_) AllReadyH.nil
                skip
                have re : RowAt (World.drew (World.alloc V (.cells #[] 3))) 3 1 (World.heap (World.drew V)).size 0 0 0 [] := row_empty (World.drew V) 3 1
                have se : Src Tryd.prog 1 22 (.slice none 0 0) k ((q.xs.take k).map (Value.int .i64)) (World.drew (World.alloc V (.cells #[] 3))) := SRC.out _ (Kept.trans KD (show Kept [] (World.drew V) (World.drew (World.alloc V (.cells #[] 3))) from Kept.alloc (World.drew V) (.cells #[] 3)) (by simp))
                refine step_append_q ?qhgd16 ?qs16 ?qx16 22 22 ?qho16 3 (.int .i64 0) 1 8 Tryd.underlying22 info3 rfl ?qg16 0 0 0 [] ?qhsv16 ?qhrow16 (.slice none 0 0) ?qhxv16 k ((q.xs.take k).map (Value.int .i64)) ?qhs16 ?qh116 ?qh216 ?qhh16
                case qho16 => rfl
                case qhgd16 => rfl
                case qhsv16 => rfl
                case qhxv16 => rfl
                case qhrow16 => simpa using re
                case qhs16 => simpa using se
                case qh116 => simp [maxLen]; omega
                case qh216 => omega
                intro g1 o1 cap1 w1 hr1 hgb1 hg1
                have hgb1' : (World.drew (World.alloc V (.cells #[] 3))).grownBy w1 (some (World.heap (World.drew V)).size) := by simpa using hgb1
                have hr1' : RowAt w1 3 1 g1 o1 cap1 k ((q.xs.take k).map (Value.int .i64)) := by simpa using hr1
                have hv1 : V.heap.size ≤ g1 := by rcases hg1 with h | h <;> first | omega | (simp at h; omega)
                have k1 : Kept [] V w1 := Kept.trans (Kept.trans KD (show Kept [] (World.drew V) (World.drew (World.alloc V (.cells #[] 3))) from Kept.alloc (World.drew V) (.cells #[] 3)) (by simp)) (Kept.of_grown hgb1') (fun x hx => .inr (by simp at hx; subst hx; simp))
                refine hK.out _ _ ?_ (fun hHeld2 => ?_)
                · (try dsimp only); exact CF.out _ k1
                clear hK K hHeld
                have hHeld := hHeld2
                clear hHeld2
                (try simp only [Act.put, List.setIfInBounds_toArray, List.set_cons_zero, List.set_cons_succ, List.getElem_toArray, List.getElem_cons_zero, List.getElem_cons_succ])
                (try simp only [Nat.zero_add])
                have d1x := (CF1.out _ k1).1
                have f1x := (CF1.out _ k1).2
                refine wpAnyH_take (i := 15) (v := ?_) rfl (by kernel_rfl) (by kernel_rfl) (by kernel_rfl) (fun _ _ _ h => h) (Or.inl ⟨by rfl, ?_⟩) (by assumption) ?_
                rotate_left; · (intro w hSw; (try dsimp only at hSw); go_simp; try with_reducible rfl)
                (try simp only [Act.put, List.setIfInBounds_toArray, List.set_cons_zero, List.set_cons_succ, List.getElem_toArray, List.getElem_cons_zero, List.getElem_cons_succ])
                refine wpAnyH_take (i := 16) (v := ?_) rfl (by kernel_rfl) (by kernel_rfl) (by kernel_rfl) (fun _ _ _ h => h) (Or.inl ⟨by rfl, ?_⟩) (by assumption) ?_
                rotate_left; · (intro w hSw; (try dsimp only at hSw); go_simp; try with_reducible rfl)
                (try simp only [Act.put, List.setIfInBounds_toArray, List.set_cons_zero, List.set_cons_succ, List.getElem_toArray, List.getElem_cons_zero, List.getElem_cons_succ])
                refine wpAnyH_ready (rs := [17]) (by kernel_rfl) (by simp) ?_
                refine AllReadyH.cons rfl (fun K hK => ?_) AllReadyH.nil
                (try simp only [List.getElem_toArray, List.getElem_cons_zero, List.getElem_cons_succ])
                go_simp
                refine hK.out _ _ ?_ (fun hHeld2 => ?_)
                · (try dsimp only); exact CF12.out _ _ k1
                clear hK K hHeld
                have hHeld := hHeld2
                clear hHeld2
                (try simp only [Act.put, List.setIfInBounds_toArray, List.set_cons_zero, List.set_cons_succ, List.getElem_toArray, List.getElem_cons_zero, List.getElem_cons_succ])
                refine wpAnyH_done (by kernel_rfl) ?_ _
                have XF := RF.out _ k1 _ _ _ hr1' hv1
                go_wp2
                go_ret
                rw [show Value.slice (some ⟨g1, o1, none⟩) k cap1 = .slice (some ⟨g1, o1, none⟩) 0 cap1 by rw [hk00]] at XF
                exact XF

theorem rqclose_err (h : RqAt w rb fp sv gv q G) (hok : q.ok) (f : Int) (hx : q.closed = true ∨ f < q.first - 1 ∨ q.last < f) :
    Calls Tryd.prog 50 #[.pointer (some ⟨rb, 0, none⟩), .int .i64 f] w (Reads w (.int .i64 (if q.closed = true then 8 else 1))) := by
  have LA := Lib.hid (rqlast_any h hok)
  obtain ⟨ok1, ok2, ok3⟩ := hok
  have c0 := h.c0
  have c5 := h.c5
  obtain ⟨L, hL⟩ : ∃ x, q.last = x := ⟨_, rfl⟩
  rw [hL] at LA hx
  obtain ⟨fst, hfst⟩ : ∃ x, q.first = x := ⟨_, rfl⟩
  rw [hfst] at c0 ok1 ok2 hx
  obtain ⟨cl, hcl⟩ : ∃ x, q.closed = x := ⟨_, rfl⟩
  rw [hcl] at c5 hx ⊢
  have ew0 : IntKind.i64.wrap (fst - 1) = fst - 1 := IntWalk.i64_in _ (by omega)
  clear h hL hfst hcl
  cases cl
  case true =>
    rw [if_pos rfl]
    clear hx
    go_enter Tryd.func50, Tryd.ntmps50
    go_wp2
    go_ret
    exact ⟨rfl, 0, rfl⟩
  case false =>
    rw [if_neg (by simp)]
    by_cases a1 : f < fst - 1
    · have t1 : decide (f < fst - 1) = true := by simpa using a1
      clear hx a1
      go_enter Tryd.func50, Tryd.ntmps50
      go_wp2
      go_ret
      exact ⟨rfl, 0, rfl⟩
    · have t1 : decide (f < fst - 1) = false := by simpa using a1
      have t2 : decide (L < f) = true := by
        rcases hx with h | h | h
        · cases h
        · exact absurd h a1
        · simpa using h
      clear hx a1
      go_enter Tryd.func50, Tryd.ntmps50
      go_wp2_with fail
      refine LA.out.mono ?_
      rintro e w1 ⟨rfl, k, rfl⟩
      go_wp2
      go_ret
      exact ⟨rfl, k, rfl⟩

theorem rqclose_ok (h : RqAt w rb fp sv gv q G) (hok : q.ok) (hG : G.length ≤ 1000000) (hc : q.closed = false) (f : Int) (k : Nat) (hk : (k : Int) = f - q.first + 1) (hf2 : f ≤ q.last) :
    Calls Tryd.prog 50 #[.pointer (some ⟨rb, 0, none⟩), .int .i64 f] w (RqDone w rb fp { q with xs := q.xs.take k, wrong := closeW f q G, closed := true, fin := f } G (.int .i64 0)) := by
  rcases h.row with ⟨rfl, h0, _⟩ | ⟨g, o, cap, rfl, _, _⟩
  · exact rqclose_nil h hok hG hc f k hk hf2 h0
  · exact rqclose_row h hok hG hc f k hk hf2

end

end Go.Proofs.YtkpbjahjiajodaaDoor
