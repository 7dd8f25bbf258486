/- This text proves what the reference's queue does when it is closed, over the loaded program. -/
import Derived.Test.YtkpbjahjiajodaaDoorRQ5
namespace Go.Proofs.YtkpbjahjiajodaaDoor
open Go.RowKit Go.WideShapes
set_option linter.unusedSimpArgs false

/-- Which frame the guesses blame. -/
def closeG (f : Int) : List (Int × Int) → Int → Int
  | [], b => b
  | p :: r, b => closeG f r (if f < p.1 ∧ p.2 ≠ 0 ∧ (b = 0 ∨ p.1 < b) then p.1 else b)
/-- Which frame the inputs blame. -/
def closeL (f : Int) : List Int → Int → Int → Int
  | [], _, b => b
  | x :: r, a, b => closeL f r (a + 1) (if f < a ∧ x ≠ 0 ∧ (b = 0 ∨ a < b) then a else b)
def closeW (f : Int) (q : Que) (G : List (Int × Int)) : Int := if closeL f q.xs q.first (closeG f G 0) ≠ 0 ∧ (q.wrong = 0 ∨ closeL f q.xs q.first (closeG f G 0) < q.wrong) then closeL f q.xs q.first (closeG f G 0) else q.wrong

/-- append onto a row, as a step of a region that draws. -/
theorem step_append_q {P : Program} {w : World} {ops : Array Oper} {o : Oper} {a : Act} {K : Act → World → Prop} {Q : Exit → Act → World → Prop} {E : Prop} (hgd : o.guard = none) (s x : Operand) (t tx : TypeId)
    (ho : o.op = .call { callee := .builtin .append, args := #[s, x], argTypes := #[t, tx] })
    (e : TypeId) (z : Value) (size bytes : Nat) (ht : P.underlying t = some (.slice e)) (hi : (P.info? e).map (fun i => (i.zero, i.size, i.bytes)) = some (some z, size, bytes)) (hzs : z.cells.size = size)
    (g off cap n : Nat) (xs : List Value) (hsv : a.eval s = .slice (some ⟨g, off, none⟩) n cap) (hrow : RowAt w e size g off cap n xs) (xv : Value) (hxv : a.eval x = xv) (m : Nat) (news : List Value) (hs : Src P size tx xv m news w)
    (h63 : n + m ≤ maxLen) (hbytes : (n + m) * bytes ≤ 140737488355328)
    (h : ∀ g' o' cap' w', RowAt w' e size g' o' cap' (n + m) (xs ++ news) → w.grownBy w' (some g) → (g' = g ∨ g' = w.heap.size) → K (a.put o.dst (.slice (some ⟨g', o', none⟩) (n + m) cap')) w') :
    if Region.wanted o (yielded ops a.tmps) = true then Oper.wp P o a w K Q else E := by
  have hw : Region.wanted o (yielded ops a.tmps) = true := by simp [Region.wanted, hgd]
  rw [if_pos hw]
  obtain ⟨i0, hi0, hz0, hz1, hz2⟩ := info_parts hi
  obtain ⟨g', o', cap', w', hr, h2, h3, h4⟩ := run_append_at (P := P) w t tx o.type e i0 z size bytes ht hi0 hz0 hz1 hz2 hzs g off cap n xs hrow xv m news hs h63 hbytes
  unfold Oper.wp execOp
  simp only [ho, resolve, invoke, builtin, Sem.run_bind, Sem.run_pure, Result.andThen_ok, List.map_toArray, List.map_cons, List.map_nil, hsv, hxv, hr]
  exact h g' o' cap' w' h2 h3 h4

section
variable {w : World} {rb : Nat} {fp : List Nat} {sv gv : Value} {q : Que} {G : List (Int × Int)}

set_option maxRecDepth 100000 in
set_option maxHeartbeats 12800000 in
theorem rqclose_row {g o cap : Nat} (h : RqAt w rb fp (.slice (some ⟨g, o, none⟩) q.xs.length cap) gv q G) (hok : q.ok) (hG : G.length ≤ 1000000) (hc : q.closed = false) (f : Int) (k : Nat) (hk : (k : Int) = f - q.first + 1) (hf2 : f ≤ q.last) :
    Calls Tryd.prog 50 #[.pointer (some ⟨rb, 0, none⟩), .int .i64 f] w (RqDone w rb fp { q with xs := q.xs.take k, wrong := closeW f q G, closed := true, fin := f } G (.int .i64 0)) := by
  have LA := Lib.hid (rqlast_any h hok)
  obtain ⟨ok1, ok2, ok3⟩ := hok
  have hkl : k ≤ q.xs.length := by unfold Que.last at hf2; omega
  obtain ⟨L, hL⟩ : ∃ x, q.last = x := ⟨_, rfl⟩
  rw [hL] at LA hf2
  obtain ⟨l, hl⟩ : ∃ l, q.xs.length = l := ⟨_, rfl⟩
  have HL := Lib.hid hl
  obtain ⟨fst, hfst⟩ : ∃ x, q.first = x := ⟨_, rfl⟩
  have FST := Lib.hid hfst
  have c0 := h.c0
  have c5 := h.c5
  rw [hc] at c5
  rw [hfst] at c0 ok1 ok2 hk
  rw [hl] at ok2 ok3 hkl
  obtain ⟨n, hn⟩ : ∃ n, G.length = n := ⟨_, rfl⟩
  have HN := Lib.hid hn
  rw [hn] at hG
  have H0 := Lib.hid h
  rw [hl] at H0
  have hkc : (k : Int) ≤ (cap : Int) := by
    rcases h.row with ⟨h0, _, _⟩ | ⟨g', o', cap', h1, _, h3⟩
    · cases h0
    · cases h1
      have := h3.2.1
      omega
  obtain ⟨B1, hB1⟩ : ∃ B1, closeG f G 0 = B1 := ⟨_, rfl⟩
  have HB1 := Lib.hid hB1
  obtain ⟨B2, hB2⟩ : ∃ B2, closeL f q.xs q.first B1 = B2 := ⟨_, rfl⟩
  have HB2 := Lib.hid hB2
  have t1 : decide (f < fst - 1) = false := by simp; omega
  have t2 : decide (L < f) = false := by simp; omega
  have ew0 : IntKind.i64.wrap (fst - 1) = fst - 1 := IntWalk.i64_in _ (by omega)
  have ew1 : IntKind.i64.wrap (f - fst) = f - fst := IntWalk.i64_in _ (by omega)
  have ew2 : IntKind.i64.wrap (f - fst + 1) = (k : Int) := by rw [← hk]; exact IntWalk.i64_in _ (by omega)
  have hki : (k : Int) ≤ (l : Int) := by omega
  have hk0 : (0 : Int) ≤ (k : Int) := by omega
  clear h hc hL hl hfst hn hB1 hB2 hk
  go_enter Tryd.func50, Tryd.ntmps50
  go_wp2_with fail
  refine LA.out.mono ?_
  rintro e w1 ⟨rfl, kd, rfl⟩
  obtain ⟨V0, hV0⟩ : ∃ V0, V0 = w.drewN kd := ⟨_, rfl⟩
  rw [← hV0]
  have R0 : Hid (RqAt V0 rb fp (.slice (some ⟨g, o, none⟩) l cap) gv q G) := Lib.hid (by rw [hV0]; exact H0.out.drewN kd)
  have K0 : Hid (Kept [rb] w V0) := Lib.hid (by rw [hV0]; exact Kept.drewN [rb] w kd)
  obtain ⟨B, gcap, hgv⟩ := R0.out.gs.lens
  rw [HN.out] at hgv
  have hGV := Lib.hid hgv
  have c2 := R0.out.c2
  rw [hgv] at c2
  have c0 := R0.out.c0
  rw [FST.out] at c0
  have c1 := R0.out.c1
  clear hV0 hgv
  dsimp only
  go_wp2_with fail
  go_loopw [5, 6] (fun bv iv wz => ∃ i : Nat, i ≤ n ∧ iv = .int .i64 i ∧ ∃ b, bv = .int .i64 b ∧ wz = V0 ∧ closeG f (G.drop i) b = B1) (fun _ iv _ => n - (intOf iv).toNat)
  case atStart => exact ⟨0, Nat.zero_le _, rfl, 0, rfl, rfl, HB1.out⟩
  case round =>
    obtain ⟨i, hi, rfl, b, rfl, hwz, hP⟩ := hrel
    obtain rfl := hwz.symm
    have PP := Lib.hid hP
    clear hP
    by_cases hin : i < n
    · obtain ⟨p, hp⟩ : ∃ p, G[i]? = some p := ⟨G[i]'(by rw [HN.out]; exact hin), by simp [HN.out, hin]⟩
      obtain ⟨ga, gb⟩ := gCells_at G i p hp
      obtain ⟨gg, go, gc, hBe, _, m0⟩ := R0.out.gs.at _ _ ga
      obtain ⟨gg', go', gc', hBe', _, m1⟩ := R0.out.gs.at _ _ gb
      rw [HN.out, hGV.out] at hBe hBe'
      cases hBe
      cases hBe'
      rw [← Nat.add_assoc] at m1
      have hd : G.drop i = p :: G.drop (i + 1) := by
        obtain ⟨h1, h2⟩ := List.getElem?_eq_some_iff.1 hp
        rw [List.drop_eq_getElem_cons h1, h2]
      have PS : Hid (closeG f (G.drop (i + 1)) (if f < p.1 ∧ p.2 ≠ 0 ∧ (b = 0 ∨ p.1 < b) then p.1 else b) = B1) := Lib.hid (by have := PP.out; rw [hd] at this; exact this)
      have hi0 : (0 : Int) ≤ (i : Int) := by omega
      have hi1 : (i : Int) < (n : Int) := by omega
      have ei : IntKind.i64.wrap ((i : Int) + 1) = (i : Int) + 1 := IntWalk.i64_in _ (by omega)
      obtain ⟨p1, p2⟩ := p
      simp only at m0 m1 PS
      clear hp ga gb hd PP
      by_cases a1 : f < p1
      · have s1 : decide (f < p1) = true := by simpa using a1
        by_cases a2 : p2 = 0
        · subst a2
          rw [if_neg (fun e => e.2.1 rfl)] at PS
          clear a1
          go_wp2_with fail
          exact ⟨⟨i + 1, by omega, by go_num, b, rfl, by first | rfl | trivial, PS.out⟩, by simp [intOf]; omega⟩
        · have s2 : (p2 != 0) = true := by simpa using a2
          by_cases a3 : b = 0
          · subst a3
            rw [if_pos ⟨a1, a2, .inl rfl⟩] at PS
            clear a1 a2
            go_wp2_with fail
            exact ⟨⟨i + 1, by omega, by go_num, p1, rfl, by first | rfl | trivial, PS.out⟩, by simp [intOf]; omega⟩
          · have s3 : (b == 0) = false := by simpa using a3
            by_cases a4 : p1 < b
            · rw [if_pos ⟨a1, a2, .inr a4⟩] at PS
              have s4 : decide (p1 < b) = true := by simpa using a4
              clear a1 a2 a3 a4
              go_wp2_with fail
              exact ⟨⟨i + 1, by omega, by go_num, p1, rfl, by first | rfl | trivial, PS.out⟩, by simp [intOf]; omega⟩
            · rw [if_neg (fun e => by rcases e.2.2 with e | e; exact a3 e; exact a4 e)] at PS
              have s4 : decide (p1 < b) = false := by simpa using a4
              clear a1 a2 a3 a4
              go_wp2_with fail
              exact ⟨⟨i + 1, by omega, by go_num, b, rfl, by first | rfl | trivial, PS.out⟩, by simp [intOf]; omega⟩
      · have s1 : decide (f < p1) = false := by simpa using a1
        rw [if_neg (fun e => a1 e.1)] at PS
        clear a1
        go_wp2_with fail
        exact ⟨⟨i + 1, by omega, by go_num, b, rfl, by first | rfl | trivial, PS.out⟩, by simp [intOf]; omega⟩
    · have hi2 : (n : Int) ≤ (i : Int) := by omega
      have PE : b = B1 := by
        have := PP.out
        rw [List.drop_of_length_le (by rw [HN.out]; omega)] at this
        exact this
      subst PE
      clear hin PP
      go_wp2_with fail
      go_loopw [5, 7] (fun bv iv wz => ∃ i : Nat, i ≤ l ∧ iv = .int .i64 i ∧ ∃ c, bv = .int .i64 c ∧ wz = V0 ∧ closeL f (q.xs.drop i) (fst + i) c = B2) (fun _ iv _ => l - (intOf iv).toNat)
      case atStart => exact ⟨0, Nat.zero_le _, rfl, b, rfl, rfl, by have := HB2.out; rw [FST.out] at this; simpa using this⟩
      case round =>
        obtain ⟨i, hi, rfl, c, rfl, hwz, hP⟩ := hrel
        obtain rfl := hwz.symm
        have PP := Lib.hid hP
        clear hP
        by_cases hil : i < l
        · have hd : q.xs.drop i = q.xs.getD i 0 :: q.xs.drop (i + 1) := by
            have hl' : i < q.xs.length := by rw [HL.out]; exact hil
            rw [List.drop_eq_getElem_cons hl', List.getD, List.getElem?_eq_getElem hl']; rfl
          obtain ⟨g9, o9, cap9, hAe, _, m0⟩ := R0.out.row.at i (.int .i64 (q.xs.getD i 0)) (by rw [List.getElem?_map, List.getD, List.getElem?_eq_getElem (by rw [HL.out]; exact hil)]; rfl)
          rw [HL.out] at hAe
          cases hAe
          obtain ⟨y, hy⟩ : ∃ y, q.xs.getD i 0 = y := ⟨_, rfl⟩
          rw [hy] at m0 hd
          obtain ⟨a, ha⟩ : ∃ a, fst + (i : Int) = a := ⟨_, rfl⟩
          have PS : Hid (closeL f (q.xs.drop (i + 1)) (fst + ((i + 1 : Nat) : Int)) (if f < a ∧ y ≠ 0 ∧ (c = 0 ∨ a < c) then a else c) = B2) := Lib.hid (by
            have := PP.out
            rw [hd, ha] at this
            rw [show fst + ((i + 1 : Nat) : Int) = a + 1 by omega]
            exact this)
          have hi0 : (0 : Int) ≤ (i : Int) := by omega
          have hi1 : (i : Int) < (l : Int) := by omega
          have ei : IntKind.i64.wrap ((i : Int) + 1) = (i : Int) + 1 := IntWalk.i64_in _ (by omega)
          have ea : IntKind.i64.wrap (fst + (i : Int)) = a := by rw [ha]; exact IntWalk.i64_in _ (by omega)
          clear hd hy PP
          by_cases a1 : f < a
          · have s1 : decide (f < a) = true := by simpa using a1
            by_cases a2 : y = 0
            · subst a2
              rw [if_neg (fun e => e.2.1 rfl)] at PS
              clear a1
              go_wp2_with fail
              exact ⟨⟨i + 1, by omega, by go_num, c, rfl, by first | rfl | trivial, PS.out⟩, by simp [intOf]; omega⟩
            · have s2 : (y != 0) = true := by simpa using a2
              by_cases a3 : c = 0
              · subst a3
                rw [if_pos ⟨a1, a2, .inl rfl⟩] at PS
                clear a1 a2
                go_wp2_with fail
                exact ⟨⟨i + 1, by omega, by go_num, a, rfl, by first | rfl | trivial, PS.out⟩, by simp [intOf]; omega⟩
              · have s3 : (c == 0) = false := by simpa using a3
                by_cases a4 : a < c
                · rw [if_pos ⟨a1, a2, .inr a4⟩] at PS
                  have s4 : decide (a < c) = true := by simpa using a4
                  clear a1 a2 a3 a4
                  go_wp2_with fail
                  exact ⟨⟨i + 1, by omega, by go_num, a, rfl, by first | rfl | trivial, PS.out⟩, by simp [intOf]; omega⟩
                · rw [if_neg (fun e => by rcases e.2.2 with e | e; exact a3 e; exact a4 e)] at PS
                  have s4 : decide (a < c) = false := by simpa using a4
                  clear a1 a2 a3 a4
                  go_wp2_with fail
                  exact ⟨⟨i + 1, by omega, by go_num, c, rfl, by first | rfl | trivial, PS.out⟩, by simp [intOf]; omega⟩
          · have s1 : decide (f < a) = false := by simpa using a1
            rw [if_neg (fun e => a1 e.1)] at PS
            clear a1
            go_wp2_with fail
            exact ⟨⟨i + 1, by omega, by go_num, c, rfl, by first | rfl | trivial, PS.out⟩, by simp [intOf]; omega⟩
        · have hi2 : (l : Int) ≤ (i : Int) := by omega
          have PE : c = B2 := by
            have := PP.out
            rw [List.drop_of_length_le (by rw [HL.out]; omega)] at this
            exact this
          subst PE
          clear hil PP
          have c3 := R0.out.c3
          have f3 := R0.out.f 3
          obtain ⟨wr0, hwr⟩ : ∃ x, q.wrong = x := ⟨_, rfl⟩
          have WRH := Lib.hid hwr
          rw [hwr] at c3
          by_cases b1 : c = 0
          · subst b1
            have WEQ : Hid (closeW f q G = wr0) := Lib.hid (by unfold closeW; rw [HB1.out, HB2.out, if_neg (fun e => e.1 rfl)]; exact WRH.out)
            have RX : Hid (RqAt V0 rb fp (.slice (some ⟨g, o, none⟩) l cap) gv { q with wrong := wr0 } G) := Lib.hid (by rw [← WRH.out]; exact R0.out)
            have KX := K0
            clear hwr
            have c5x := RX.out.c5
            have f5x := RX.out.f 5
            have R5 := RX.out.set 5 (.bool true) (q' := { q with wrong := wr0, closed := true }) (sv' := (.slice (some ⟨g, o, none⟩) l cap)) (gv' := gv) (G' := G) rfl RX.out.row RX.out.gs RX.out.ne RX.out.small
            have c4x := R5.c4
            have f4x := R5.f 4
            have R4 : Hid (RqAt ((V0.setCell ⟨rb, 5, none⟩ (.bool true)).setCell ⟨rb, 4, none⟩ (.int .i64 f)) rb fp (.slice (some ⟨g, o, none⟩) l cap) gv { q with wrong := wr0, closed := true, fin := f } G) := Lib.hid (R5.set 4 (.int .i64 f) rfl R5.row R5.gs R5.ne R5.small)
            have K4 : Hid (Kept [rb] w ((V0.setCell ⟨rb, 5, none⟩ (.bool true)).setCell ⟨rb, 4, none⟩ (.int .i64 f))) := Lib.hid ((KX.out.trans (Kept.setCell V0 rb 5 (.bool true)) (by simp)).trans (Kept.setCell _ rb 4 (.int .i64 f)) (by simp))
            clear R5
            go_wp2_with fail
            obtain ⟨V, hV⟩ : ∃ V, V = (V0.setCell ⟨rb, 5, none⟩ (.bool true)).setCell ⟨rb, 4, none⟩ (.int .i64 f) := ⟨_, rfl⟩
            rw [← hV] at R4 K4 ⊢
            clear hV c5x f5x c4x f4x
            have KD : Kept [] V V.drew := (Kept.refl [] V).drew
            have CF : Hid (∀ wx, Kept [] V wx → wx.cell? ⟨rb, 0, none⟩ = some (.int .i64 fst)) := Lib.hid (fun wx hk => by
              have := (R4.out.kept hk (by simp) (by simp)).c0
              rw [← FST.out]
              exact this)
            have CF12 : Hid (∀ wx v, Kept [] V wx → (wx.setCell ⟨rb, 1, none⟩ v).cell? ⟨rb, 0, none⟩ = some (.int .i64 fst)) := Lib.hid (fun wx v hk => by
              have hc := (R4.out.kept hk (by simp) (by simp)).cell
              rw [World.cell?, heap_setCell_at hc, ← FST.out]
              rfl)
            have CF1 : Hid (∀ wx, Kept [] V wx → wx.cell? ⟨rb, 1, none⟩ = some (.slice (some ⟨g, o, none⟩) l cap) ∧ wx.frozen? ⟨rb, 1, none⟩ = false) := Lib.hid (fun wx hk => by
              have r := R4.out.kept hk (by simp) (by simp)
              exact ⟨r.c1, r.f 1⟩)
            have SRC : Hid (∀ wx, Kept [] V wx → Src Tryd.prog 1 22 (.slice (some ⟨g, o, none⟩) k cap) k ((q.xs.take k).map (Value.int .i64)) wx) := Lib.hid (fun wx hk => by
              have r := R4.out.kept hk (by simp) (by simp)
              have hrow : RowAt wx 3 1 g o cap l (q.xs.map (Value.int .i64)) := by
                rcases r.row with ⟨h0, _, _⟩ | ⟨g', o', cap', h1, _, h3⟩
                · cases h0
                · simp only at h1 h3
                  rw [HL.out] at h1 h3
                  cases h1
                  exact h3
              have ht := hrow.takeCap (k := k) (by omega)
              rw [← List.map_take] at ht
              exact RowN.src (.inr ⟨g, o, cap, rfl, List.mem_singleton.2 rfl, ht⟩) (int_one _ _) Tryd.underlying22)
            have RF : Hid (∀ w1, Kept [] V w1 → ∀ g1 o1 cap1, RowAt w1 3 1 g1 o1 cap1 k ((q.xs.take k).map (Value.int .i64)) → V.heap.size ≤ g1 → RqDone w rb fp { q with xs := q.xs.take k, wrong := closeW f q G, closed := true, fin := f } G (.int .i64 0) (.returned (.int .i64 0)) (w1.setCell ⟨rb, 1, none⟩ (.slice (some ⟨g1, o1, none⟩) k cap1))) := Lib.hid (fun w1 hk g1 o1 cap1 hr hg => by
              have r := R4.out.kept hk (by simp) (by simp)
              have hlt := R4.out.lt
              have hsz := K4.out.size
              have hkl : (q.xs.take k).length = k := by rw [List.length_take, HL.out]; omega
              refine ⟨rfl, g1 :: fp, _, gv, r.set 1 _ (by rw [WEQ.out]; rfl) (.inr ⟨g1, o1, cap1, by rw [hkl], by simp, by rw [hkl]; exact hr⟩) (r.gs.fpMono (by simp; exact fun x hx => .inr hx)) (by simp; exact ⟨by omega, r.ne⟩) ?_, (K4.out.trans hk (by simp)).trans (Kept.setCell w1 rb 1 _) (by simp), fun y hy => ?_⟩
              · intro y hy
                simp at hy
                rcases hy with rfl | hy
                · exact hr.lt
                · exact r.small y hy
              · simp at hy
                rcases hy with rfl | hy
                · exact .inr (by omega)
                · exact .inl hy)
            clear R4 K4 KX RX
            refine wp_region_held_drew (S := (fun w' => w'.cell? ⟨rb, 0, none⟩ = some (.int .i64 fst))) (by kernel_rfl) ?_ (fun hHeld => ?_)
            · (try dsimp only); exact CF.out _ KD
            refine wpAnyH_take (i := 0) (v := ?_) rfl (by kernel_rfl) (by kernel_rfl) (by kernel_rfl) (fun _ _ _ h => h) (Or.inl ⟨by rfl, ?_⟩) (by assumption) ?_
            rotate_left; · (intro w hSw; (try dsimp only at hSw); go_simp; try with_reducible rfl)
            (try simp only [Act.put, List.setIfInBounds_toArray, List.set_cons_zero, List.set_cons_succ, List.getElem_toArray, List.getElem_cons_zero, List.getElem_cons_succ])
            refine wpAnyH_take (i := 2) (v := ?_) rfl (by kernel_rfl) (by kernel_rfl) (by kernel_rfl) (fun _ _ _ h => h) (Or.inl ⟨by rfl, ?_⟩) (by assumption) ?_
            rotate_left; · (intro w hSw; (try dsimp only at hSw); go_simp; try with_reducible rfl)
            (try simp only [Act.put, List.setIfInBounds_toArray, List.set_cons_zero, List.set_cons_succ, List.getElem_toArray, List.getElem_cons_zero, List.getElem_cons_succ])
            refine wpAnyH_take (i := 3) (v := ?_) rfl (by kernel_rfl) (by kernel_rfl) (by kernel_rfl) (fun _ _ _ h => h) (Or.inl ⟨by rfl, ?_⟩) (by assumption) ?_
            rotate_left; · (intro w hSw; (try dsimp only at hSw); go_simp; try with_reducible rfl)
            (try simp only [Act.put, List.setIfInBounds_toArray, List.set_cons_zero, List.set_cons_succ, List.getElem_toArray, List.getElem_cons_zero, List.getElem_cons_succ])
            refine wpAnyH_take (i := 4) (v := ?_) rfl (by kernel_rfl) (by kernel_rfl) (by kernel_rfl) (fun _ _ _ h => h) (Or.inl ⟨by rfl, ?_⟩) (by assumption) ?_
            rotate_left; · (intro w hSw; (try dsimp only at hSw); go_simp; try with_reducible rfl)
            (try simp only [Act.put, List.setIfInBounds_toArray, List.set_cons_zero, List.set_cons_succ, List.getElem_toArray, List.getElem_cons_zero, List.getElem_cons_succ])
            refine wpAnyH_take (i := 6) (v := ?_) rfl (by kernel_rfl) (by kernel_rfl) (by kernel_rfl) (fun _ _ _ h => h) (Or.inl ⟨by rfl, ?_⟩) (by assumption) ?_
            rotate_left; · (intro w hSw; (try dsimp only at hSw); go_simp; try with_reducible rfl)
            (try simp only [Act.put, List.setIfInBounds_toArray, List.set_cons_zero, List.set_cons_succ, List.getElem_toArray, List.getElem_cons_zero, List.getElem_cons_succ])
            refine wpAnyH_take (i := 7) (v := ?_) rfl (by kernel_rfl) (by kernel_rfl) (by kernel_rfl) (fun _ _ _ h => h) (Or.inl ⟨by rfl, ?_⟩) (by assumption) ?_
            rotate_left; · (intro w hSw; (try dsimp only at hSw); go_simp; try with_reducible rfl)
            (try simp only [Act.put, List.setIfInBounds_toArray, List.set_cons_zero, List.set_cons_succ, List.getElem_toArray, List.getElem_cons_zero, List.getElem_cons_succ])
            refine wpAnyH_take (i := 8) (v := ?_) rfl (by kernel_rfl) (by kernel_rfl) (by kernel_rfl) (fun _ _ _ h => h) (Or.inl ⟨by rfl, ?_⟩) (by assumption) ?_
            rotate_left; · (intro w hSw; (try dsimp only at hSw); go_simp; try with_reducible rfl)
            (try simp only [Act.put, List.setIfInBounds_toArray, List.set_cons_zero, List.set_cons_succ, List.getElem_toArray, List.getElem_cons_zero, List.getElem_cons_succ])
            refine wpAnyH_take (i := 9) (v := ?_) rfl (by kernel_rfl) (by kernel_rfl) (by kernel_rfl) (fun _ _ _ h => h) (Or.inl ⟨by rfl, ?_⟩) (by assumption) ?_
            rotate_left; · (intro w hSw; (try dsimp only at hSw); go_simp; try with_reducible rfl)
            (try simp only [Act.put, List.setIfInBounds_toArray, List.set_cons_zero, List.set_cons_succ, List.getElem_toArray, List.getElem_cons_zero, List.getElem_cons_succ])
            refine wpAnyH_take (i := 10) (v := ?_) rfl (by kernel_rfl) (by kernel_rfl) (by kernel_rfl) (fun _ _ _ h => h) (Or.inl ⟨by rfl, ?_⟩) (by assumption) ?_
            rotate_left; · (intro w hSw; (try dsimp only at hSw); go_simp; try with_reducible rfl)
            (try simp only [Act.put, List.setIfInBounds_toArray, List.set_cons_zero, List.set_cons_succ, List.getElem_toArray, List.getElem_cons_zero, List.getElem_cons_succ])
            refine wpAnyH_take (i := 11) (v := ?_) rfl (by kernel_rfl) (by kernel_rfl) (by kernel_rfl) (fun _ _ _ h => h) (Or.inl ⟨by rfl, ?_⟩) (by assumption) ?_
            rotate_left; · (intro w hSw; (try dsimp only at hSw); go_simp; try with_reducible rfl)
            (try simp only [Act.put, List.setIfInBounds_toArray, List.set_cons_zero, List.set_cons_succ, List.getElem_toArray, List.getElem_cons_zero, List.getElem_cons_succ])
            refine wpAnyH_take (i := 12) (v := ?_) rfl (by kernel_rfl) (by kernel_rfl) (by kernel_rfl) (fun _ _ _ h => h) (Or.inl ⟨by rfl, ?_⟩) (by assumption) ?_
            rotate_left; · (intro w hSw; (try dsimp only at hSw); go_simp; try with_reducible rfl)
            (try simp only [Act.put, List.setIfInBounds_toArray, List.set_cons_zero, List.set_cons_succ, List.getElem_toArray, List.getElem_cons_zero, List.getElem_cons_succ])
            refine wpAnyH_ready (rs := [1, 5]) (by kernel_rfl) (by simp) ?_
            refine AllReadyH.cons rfl (fun K hK => ?_) ?_
            · (try simp only [List.getElem_toArray, List.getElem_cons_zero, List.getElem_cons_succ])
              go_simp
              refine hK.out _ _ ?_ (fun hHeld2 => ?_)
              · (try dsimp only); exact CF.out _ (Kept.trans KD (show Kept [] (World.drew V) (World.drew (World.alloc V (.cells #[] 3))) from Kept.alloc (World.drew V) (.cells #[] 3)) (by simp))
              clear hK K hHeld
              have hHeld := hHeld2
              clear hHeld2
              (try simp only [Act.put, List.setIfInBounds_toArray, List.set_cons_zero, List.set_cons_succ, List.getElem_toArray, List.getElem_cons_zero, List.getElem_cons_succ])
              refine wpAnyH_ready (rs := [5]) (by kernel_rfl) (by simp) ?_
              refine AllReadyH.cons rfl (fun K hK => ?_) AllReadyH.nil
              (try simp only [List.getElem_toArray, List.getElem_cons_zero, List.getElem_cons_succ])
              have c1x : ((World.drew (World.alloc V (.cells #[] 3)))).cell? ⟨rb, 1, none⟩ = some (.slice (some ⟨g, o, none⟩) l cap) := (CF1.out _ (Kept.trans KD (show Kept [] (World.drew V) (World.drew (World.alloc V (.cells #[] 3))) from Kept.alloc (World.drew V) (.cells #[] 3)) (by simp))).1
              go_simp
              clear c1x
              refine hK.out _ _ ?_ (fun hHeld2 => ?_)
              · (try dsimp only); exact CF.out _ (Kept.trans KD (show Kept [] (World.drew V) (World.drew (World.alloc V (.cells #[] 3))) from Kept.alloc (World.drew V) (.cells #[] 3)) (by simp))
              clear hK K hHeld
              have hHeld := hHeld2
              clear hHeld2
              (try simp only [Act.put, List.setIfInBounds_toArray, List.set_cons_zero, List.set_cons_succ, List.getElem_toArray, List.getElem_cons_zero, List.getElem_cons_succ])
              refine wpAnyH_take (i := 13) (v := ?_) rfl (by kernel_rfl) (by kernel_rfl) (by kernel_rfl) (fun _ _ _ h => h) (Or.inl ⟨by rfl, ?_⟩) (by assumption) ?_
              rotate_left; · (intro w hSw; (try dsimp only at hSw); go_simp; try with_reducible rfl)
              (try simp only [Act.put, List.setIfInBounds_toArray, List.set_cons_zero, List.set_cons_succ, List.getElem_toArray, List.getElem_cons_zero, List.getElem_cons_succ])
              refine wpAnyH_ready (rs := [14]) (by kernel_rfl) (by simp) ?_
              refine AllReadyH.cons rfl (fun K hK => ?_) AllReadyH.nil
              skip
              have re : RowAt (World.drew (World.alloc V (.cells #[] 3))) 3 1 (World.heap (World.drew V)).size 0 0 0 [] := row_empty (World.drew V) 3 1
              have se : Src Tryd.prog 1 22 (.slice (some ⟨g, o, none⟩) k cap) k ((q.xs.take k).map (Value.int .i64)) (World.drew (World.alloc V (.cells #[] 3))) := SRC.out _ (Kept.trans KD (show Kept [] (World.drew V) (World.drew (World.alloc V (.cells #[] 3))) from Kept.alloc (World.drew V) (.cells #[] 3)) (by simp))
              refine step_append_q ?qhgd1 ?qs1 ?qx1 22 22 ?qho1 3 (.int .i64 0) 1 8 Tryd.underlying22 info3 rfl ?qg1 0 0 0 [] ?qhsv1 ?qhrow1 (.slice (some ⟨g, o, none⟩) k cap) ?qhxv1 k ((q.xs.take k).map (Value.int .i64)) ?qhs1 ?qh11 ?qh21 ?qhh1
              case qho1 => rfl
              case qhgd1 => rfl
              case qhsv1 => rfl
              case qhxv1 => rfl
              case qhrow1 => simpa using re
              case qhs1 => simpa using se
              case qh11 => simp [maxLen]; omega
              case qh21 => omega
              intro g1 o1 cap1 w1 hr1 hgb1 hg1
              have hgb1' : (World.drew (World.alloc V (.cells #[] 3))).grownBy w1 (some (World.heap (World.drew V)).size) := by simpa using hgb1
              have hr1' : RowAt w1 3 1 g1 o1 cap1 k ((q.xs.take k).map (Value.int .i64)) := by simpa using hr1
              have hv1 : V.heap.size ≤ g1 := by rcases hg1 with h | h <;> first | omega | (simp at h; omega)
              have k1 : Kept [] V w1 := Kept.trans (Kept.trans KD (show Kept [] (World.drew V) (World.drew (World.alloc V (.cells #[] 3))) from Kept.alloc (World.drew V) (.cells #[] 3)) (by simp)) (Kept.of_grown hgb1') (fun x hx => .inr (by simp at hx; subst hx; simp))
              refine hK.out _ _ ?_ (fun hHeld2 => ?_)
              · (try dsimp only); exact CF.out _ k1
              clear hK K hHeld
              have hHeld := hHeld2
              clear hHeld2
              (try simp only [Act.put, List.setIfInBounds_toArray, List.set_cons_zero, List.set_cons_succ, List.getElem_toArray, List.getElem_cons_zero, List.getElem_cons_succ])
              (try simp only [Nat.zero_add])
              have d1x := (CF1.out _ k1).1
              have f1x := (CF1.out _ k1).2
              refine wpAnyH_take (i := 15) (v := ?_) rfl (by kernel_rfl) (by kernel_rfl) (by kernel_rfl) (fun _ _ _ h => h) (Or.inl ⟨by rfl, ?_⟩) (by assumption) ?_
              rotate_left; · (intro w hSw; (try dsimp only at hSw); go_simp; try with_reducible rfl)
              (try simp only [Act.put, List.setIfInBounds_toArray, List.set_cons_zero, List.set_cons_succ, List.getElem_toArray, List.getElem_cons_zero, List.getElem_cons_succ])
              refine wpAnyH_take (i := 16) (v := ?_) rfl (by kernel_rfl) (by kernel_rfl) (by kernel_rfl) (fun _ _ _ h => h) (Or.inl ⟨by rfl, ?_⟩) (by assumption) ?_
              rotate_left; · (intro w hSw; (try dsimp only at hSw); go_simp; try with_reducible rfl)
              (try simp only [Act.put, List.setIfInBounds_toArray, List.set_cons_zero, List.set_cons_succ, List.getElem_toArray, List.getElem_cons_zero, List.getElem_cons_succ])
              refine wpAnyH_ready (rs := [17]) (by kernel_rfl) (by simp) ?_
              refine AllReadyH.cons rfl (fun K hK => ?_) AllReadyH.nil
              (try simp only [List.getElem_toArray, List.getElem_cons_zero, List.getElem_cons_succ])
              go_simp
              refine hK.out _ _ ?_ (fun hHeld2 => ?_)
              · (try dsimp only); exact CF12.out _ _ k1
              clear hK K hHeld
              have hHeld := hHeld2
              clear hHeld2
              (try simp only [Act.put, List.setIfInBounds_toArray, List.set_cons_zero, List.set_cons_succ, List.getElem_toArray, List.getElem_cons_zero, List.getElem_cons_succ])
              refine wpAnyH_done (by kernel_rfl) ?_ _
              have XF := RF.out _ k1 _ _ _ hr1' hv1
              go_wp2
              go_ret
              exact XF
            refine AllReadyH.cons rfl (fun K hK => ?_) AllReadyH.nil
            (try simp only [List.getElem_toArray, List.getElem_cons_zero, List.getElem_cons_succ])
            have c1x : ((World.drew V)).cell? ⟨rb, 1, none⟩ = some (.slice (some ⟨g, o, none⟩) l cap) := (CF1.out _ KD).1
            go_simp
            clear c1x
            refine hK.out _ _ ?_ (fun hHeld2 => ?_)
            · (try dsimp only); exact CF.out _ KD
            clear hK K hHeld
            have hHeld := hHeld2
            clear hHeld2
            (try simp only [Act.put, List.setIfInBounds_toArray, List.set_cons_zero, List.set_cons_succ, List.getElem_toArray, List.getElem_cons_zero, List.getElem_cons_succ])
            refine wpAnyH_take (i := 13) (v := ?_) rfl (by kernel_rfl) (by kernel_rfl) (by kernel_rfl) (fun _ _ _ h => h) (Or.inl ⟨by rfl, ?_⟩) (by assumption) ?_
            rotate_left; · (intro w hSw; (try dsimp only at hSw); go_simp; try with_reducible rfl)
            (try simp only [Act.put, List.setIfInBounds_toArray, List.set_cons_zero, List.set_cons_succ, List.getElem_toArray, List.getElem_cons_zero, List.getElem_cons_succ])
            refine wpAnyH_ready (rs := [1]) (by kernel_rfl) (by simp) ?_
            refine AllReadyH.cons rfl (fun K hK => ?_) AllReadyH.nil
            (try simp only [List.getElem_toArray, List.getElem_cons_zero, List.getElem_cons_succ])
            go_simp
            refine hK.out _ _ ?_ (fun hHeld2 => ?_)
            · (try dsimp only); exact CF.out _ (Kept.trans KD (show Kept [] (World.drew V) (World.drew (World.alloc V (.cells #[] 3))) from Kept.alloc (World.drew V) (.cells #[] 3)) (by simp))
            clear hK K hHeld
            have hHeld := hHeld2
            clear hHeld2
            (try simp only [Act.put, List.setIfInBounds_toArray, List.set_cons_zero, List.set_cons_succ, List.getElem_toArray, List.getElem_cons_zero, List.getElem_cons_succ])
            refine wpAnyH_ready (rs := [14]) (by kernel_rfl) (by simp) ?_
            refine AllReadyH.cons rfl (fun K hK => ?_) AllReadyH.nil
            skip
            have re : RowAt (World.drew (World.alloc V (.cells #[] 3))) 3 1 (World.heap (World.drew V)).size 0 0 0 [] := row_empty (World.drew V) 3 1
            have se : Src Tryd.prog 1 22 (.slice (some ⟨g, o, none⟩) k cap) k ((q.xs.take k).map (Value.int .i64)) (World.drew (World.alloc V (.cells #[] 3))) := SRC.out _ (Kept.trans KD (show Kept [] (World.drew V) (World.drew (World.alloc V (.cells #[] 3))) from Kept.alloc (World.drew V) (.cells #[] 3)) (by simp))
            refine step_append_q ?qhgd2 ?qs2 ?qx2 22 22 ?qho2 3 (.int .i64 0) 1 8 Tryd.underlying22 info3 rfl ?qg2 0 0 0 [] ?qhsv2 ?qhrow2 (.slice (some ⟨g, o, none⟩) k cap) ?qhxv2 k ((q.xs.take k).map (Value.int .i64)) ?qhs2 ?qh12 ?qh22 ?qhh2
            case qho2 => rfl
            case qhgd2 => rfl
            case qhsv2 => rfl
            case qhxv2 => rfl
            case qhrow2 => simpa using re
            case qhs2 => simpa using se
            case qh12 => simp [maxLen]; omega
            case qh22 => omega
            intro g1 o1 cap1 w1 hr1 hgb1 hg1
            have hgb1' : (World.drew (World.alloc V (.cells #[] 3))).grownBy w1 (some (World.heap (World.drew V)).size) := by simpa using hgb1
            have hr1' : RowAt w1 3 1 g1 o1 cap1 k ((q.xs.take k).map (Value.int .i64)) := by simpa using hr1
            have hv1 : V.heap.size ≤ g1 := by rcases hg1 with h | h <;> first | omega | (simp at h; omega)
            have k1 : Kept [] V w1 := Kept.trans (Kept.trans KD (show Kept [] (World.drew V) (World.drew (World.alloc V (.cells #[] 3))) from Kept.alloc (World.drew V) (.cells #[] 3)) (by simp)) (Kept.of_grown hgb1') (fun x hx => .inr (by simp at hx; subst hx; simp))
            refine hK.out _ _ ?_ (fun hHeld2 => ?_)
            · (try dsimp only); exact CF.out _ k1
            clear hK K hHeld
            have hHeld := hHeld2
            clear hHeld2
            (try simp only [Act.put, List.setIfInBounds_toArray, List.set_cons_zero, List.set_cons_succ, List.getElem_toArray, List.getElem_cons_zero, List.getElem_cons_succ])
            (try simp only [Nat.zero_add])
            have d1x := (CF1.out _ k1).1
            have f1x := (CF1.out _ k1).2
            refine wpAnyH_take (i := 15) (v := ?_) rfl (by kernel_rfl) (by kernel_rfl) (by kernel_rfl) (fun _ _ _ h => h) (Or.inl ⟨by rfl, ?_⟩) (by assumption) ?_
            rotate_left; · (intro w hSw; (try dsimp only at hSw); go_simp; try with_reducible rfl)
            (try simp only [Act.put, List.setIfInBounds_toArray, List.set_cons_zero, List.set_cons_succ, List.getElem_toArray, List.getElem_cons_zero, List.getElem_cons_succ])
            refine wpAnyH_take (i := 16) (v := ?_) rfl (by kernel_rfl) (by kernel_rfl) (by kernel_rfl) (fun _ _ _ h => h) (Or.inl ⟨by rfl, ?_⟩) (by assumption) ?_
            rotate_left; · (intro w hSw; (try dsimp only at hSw); go_simp; try with_reducible rfl)
            (try simp only [Act.put, List.setIfInBounds_toArray, List.set_cons_zero, List.set_cons_succ, List.getElem_toArray, List.getElem_cons_zero, List.getElem_cons_succ])
            refine wpAnyH_ready (rs := [17]) (by kernel_rfl) (by simp) ?_
            refine AllReadyH.cons rfl (fun K hK => ?_) AllReadyH.nil
            (try simp only [List.getElem_toArray, List.getElem_cons_zero, List.getElem_cons_succ])
            go_simp
            refine hK.out _ _ ?_ (fun hHeld2 => ?_)
            · (try dsimp only); exact CF12.out _ _ k1
            clear hK K hHeld
            have hHeld := hHeld2
            clear hHeld2
            (try simp only [Act.put, List.setIfInBounds_toArray, List.set_cons_zero, List.set_cons_succ, List.getElem_toArray, List.getElem_cons_zero, List.getElem_cons_succ])
            refine wpAnyH_done (by kernel_rfl) ?_ _
            have XF := RF.out _ k1 _ _ _ hr1' hv1
            go_wp2
            go_ret
            exact XF
          · have s1 : (c != 0) = true := by simpa using b1
            by_cases b2 : wr0 = 0
            · have WEQ : Hid (closeW f q G = c) := Lib.hid (by unfold closeW; rw [HB1.out, HB2.out, if_pos ⟨b1, .inl (by rw [WRH.out, b2])⟩])
              have RX : Hid (RqAt (V0.setCell ⟨rb, 3, none⟩ (.int .i64 c)) rb fp (.slice (some ⟨g, o, none⟩) l cap) gv { q with wrong := c } G) := Lib.hid (R0.out.set 3 _ rfl R0.out.row R0.out.gs R0.out.ne R0.out.small)
              have KX : Hid (Kept [rb] w (V0.setCell ⟨rb, 3, none⟩ (.int .i64 c))) := Lib.hid (K0.out.trans (Kept.setCell V0 rb 3 _) (by simp))
              subst b2
              clear hwr b1
              have c5x := RX.out.c5
              have f5x := RX.out.f 5
              have R5 := RX.out.set 5 (.bool true) (q' := { q with wrong := c, closed := true }) (sv' := (.slice (some ⟨g, o, none⟩) l cap)) (gv' := gv) (G' := G) rfl RX.out.row RX.out.gs RX.out.ne RX.out.small
              have c4x := R5.c4
              have f4x := R5.f 4
              have R4 : Hid (RqAt (((V0.setCell ⟨rb, 3, none⟩ (.int .i64 c)).setCell ⟨rb, 5, none⟩ (.bool true)).setCell ⟨rb, 4, none⟩ (.int .i64 f)) rb fp (.slice (some ⟨g, o, none⟩) l cap) gv { q with wrong := c, closed := true, fin := f } G) := Lib.hid (R5.set 4 (.int .i64 f) rfl R5.row R5.gs R5.ne R5.small)
              have K4 : Hid (Kept [rb] w (((V0.setCell ⟨rb, 3, none⟩ (.int .i64 c)).setCell ⟨rb, 5, none⟩ (.bool true)).setCell ⟨rb, 4, none⟩ (.int .i64 f))) := Lib.hid ((KX.out.trans (Kept.setCell (V0.setCell ⟨rb, 3, none⟩ (.int .i64 c)) rb 5 (.bool true)) (by simp)).trans (Kept.setCell _ rb 4 (.int .i64 f)) (by simp))
              clear R5
              go_wp2_with fail
              obtain ⟨V, hV⟩ : ∃ V, V = ((V0.setCell ⟨rb, 3, none⟩ (.int .i64 c)).setCell ⟨rb, 5, none⟩ (.bool true)).setCell ⟨rb, 4, none⟩ (.int .i64 f) := ⟨_, rfl⟩
              rw [← hV] at R4 K4 ⊢
              clear hV c5x f5x c4x f4x
              have KD : Kept [] V V.drew := (Kept.refl [] V).drew
              have CF : Hid (∀ wx, Kept [] V wx → wx.cell? ⟨rb, 0, none⟩ = some (.int .i64 fst)) := Lib.hid (fun wx hk => by
                have := (R4.out.kept hk (by simp) (by simp)).c0
                rw [← FST.out]
                exact this)
              have CF12 : Hid (∀ wx v, Kept [] V wx → (wx.setCell ⟨rb, 1, none⟩ v).cell? ⟨rb, 0, none⟩ = some (.int .i64 fst)) := Lib.hid (fun wx v hk => by
                have hc := (R4.out.kept hk (by simp) (by simp)).cell
                rw [World.cell?, heap_setCell_at hc, ← FST.out]
                rfl)
              have CF1 : Hid (∀ wx, Kept [] V wx → wx.cell? ⟨rb, 1, none⟩ = some (.slice (some ⟨g, o, none⟩) l cap) ∧ wx.frozen? ⟨rb, 1, none⟩ = false) := Lib.hid (fun wx hk => by
                have r := R4.out.kept hk (by simp) (by simp)
                exact ⟨r.c1, r.f 1⟩)
              have SRC : Hid (∀ wx, Kept [] V wx → Src Tryd.prog 1 22 (.slice (some ⟨g, o, none⟩) k cap) k ((q.xs.take k).map (Value.int .i64)) wx) := Lib.hid (fun wx hk => by
                have r := R4.out.kept hk (by simp) (by simp)
                have hrow : RowAt wx 3 1 g o cap l (q.xs.map (Value.int .i64)) := by
                  rcases r.row with ⟨h0, _, _⟩ | ⟨g', o', cap', h1, _, h3⟩
                  · cases h0
                  · simp only at h1 h3
                    rw [HL.out] at h1 h3
                    cases h1
                    exact h3
                have ht := hrow.takeCap (k := k) (by omega)
                rw [← List.map_take] at ht
                exact RowN.src (.inr ⟨g, o, cap, rfl, List.mem_singleton.2 rfl, ht⟩) (int_one _ _) Tryd.underlying22)
              have RF : Hid (∀ w1, Kept [] V w1 → ∀ g1 o1 cap1, RowAt w1 3 1 g1 o1 cap1 k ((q.xs.take k).map (Value.int .i64)) → V.heap.size ≤ g1 → RqDone w rb fp { q with xs := q.xs.take k, wrong := closeW f q G, closed := true, fin := f } G (.int .i64 0) (.returned (.int .i64 0)) (w1.setCell ⟨rb, 1, none⟩ (.slice (some ⟨g1, o1, none⟩) k cap1))) := Lib.hid (fun w1 hk g1 o1 cap1 hr hg => by
                have r := R4.out.kept hk (by simp) (by simp)
                have hlt := R4.out.lt
                have hsz := K4.out.size
                have hkl : (q.xs.take k).length = k := by rw [List.length_take, HL.out]; omega
                refine ⟨rfl, g1 :: fp, _, gv, r.set 1 _ (by rw [WEQ.out]; rfl) (.inr ⟨g1, o1, cap1, by rw [hkl], by simp, by rw [hkl]; exact hr⟩) (r.gs.fpMono (by simp; exact fun x hx => .inr hx)) (by simp; exact ⟨by omega, r.ne⟩) ?_, (K4.out.trans hk (by simp)).trans (Kept.setCell w1 rb 1 _) (by simp), fun y hy => ?_⟩
                · intro y hy
                  simp at hy
                  rcases hy with rfl | hy
                  · exact hr.lt
                  · exact r.small y hy
                · simp at hy
                  rcases hy with rfl | hy
                  · exact .inr (by omega)
                  · exact .inl hy)
              clear R4 K4 KX RX
              refine wp_region_held_drew (S := (fun w' => w'.cell? ⟨rb, 0, none⟩ = some (.int .i64 fst))) (by kernel_rfl) ?_ (fun hHeld => ?_)
              · (try dsimp only); exact CF.out _ KD
              refine wpAnyH_take (i := 0) (v := ?_) rfl (by kernel_rfl) (by kernel_rfl) (by kernel_rfl) (fun _ _ _ h => h) (Or.inl ⟨by rfl, ?_⟩) (by assumption) ?_
              rotate_left; · (intro w hSw; (try dsimp only at hSw); go_simp; try with_reducible rfl)
              (try simp only [Act.put, List.setIfInBounds_toArray, List.set_cons_zero, List.set_cons_succ, List.getElem_toArray, List.getElem_cons_zero, List.getElem_cons_succ])
              refine wpAnyH_take (i := 2) (v := ?_) rfl (by kernel_rfl) (by kernel_rfl) (by kernel_rfl) (fun _ _ _ h => h) (Or.inl ⟨by rfl, ?_⟩) (by assumption) ?_
              rotate_left; · (intro w hSw; (try dsimp only at hSw); go_simp; try with_reducible rfl)
              (try simp only [Act.put, List.setIfInBounds_toArray, List.set_cons_zero, List.set_cons_succ, List.getElem_toArray, List.getElem_cons_zero, List.getElem_cons_succ])
              refine wpAnyH_take (i := 3) (v := ?_) rfl (by kernel_rfl) (by kernel_rfl) (by kernel_rfl) (fun _ _ _ h => h) (Or.inl ⟨by rfl, ?_⟩) (by assumption) ?_
              rotate_left; · (intro w hSw; (try dsimp only at hSw); go_simp; try with_reducible rfl)
              (try simp only [Act.put, List.setIfInBounds_toArray, List.set_cons_zero, List.set_cons_succ, List.getElem_toArray, List.getElem_cons_zero, List.getElem_cons_succ])
              refine wpAnyH_take (i := 4) (v := ?_) rfl (by kernel_rfl) (by kernel_rfl) (by kernel_rfl) (fun _ _ _ h => h) (Or.inl ⟨by rfl, ?_⟩) (by assumption) ?_
              rotate_left; · (intro w hSw; (try dsimp only at hSw); go_simp; try with_reducible rfl)
              (try simp only [Act.put, List.setIfInBounds_toArray, List.set_cons_zero, List.set_cons_succ, List.getElem_toArray, List.getElem_cons_zero, List.getElem_cons_succ])
              refine wpAnyH_take (i := 6) (v := ?_) rfl (by kernel_rfl) (by kernel_rfl) (by kernel_rfl) (fun _ _ _ h => h) (Or.inl ⟨by rfl, ?_⟩) (by assumption) ?_
              rotate_left; · (intro w hSw; (try dsimp only at hSw); go_simp; try with_reducible rfl)
              (try simp only [Act.put, List.setIfInBounds_toArray, List.set_cons_zero, List.set_cons_succ, List.getElem_toArray, List.getElem_cons_zero, List.getElem_cons_succ])
              refine wpAnyH_take (i := 7) (v := ?_) rfl (by kernel_rfl) (by kernel_rfl) (by kernel_rfl) (fun _ _ _ h => h) (Or.inl ⟨by rfl, ?_⟩) (by assumption) ?_
              rotate_left; · (intro w hSw; (try dsimp only at hSw); go_simp; try with_reducible rfl)
              (try simp only [Act.put, List.setIfInBounds_toArray, List.set_cons_zero, List.set_cons_succ, List.getElem_toArray, List.getElem_cons_zero, List.getElem_cons_succ])
              refine wpAnyH_take (i := 8) (v := ?_) rfl (by kernel_rfl) (by kernel_rfl) (by kernel_rfl) (fun _ _ _ h => h) (Or.inl ⟨by rfl, ?_⟩) (by assumption) ?_
              rotate_left; · (intro w hSw; (try dsimp only at hSw); go_simp; try with_reducible rfl)
              (try simp only [Act.put, List.setIfInBounds_toArray, List.set_cons_zero, List.set_cons_succ, List.getElem_toArray, List.getElem_cons_zero, List.getElem_cons_succ])
              refine wpAnyH_take (i := 9) (v := ?_) rfl (by kernel_rfl) (by kernel_rfl) (by kernel_rfl) (fun _ _ _ h => h) (Or.inl ⟨by rfl, ?_⟩) (by assumption) ?_
              rotate_left; · (intro w hSw; (try dsimp only at hSw); go_simp; try with_reducible rfl)
              (try simp only [Act.put, List.setIfInBounds_toArray, List.set_cons_zero, List.set_cons_succ, List.getElem_toArray, List.getElem_cons_zero, List.getElem_cons_succ])
              refine wpAnyH_take (i := 10) (v := ?_) rfl (by kernel_rfl) (by kernel_rfl) (by kernel_rfl) (fun _ _ _ h => h) (Or.inl ⟨by rfl, ?_⟩) (by assumption) ?_
              rotate_left; · (intro w hSw; (try dsimp only at hSw); go_simp; try with_reducible rfl)
              (try simp only [Act.put, List.setIfInBounds_toArray, List.set_cons_zero, List.set_cons_succ, List.getElem_toArray, List.getElem_cons_zero, List.getElem_cons_succ])
              refine wpAnyH_take (i := 11) (v := ?_) rfl (by kernel_rfl) (by kernel_rfl) (by kernel_rfl) (fun _ _ _ h => h) (Or.inl ⟨by rfl, ?_⟩) (by assumption) ?_
              rotate_left; · (intro w hSw; (try dsimp only at hSw); go_simp; try with_reducible rfl)
              (try simp only [Act.put, List.setIfInBounds_toArray, List.set_cons_zero, List.set_cons_succ, List.getElem_toArray, List.getElem_cons_zero, List.getElem_cons_succ])
              refine wpAnyH_take (i := 12) (v := ?_) rfl (by kernel_rfl) (by kernel_rfl) (by kernel_rfl) (fun _ _ _ h => h) (Or.inl ⟨by rfl, ?_⟩) (by assumption) ?_
              rotate_left; · (intro w hSw; (try dsimp only at hSw); go_simp; try with_reducible rfl)
              (try simp only [Act.put, List.setIfInBounds_toArray, List.set_cons_zero, List.set_cons_succ, List.getElem_toArray, List.getElem_cons_zero, List.getElem_cons_succ])
              refine wpAnyH_ready (rs := [1, 5]) (by kernel_rfl) (by simp) ?_
              refine AllReadyH.cons rfl (fun K hK => ?_) ?_
              · (try simp only [List.getElem_toArray, List.getElem_cons_zero, List.getElem_cons_succ])
                go_simp
                refine hK.out _ _ ?_ (fun hHeld2 => ?_)
                · (try dsimp only); exact CF.out _ (Kept.trans KD (show Kept [] (World.drew V) (World.drew (World.alloc V (.cells #[] 3))) from Kept.alloc (World.drew V) (.cells #[] 3)) (by simp))
                clear hK K hHeld
                have hHeld := hHeld2
                clear hHeld2
                (try simp only [Act.put, List.setIfInBounds_toArray, List.set_cons_zero, List.set_cons_succ, List.getElem_toArray, List.getElem_cons_zero, List.getElem_cons_succ])
                refine wpAnyH_ready (rs := [5]) (by kernel_rfl) (by simp) ?_
                refine AllReadyH.cons rfl (fun K hK => ?_) AllReadyH.nil
                (try simp only [List.getElem_toArray, List.getElem_cons_zero, List.getElem_cons_succ])
                have c1x : ((World.drew (World.alloc V (.cells #[] 3)))).cell? ⟨rb, 1, none⟩ = some (.slice (some ⟨g, o, none⟩) l cap) := (CF1.out _ (Kept.trans KD (show Kept [] (World.drew V) (World.drew (World.alloc V (.cells #[] 3))) from Kept.alloc (World.drew V) (.cells #[] 3)) (by simp))).1
                go_simp
                clear c1x
                refine hK.out _ _ ?_ (fun hHeld2 => ?_)
                · (try dsimp only); exact CF.out _ (Kept.trans KD (show Kept [] (World.drew V) (World.drew (World.alloc V (.cells #[] 3))) from Kept.alloc (World.drew V) (.cells #[] 3)) (by simp))
                clear hK K hHeld
                have hHeld := hHeld2
                clear hHeld2
                (try simp only [Act.put, List.setIfInBounds_toArray, List.set_cons_zero, List.set_cons_succ, List.getElem_toArray, List.getElem_cons_zero, List.getElem_cons_succ])
                refine wpAnyH_take (i := 13) (v := ?_) rfl (by kernel_rfl) (by kernel_rfl) (by kernel_rfl) (fun _ _ _ h => h) (Or.inl ⟨by rfl, ?_⟩) (by assumption) ?_
                rotate_left; · (intro w hSw; (try dsimp only at hSw); go_simp; try with_reducible rfl)
                (try simp only [Act.put, List.setIfInBounds_toArray, List.set_cons_zero, List.set_cons_succ, List.getElem_toArray, List.getElem_cons_zero, List.getElem_cons_succ])
                refine wpAnyH_ready (rs := [14]) (by kernel_rfl) (by simp) ?_
                refine AllReadyH.cons rfl (fun K hK => ?_) AllReadyH.nil
                skip
                have re : RowAt (World.drew (World.alloc V (.cells #[] 3))) 3 1 (World.heap (World.drew V)).size 0 0 0 [] := row_empty (World.drew V) 3 1
                have se : Src Tryd.prog 1 22 (.slice (some ⟨g, o, none⟩) k cap) k ((q.xs.take k).map (Value.int .i64)) (World.drew (World.alloc V (.cells #[] 3))) := SRC.out _ (Kept.trans KD (show Kept [] (World.drew V) (World.drew (World.alloc V (.cells #[] 3))) from Kept.alloc (World.drew V) (.cells #[] 3)) (by simp))
                refine step_append_q ?qhgd3 ?qs3 ?qx3 22 22 ?qho3 3 (.int .i64 0) 1 8 Tryd.underlying22 info3 rfl ?qg3 0 0 0 [] ?qhsv3 ?qhrow3 (.slice (some ⟨g, o, none⟩) k cap) ?qhxv3 k ((q.xs.take k).map (Value.int .i64)) ?qhs3 ?qh13 ?qh23 ?qhh3
                case qho3 => rfl
                case qhgd3 => rfl
                case qhsv3 => rfl
                case qhxv3 => rfl
                case qhrow3 => simpa using re
                case qhs3 => simpa using se
                case qh13 => simp [maxLen]; omega
                case qh23 => omega
                intro g1 o1 cap1 w1 hr1 hgb1 hg1
                have hgb1' : (World.drew (World.alloc V (.cells #[] 3))).grownBy w1 (some (World.heap (World.drew V)).size) := by simpa using hgb1
                have hr1' : RowAt w1 3 1 g1 o1 cap1 k ((q.xs.take k).map (Value.int .i64)) := by simpa using hr1
                have hv1 : V.heap.size ≤ g1 := by rcases hg1 with h | h <;> first | omega | (simp at h; omega)
                have k1 : Kept [] V w1 := Kept.trans (Kept.trans KD (show Kept [] (World.drew V) (World.drew (World.alloc V (.cells #[] 3))) from Kept.alloc (World.drew V) (.cells #[] 3)) (by simp)) (Kept.of_grown hgb1') (fun x hx => .inr (by simp at hx; subst hx; simp))
                refine hK.out _ _ ?_ (fun hHeld2 => ?_)
                · (try dsimp only); exact CF.out _ k1
                clear hK K hHeld
                have hHeld := hHeld2
                clear hHeld2
                (try simp only [Act.put, List.setIfInBounds_toArray, List.set_cons_zero, List.set_cons_succ, List.getElem_toArray, List.getElem_cons_zero, List.getElem_cons_succ])
                (try simp only [Nat.zero_add])
                have d1x := (CF1.out _ k1).1
                have f1x := (CF1.out _ k1).2
                refine wpAnyH_take (i := 15) (v := ?_) rfl (by kernel_rfl) (by kernel_rfl) (by kernel_rfl) (fun _ _ _ h => h) (Or.inl ⟨by rfl, ?_⟩) (by assumption) ?_
                rotate_left; · (intro w hSw; (try dsimp only at hSw); go_simp; try with_reducible rfl)
                (try simp only [Act.put, List.setIfInBounds_toArray, List.set_cons_zero, List.set_cons_succ, List.getElem_toArray, List.getElem_cons_zero, List.getElem_cons_succ])
                refine wpAnyH_take (i := 16) (v := ?_) rfl (by kernel_rfl) (by kernel_rfl) (by kernel_rfl) (fun _ _ _ h => h) (Or.inl ⟨by rfl, ?_⟩) (by assumption) ?_
                rotate_left; · (intro w hSw; (try dsimp only at hSw); go_simp; try with_reducible rfl)
                (try simp only [Act.put, List.setIfInBounds_toArray, List.set_cons_zero, List.set_cons_succ, List.getElem_toArray, List.getElem_cons_zero, List.getElem_cons_succ])
                refine wpAnyH_ready (rs := [17]) (by kernel_rfl) (by simp) ?_
                refine AllReadyH.cons rfl (fun K hK => ?_) AllReadyH.nil
                (try simp only [List.getElem_toArray, List.getElem_cons_zero, List.getElem_cons_succ])
                go_simp
                refine hK.out _ _ ?_ (fun hHeld2 => ?_)
                · (try dsimp only); exact CF12.out _ _ k1
                clear hK K hHeld
                have hHeld := hHeld2
                clear hHeld2
                (try simp only [Act.put, List.setIfInBounds_toArray, List.set_cons_zero, List.set_cons_succ, List.getElem_toArray, List.getElem_cons_zero, List.getElem_cons_succ])
                refine wpAnyH_done (by kernel_rfl) ?_ _
                have XF := RF.out _ k1 _ _ _ hr1' hv1
                go_wp2
                go_ret
                exact XF
              refine AllReadyH.cons rfl (fun K hK => ?_) AllReadyH.nil
              (try simp only [List.getElem_toArray, List.getElem_cons_zero, List.getElem_cons_succ])
              have c1x : ((World.drew V)).cell? ⟨rb, 1, none⟩ = some (.slice (some ⟨g, o, none⟩) l cap) := (CF1.out _ KD).1
              go_simp
              clear c1x
              refine hK.out _ _ ?_ (fun hHeld2 => ?_)
              · (try dsimp only); exact CF.out _ KD
              clear hK K hHeld
              have hHeld := hHeld2
              clear hHeld2
              (try simp only [Act.put, List.setIfInBounds_toArray, List.set_cons_zero, List.set_cons_succ, List.getElem_toArray, List.getElem_cons_zero, List.getElem_cons_succ])
              refine wpAnyH_take (i := 13) (v := ?_) rfl (by kernel_rfl) (by kernel_rfl) (by kernel_rfl) (fun _ _ _ h => h) (Or.inl ⟨by rfl, ?_⟩) (by assumption) ?_
              rotate_left; · (intro w hSw; (try dsimp only at hSw); go_simp; try with_reducible rfl)
              (try simp only [Act.put, List.setIfInBounds_toArray, List.set_cons_zero, List.set_cons_succ, List.getElem_toArray, List.getElem_cons_zero, List.getElem_cons_succ])
              refine wpAnyH_ready (rs := [1]) (by kernel_rfl) (by simp) ?_
              refine AllReadyH.cons rfl (fun K hK => ?_) AllReadyH.nil
              (try simp only [List.getElem_toArray, List.getElem_cons_zero, List.getElem_cons_succ])
              go_simp
              refine hK.out _ _ ?_ (fun hHeld2 => ?_)
              · (try dsimp only); exact CF.out _ (Kept.trans KD (show Kept [] (World.drew V) (World.drew (World.alloc V (.cells #[] 3))) from Kept.alloc (World.drew V) (.cells #[] 3)) (by simp))
              clear hK K hHeld
              have hHeld := hHeld2
              clear hHeld2
              (try simp only [Act.put, List.setIfInBounds_toArray, List.set_cons_zero, List.set_cons_succ, List.getElem_toArray, List.getElem_cons_zero, List.getElem_cons_succ])
              refine wpAnyH_ready (rs := [14]) (by kernel_rfl) (by simp) ?_
              refine AllReadyH.cons rfl (fun K hK => ?_) AllReadyH.nil
              skip
              have re : RowAt (World.drew (World.alloc V (.cells #[] 3))) 3 1 (World.heap (World.drew V)).size 0 0 0 [] := row_empty (World.drew V) 3 1
              have se : Src Tryd.prog 1 22 (.slice (some ⟨g, o, none⟩) k cap) k ((q.xs.take k).map (Value.int .i64)) (World.drew (World.alloc V (.cells #[] 3))) := SRC.out _ (Kept.trans KD (show Kept [] (World.drew V) (World.drew (World.alloc V (.cells #[] 3))) from Kept.alloc (World.drew V) (.cells #[] 3)) (by simp))
              refine step_append_q ?qhgd4 ?qs4 ?qx4 22 22 ?qho4 3 (.int .i64 0) 1 8 Tryd.underlying22 info3 rfl ?qg4 0 0 0 [] ?qhsv4 ?qhrow4 (.slice (some ⟨g, o, none⟩) k cap) ?qhxv4 k ((q.xs.take k).map (Value.int .i64)) ?qhs4 ?qh14 ?qh24 ?qhh4
              case qho4 => rfl
              case qhgd4 => rfl
              case qhsv4 => rfl
              case qhxv4 => rfl
              case qhrow4 => simpa using re
              case qhs4 => simpa using se
              case qh14 => simp [maxLen]; omega
              case qh24 => omega
              intro g1 o1 cap1 w1 hr1 hgb1 hg1
              have hgb1' : (World.drew (World.alloc V (.cells #[] 3))).grownBy w1 (some (World.heap (World.drew V)).size) := by simpa using hgb1
              have hr1' : RowAt w1 3 1 g1 o1 cap1 k ((q.xs.take k).map (Value.int .i64)) := by simpa using hr1
              have hv1 : V.heap.size ≤ g1 := by rcases hg1 with h | h <;> first | omega | (simp at h; omega)
              have k1 : Kept [] V w1 := Kept.trans (Kept.trans KD (show Kept [] (World.drew V) (World.drew (World.alloc V (.cells #[] 3))) from Kept.alloc (World.drew V) (.cells #[] 3)) (by simp)) (Kept.of_grown hgb1') (fun x hx => .inr (by simp at hx; subst hx; simp))
              refine hK.out _ _ ?_ (fun hHeld2 => ?_)
              · (try dsimp only); exact CF.out _ k1
              clear hK K hHeld
              have hHeld := hHeld2
              clear hHeld2
              (try simp only [Act.put, List.setIfInBounds_toArray, List.set_cons_zero, List.set_cons_succ, List.getElem_toArray, List.getElem_cons_zero, List.getElem_cons_succ])
              (try simp only [Nat.zero_add])
              have d1x := (CF1.out _ k1).1
              have f1x := (CF1.out _ k1).2
              refine wpAnyH_take (i := 15) (v := ?_) rfl (by kernel_rfl) (by kernel_rfl) (by kernel_rfl) (fun _ _ _ h => h) (Or.inl ⟨by rfl, ?_⟩) (by assumption) ?_
              rotate_left; · (intro w hSw; (try dsimp only at hSw); go_simp; try with_reducible rfl)
              (try simp only [Act.put, List.setIfInBounds_toArray, List.set_cons_zero, List.set_cons_succ, List.getElem_toArray, List.getElem_cons_zero, List.getElem_cons_succ])
              refine wpAnyH_take (i := 16) (v := ?_) rfl (by kernel_rfl) (by kernel_rfl) (by kernel_rfl) (fun _ _ _ h => h) (Or.inl ⟨by rfl, ?_⟩) (by assumption) ?_
              rotate_left; · (intro w hSw; (try dsimp only at hSw); go_simp; try with_reducible rfl)
              (try simp only [Act.put, List.setIfInBounds_toArray, List.set_cons_zero, List.set_cons_succ, List.getElem_toArray, List.getElem_cons_zero, List.getElem_cons_succ])
              refine wpAnyH_ready (rs := [17]) (by kernel_rfl) (by simp) ?_
              refine AllReadyH.cons rfl (fun K hK => ?_) AllReadyH.nil
              (try simp only [List.getElem_toArray, List.getElem_cons_zero, List.getElem_cons_succ])
              go_simp
              refine hK.out _ _ ?_ (fun hHeld2 => ?_)
              · (try dsimp only); exact CF12.out _ _ k1
              clear hK K hHeld
              have hHeld := hHeld2
              clear hHeld2
              (try simp only [Act.put, List.setIfInBounds_toArray, List.set_cons_zero, List.set_cons_succ, List.getElem_toArray, List.getElem_cons_zero, List.getElem_cons_succ])
              refine wpAnyH_done (by kernel_rfl) ?_ _
              have XF := RF.out _ k1 _ _ _ hr1' hv1
              go_wp2
              go_ret
              exact XF
            · have s2 : (wr0 == 0) = false := by simpa using b2
              by_cases b3 : c < wr0
              · have s3 : decide (c < wr0) = true := by simpa using b3
                have WEQ : Hid (closeW f q G = c) := Lib.hid (by unfold closeW; rw [HB1.out, HB2.out, if_pos ⟨b1, .inr (by rw [WRH.out]; exact b3)⟩])
                have RX : Hid (RqAt (V0.setCell ⟨rb, 3, none⟩ (.int .i64 c)) rb fp (.slice (some ⟨g, o, none⟩) l cap) gv { q with wrong := c } G) := Lib.hid (R0.out.set 3 _ rfl R0.out.row R0.out.gs R0.out.ne R0.out.small)
                have KX : Hid (Kept [rb] w (V0.setCell ⟨rb, 3, none⟩ (.int .i64 c))) := Lib.hid (K0.out.trans (Kept.setCell V0 rb 3 _) (by simp))
                clear hwr b1 b2 b3
                have c5x := RX.out.c5
                have f5x := RX.out.f 5
                have R5 := RX.out.set 5 (.bool true) (q' := { q with wrong := c, closed := true }) (sv' := (.slice (some ⟨g, o, none⟩) l cap)) (gv' := gv) (G' := G) rfl RX.out.row RX.out.gs RX.out.ne RX.out.small
                have c4x := R5.c4
                have f4x := R5.f 4
                have R4 : Hid (RqAt (((V0.setCell ⟨rb, 3, none⟩ (.int .i64 c)).setCell ⟨rb, 5, none⟩ (.bool true)).setCell ⟨rb, 4, none⟩ (.int .i64 f)) rb fp (.slice (some ⟨g, o, none⟩) l cap) gv { q with wrong := c, closed := true, fin := f } G) := Lib.hid (R5.set 4 (.int .i64 f) rfl R5.row R5.gs R5.ne R5.small)
                have K4 : Hid (Kept [rb] w (((V0.setCell ⟨rb, 3, none⟩ (.int .i64 c)).setCell ⟨rb, 5, none⟩ (.bool true)).setCell ⟨rb, 4, none⟩ (.int .i64 f))) := Lib.hid ((KX.out.trans (Kept.setCell (V0.setCell ⟨rb, 3, none⟩ (.int .i64 c)) rb 5 (.bool true)) (by simp)).trans (Kept.setCell _ rb 4 (.int .i64 f)) (by simp))
                clear R5
                go_wp2_with fail
                obtain ⟨V, hV⟩ : ∃ V, V = ((V0.setCell ⟨rb, 3, none⟩ (.int .i64 c)).setCell ⟨rb, 5, none⟩ (.bool true)).setCell ⟨rb, 4, none⟩ (.int .i64 f) := ⟨_, rfl⟩
                rw [← hV] at R4 K4 ⊢
                clear hV c5x f5x c4x f4x
                have KD : Kept [] V V.drew := (Kept.refl [] V).drew
                have CF : Hid (∀ wx, Kept [] V wx → wx.cell? ⟨rb, 0, none⟩ = some (.int .i64 fst)) := Lib.hid (fun wx hk => by
                  have := (R4.out.kept hk (by simp) (by simp)).c0
                  rw [← FST.out]
                  exact this)
                have CF12 : Hid (∀ wx v, Kept [] V wx → (wx.setCell ⟨rb, 1, none⟩ v).cell? ⟨rb, 0, none⟩ = some (.int .i64 fst)) := Lib.hid (fun wx v hk => by
                  have hc := (R4.out.kept hk (by simp) (by simp)).cell
                  rw [World.cell?, heap_setCell_at hc, ← FST.out]
                  rfl)
                have CF1 : Hid (∀ wx, Kept [] V wx → wx.cell? ⟨rb, 1, none⟩ = some (.slice (some ⟨g, o, none⟩) l cap) ∧ wx.frozen? ⟨rb, 1, none⟩ = false) := Lib.hid (fun wx hk => by
                  have r := R4.out.kept hk (by simp) (by simp)
                  exact ⟨r.c1, r.f 1⟩)
                have SRC : Hid (∀ wx, Kept [] V wx → Src Tryd.prog 1 22 (.slice (some ⟨g, o, none⟩) k cap) k ((q.xs.take k).map (Value.int .i64)) wx) := Lib.hid (fun wx hk => by
                  have r := R4.out.kept hk (by simp) (by simp)
                  have hrow : RowAt wx 3 1 g o cap l (q.xs.map (Value.int .i64)) := by
                    rcases r.row with ⟨h0, _, _⟩ | ⟨g', o', cap', h1, _, h3⟩
                    · cases h0
                    · simp only at h1 h3
                      rw [HL.out] at h1 h3
                      cases h1
                      exact h3
                  have ht := hrow.takeCap (k := k) (by omega)
                  rw [← List.map_take] at ht
                  exact RowN.src (.inr ⟨g, o, cap, rfl, List.mem_singleton.2 rfl, ht⟩) (int_one _ _) Tryd.underlying22)
                have RF : Hid (∀ w1, Kept [] V w1 → ∀ g1 o1 cap1, RowAt w1 3 1 g1 o1 cap1 k ((q.xs.take k).map (Value.int .i64)) → V.heap.size ≤ g1 → RqDone w rb fp { q with xs := q.xs.take k, wrong := closeW f q G, closed := true, fin := f } G (.int .i64 0) (.returned (.int .i64 0)) (w1.setCell ⟨rb, 1, none⟩ (.slice (some ⟨g1, o1, none⟩) k cap1))) := Lib.hid (fun w1 hk g1 o1 cap1 hr hg => by
                  have r := R4.out.kept hk (by simp) (by simp)
                  have hlt := R4.out.lt
                  have hsz := K4.out.size
                  have hkl : (q.xs.take k).length = k := by rw [List.length_take, HL.out]; omega
                  refine ⟨rfl, g1 :: fp, _, gv, r.set 1 _ (by rw [WEQ.out]; rfl) (.inr ⟨g1, o1, cap1, by rw [hkl], by simp, by rw [hkl]; exact hr⟩) (r.gs.fpMono (by simp; exact fun x hx => .inr hx)) (by simp; exact ⟨by omega, r.ne⟩) ?_, (K4.out.trans hk (by simp)).trans (Kept.setCell w1 rb 1 _) (by simp), fun y hy => ?_⟩
                  · intro y hy
                    simp at hy
                    rcases hy with rfl | hy
                    · exact hr.lt
                    · exact r.small y hy
                  · simp at hy
                    rcases hy with rfl | hy
                    · exact .inr (by omega)
                    · exact .inl hy)
                clear R4 K4 KX RX
                refine wp_region_held_drew (S := (fun w' => w'.cell? ⟨rb, 0, none⟩ = some (.int .i64 fst))) (by kernel_rfl) ?_ (fun hHeld => ?_)
                · (try dsimp only); exact CF.out _ KD
                refine wpAnyH_take (i := 0) (v := ?_) rfl (by kernel_rfl) (by kernel_rfl) (by kernel_rfl) (fun _ _ _ h => h) (Or.inl ⟨by rfl, ?_⟩) (by assumption) ?_
                rotate_left; · (intro w hSw; (try dsimp only at hSw); go_simp; try with_reducible rfl)
                (try simp only [Act.put, List.setIfInBounds_toArray, List.set_cons_zero, List.set_cons_succ, List.getElem_toArray, List.getElem_cons_zero, List.getElem_cons_succ])
                refine wpAnyH_take (i := 2) (v := ?_) rfl (by kernel_rfl) (by kernel_rfl) (by kernel_rfl) (fun _ _ _ h => h) (Or.inl ⟨by rfl, ?_⟩) (by assumption) ?_
                rotate_left; · (intro w hSw; (try dsimp only at hSw); go_simp; try with_reducible rfl)
                (try simp only [Act.put, List.setIfInBounds_toArray, List.set_cons_zero, List.set_cons_succ, List.getElem_toArray, List.getElem_cons_zero, List.getElem_cons_succ])
                refine wpAnyH_take (i := 3) (v := ?_) rfl (by kernel_rfl) (by kernel_rfl) (by kernel_rfl) (fun _ _ _ h => h) (Or.inl ⟨by rfl, ?_⟩) (by assumption) ?_
                rotate_left; · (intro w hSw; (try dsimp only at hSw); go_simp; try with_reducible rfl)
                (try simp only [Act.put, List.setIfInBounds_toArray, List.set_cons_zero, List.set_cons_succ, List.getElem_toArray, List.getElem_cons_zero, List.getElem_cons_succ])
                refine wpAnyH_take (i := 4) (v := ?_) rfl (by kernel_rfl) (by kernel_rfl) (by kernel_rfl) (fun _ _ _ h => h) (Or.inl ⟨by rfl, ?_⟩) (by assumption) ?_
                rotate_left; · (intro w hSw; (try dsimp only at hSw); go_simp; try with_reducible rfl)
                (try simp only [Act.put, List.setIfInBounds_toArray, List.set_cons_zero, List.set_cons_succ, List.getElem_toArray, List.getElem_cons_zero, List.getElem_cons_succ])
                refine wpAnyH_take (i := 6) (v := ?_) rfl (by kernel_rfl) (by kernel_rfl) (by kernel_rfl) (fun _ _ _ h => h) (Or.inl ⟨by rfl, ?_⟩) (by assumption) ?_
                rotate_left; · (intro w hSw; (try dsimp only at hSw); go_simp; try with_reducible rfl)
                (try simp only [Act.put, List.setIfInBounds_toArray, List.set_cons_zero, List.set_cons_succ, List.getElem_toArray, List.getElem_cons_zero, List.getElem_cons_succ])
                refine wpAnyH_take (i := 7) (v := ?_) rfl (by kernel_rfl) (by kernel_rfl) (by kernel_rfl) (fun _ _ _ h => h) (Or.inl ⟨by rfl, ?_⟩) (by assumption) ?_
                rotate_left; · (intro w hSw; (try dsimp only at hSw); go_simp; try with_reducible rfl)
                (try simp only [Act.put, List.setIfInBounds_toArray, List.set_cons_zero, List.set_cons_succ, List.getElem_toArray, List.getElem_cons_zero, List.getElem_cons_succ])
                refine wpAnyH_take (i := 8) (v := ?_) rfl (by kernel_rfl) (by kernel_rfl) (by kernel_rfl) (fun _ _ _ h => h) (Or.inl ⟨by rfl, ?_⟩) (by assumption) ?_
                rotate_left; · (intro w hSw; (try dsimp only at hSw); go_simp; try with_reducible rfl)
                (try simp only [Act.put, List.setIfInBounds_toArray, List.set_cons_zero, List.set_cons_succ, List.getElem_toArray, List.getElem_cons_zero, List.getElem_cons_succ])
                refine wpAnyH_take (i := 9) (v := ?_) rfl (by kernel_rfl) (by kernel_rfl) (by kernel_rfl) (fun _ _ _ h => h) (Or.inl ⟨by rfl, ?_⟩) (by assumption) ?_
                rotate_left; · (intro w hSw; (try dsimp only at hSw); go_simp; try with_reducible rfl)
                (try simp only [Act.put, List.setIfInBounds_toArray, List.set_cons_zero, List.set_cons_succ, List.getElem_toArray, List.getElem_cons_zero, List.getElem_cons_succ])
                refine wpAnyH_take (i := 10) (v := ?_) rfl (by kernel_rfl) (by kernel_rfl) (by kernel_rfl) (fun _ _ _ h => h) (Or.inl ⟨by rfl, ?_⟩) (by assumption) ?_
                rotate_left; · (intro w hSw; (try dsimp only at hSw); go_simp; try with_reducible rfl)
                (try simp only [Act.put, List.setIfInBounds_toArray, List.set_cons_zero, List.set_cons_succ, List.getElem_toArray, List.getElem_cons_zero, List.getElem_cons_succ])
                refine wpAnyH_take (i := 11) (v := ?_) rfl (by kernel_rfl) (by kernel_rfl) (by kernel_rfl) (fun _ _ _ h => h) (Or.inl ⟨by rfl, ?_⟩) (by assumption) ?_
                rotate_left; · (intro w hSw; (try dsimp only at hSw); go_simp; try with_reducible rfl)
                (try simp only [Act.put, List.setIfInBounds_toArray, List.set_cons_zero, List.set_cons_succ, List.getElem_toArray, List.getElem_cons_zero, List.getElem_cons_succ])
                refine wpAnyH_take (i := 12) (v := ?_) rfl (by kernel_rfl) (by kernel_rfl) (by kernel_rfl) (fun _ _ _ h => h) (Or.inl ⟨by rfl, ?_⟩) (by assumption) ?_
                rotate_left; · (intro w hSw; (try dsimp only at hSw); go_simp; try with_reducible rfl)
                (try simp only [Act.put, List.setIfInBounds_toArray, List.set_cons_zero, List.set_cons_succ, List.getElem_toArray, List.getElem_cons_zero, List.getElem_cons_succ])
                refine wpAnyH_ready (rs := [1, 5]) (by kernel_rfl) (by simp) ?_
                refine AllReadyH.cons rfl (fun K hK => ?_) ?_
                · (try simp only [List.getElem_toArray, List.getElem_cons_zero, List.getElem_cons_succ])
                  go_simp
                  refine hK.out _ _ ?_ (fun hHeld2 => ?_)
                  · (try dsimp only); exact CF.out _ (Kept.trans KD (show Kept [] (World.drew V) (World.drew (World.alloc V (.cells #[] 3))) from Kept.alloc (World.drew V) (.cells #[] 3)) (by simp))
                  clear hK K hHeld
                  have hHeld := hHeld2
                  clear hHeld2
                  (try simp only [Act.put, List.setIfInBounds_toArray, List.set_cons_zero, List.set_cons_succ, List.getElem_toArray, List.getElem_cons_zero, List.getElem_cons_succ])
                  refine wpAnyH_ready (rs := [5]) (by kernel_rfl) (by simp) ?_
                  refine AllReadyH.cons rfl (fun K hK => ?_) AllReadyH.nil
                  (try simp only [List.getElem_toArray, List.getElem_cons_zero, List.getElem_cons_succ])
                  have c1x : ((World.drew (World.alloc V (.cells #[] 3)))).cell? ⟨rb, 1, none⟩ = some (.slice (some ⟨g, o, none⟩) l cap) := (CF1.out _ (Kept.trans KD (show Kept [] (World.drew V) (World.drew (World.alloc V (.cells #[] 3))) from Kept.alloc (World.drew V) (.cells #[] 3)) (by simp))).1
                  go_simp
                  clear c1x
                  refine hK.out _ _ ?_ (fun hHeld2 => ?_)
                  · (try dsimp only); exact CF.out _ (Kept.trans KD (show Kept [] (World.drew V) (World.drew (World.alloc V (.cells #[] 3))) from Kept.alloc (World.drew V) (.cells #[] 3)) (by simp))
                  clear hK K hHeld
                  have hHeld := hHeld2
                  clear hHeld2
                  (try simp only [Act.put, List.setIfInBounds_toArray, List.set_cons_zero, List.set_cons_succ, List.getElem_toArray, List.getElem_cons_zero, List.getElem_cons_succ])
                  refine wpAnyH_take (i := 13) (v := ?_) rfl (by kernel_rfl) (by kernel_rfl) (by kernel_rfl) (fun _ _ _ h => h) (Or.inl ⟨by rfl, ?_⟩) (by assumption) ?_
                  rotate_left; · (intro w hSw; (try dsimp only at hSw); go_simp; try with_reducible rfl)
                  (try simp only [Act.put, List.setIfInBounds_toArray, List.set_cons_zero, List.set_cons_succ, List.getElem_toArray, List.getElem_cons_zero, List.getElem_cons_succ])
                  refine wpAnyH_ready (rs := [14]) (by kernel_rfl) (by simp) ?_
                  refine AllReadyH.cons rfl (fun K hK => ?_) AllReadyH.nil
                  skip
                  have re : RowAt (World.drew (World.alloc V (.cells #[] 3))) 3 1 (World.heap (World.drew V)).size 0 0 0 [] := row_empty (World.drew V) 3 1
                  have se : Src Tryd.prog 1 22 (.slice (some ⟨g, o, none⟩) k cap) k ((q.xs.take k).map (Value.int .i64)) (World.drew (World.alloc V (.cells #[] 3))) := SRC.out _ (Kept.trans KD (show Kept [] (World.drew V) (World.drew (World.alloc V (.cells #[] 3))) from Kept.alloc (World.drew V) (.cells #[] 3)) (by simp))
                  refine step_append_q ?qhgd5 ?qs5 ?qx5 22 22 ?qho5 3 (.int .i64 0) 1 8 Tryd.underlying22 info3 rfl ?qg5 0 0 0 [] ?qhsv5 ?qhrow5 (.slice (some ⟨g, o, none⟩) k cap) ?qhxv5 k ((q.xs.take k).map (Value.int .i64)) ?qhs5 ?qh15 ?qh25 ?qhh5
                  case qho5 => rfl
                  case qhgd5 => rfl
                  case qhsv5 => rfl
                  case qhxv5 => rfl
                  case qhrow5 => simpa using re
                  case qhs5 => simpa using se
                  case qh15 => simp [maxLen]; omega
                  case qh25 => omega
                  intro g1 o1 cap1 w1 hr1 hgb1 hg1
                  have hgb1' : (World.drew (World.alloc V (.cells #[] 3))).grownBy w1 (some (World.heap (World.drew V)).size) := by simpa using hgb1
                  have hr1' : RowAt w1 3 1 g1 o1 cap1 k ((q.xs.take k).map (Value.int .i64)) := by simpa using hr1
                  have hv1 : V.heap.size ≤ g1 := by rcases hg1 with h | h <;> first | omega | (simp at h; omega)
                  have k1 : Kept [] V w1 := Kept.trans (Kept.trans KD (show Kept [] (World.drew V) (World.drew (World.alloc V (.cells #[] 3))) from Kept.alloc (World.drew V) (.cells #[] 3)) (by simp)) (Kept.of_grown hgb1') (fun x hx => .inr (by simp at hx; subst hx; simp))
                  refine hK.out _ _ ?_ (fun hHeld2 => ?_)
                  · (try dsimp only); exact CF.out _ k1
                  clear hK K hHeld
                  have hHeld := hHeld2
                  clear hHeld2
                  (try simp only [Act.put, List.setIfInBounds_toArray, List.set_cons_zero, List.set_cons_succ, List.getElem_toArray, List.getElem_cons_zero, List.getElem_cons_succ])
                  (try simp only [Nat.zero_add])
                  have d1x := (CF1.out _ k1).1
                  have f1x := (CF1.out _ k1).2
                  refine wpAnyH_take (i := 15) (v := ?_) rfl (by kernel_rfl) (by kernel_rfl) (by kernel_rfl) (fun _ _ _ h => h) (Or.inl ⟨by rfl, ?_⟩) (by assumption) ?_
                  rotate_left; · (intro w hSw; (try dsimp only at hSw); go_simp; try with_reducible rfl)
                  (try simp only [Act.put, List.setIfInBounds_toArray, List.set_cons_zero, List.set_cons_succ, List.getElem_toArray, List.getElem_cons_zero, List.getElem_cons_succ])
                  refine wpAnyH_take (i := 16) (v := ?_) rfl (by kernel_rfl) (by kernel_rfl) (by kernel_rfl) (fun _ _ _ h => h) (Or.inl ⟨by rfl, ?_⟩) (by assumption) ?_
                  rotate_left; · (intro w hSw; (try dsimp only at hSw); go_simp; try with_reducible rfl)
                  (try simp only [Act.put, List.setIfInBounds_toArray, List.set_cons_zero, List.set_cons_succ, List.getElem_toArray, List.getElem_cons_zero, List.getElem_cons_succ])
                  refine wpAnyH_ready (rs := [17]) (by kernel_rfl) (by simp) ?_
                  refine AllReadyH.cons rfl (fun K hK => ?_) AllReadyH.nil
                  (try simp only [List.getElem_toArray, List.getElem_cons_zero, List.getElem_cons_succ])
                  go_simp
                  refine hK.out _ _ ?_ (fun hHeld2 => ?_)
                  · (try dsimp only); exact CF12.out _ _ k1
                  clear hK K hHeld
                  have hHeld := hHeld2
                  clear hHeld2
                  (try simp only [Act.put, List.setIfInBounds_toArray, List.set_cons_zero, List.set_cons_succ, List.getElem_toArray, List.getElem_cons_zero, List.getElem_cons_succ])
                  refine wpAnyH_done (by kernel_rfl) ?_ _
                  have XF := RF.out _ k1 _ _ _ hr1' hv1
                  go_wp2
                  go_ret
                  exact XF
                refine AllReadyH.cons rfl (fun K hK => ?_) AllReadyH.nil
                (try simp only [List.getElem_toArray, List.getElem_cons_zero, List.getElem_cons_succ])
                have c1x : ((World.drew V)).cell? ⟨rb, 1, none⟩ = some (.slice (some ⟨g, o, none⟩) l cap) := (CF1.out _ KD).1
                go_simp
                clear c1x
                refine hK.out _ _ ?_ (fun hHeld2 => ?_)
                · (try dsimp only); exact CF.out _ KD
                clear hK K hHeld
                have hHeld := hHeld2
                clear hHeld2
                (try simp only [Act.put, List.setIfInBounds_toArray, List.set_cons_zero, List.set_cons_succ, List.getElem_toArray, List.getElem_cons_zero, List.getElem_cons_succ])
                refine wpAnyH_take (i := 13) (v := ?_) rfl (by kernel_rfl) (by kernel_rfl) (by kernel_rfl) (fun _ _ _ h => h) (Or.inl ⟨by rfl, ?_⟩) (by assumption) ?_
                rotate_left; · (intro w hSw; (try dsimp only at hSw); go_simp; try with_reducible rfl)
                (try simp only [Act.put, List.setIfInBounds_toArray, List.set_cons_zero, List.set_cons_succ, List.getElem_toArray, List.getElem_cons_zero, List.getElem_cons_succ])
                refine wpAnyH_ready (rs := [1]) (by kernel_rfl) (by simp) ?_
                refine AllReadyH.cons rfl (fun K hK => ?_) AllReadyH.nil
                (try simp only [List.getElem_toArray, List.getElem_cons_zero, List.getElem_cons_succ])
                go_simp
                refine hK.out _ _ ?_ (fun hHeld2 => ?_)
                · (try dsimp only); exact CF.out _ (Kept.trans KD (show Kept [] (World.drew V) (World.drew (World.alloc V (.cells #[] 3))) from Kept.alloc (World.drew V) (.cells #[] 3)) (by simp))
                clear hK K hHeld
                have hHeld := hHeld2
                clear hHeld2
                (try simp only [Act.put, List.setIfInBounds_toArray, List.set_cons_zero, List.set_cons_succ, List.getElem_toArray, List.getElem_cons_zero, List.getElem_cons_succ])
                refine wpAnyH_ready (rs := [14]) (by kernel_rfl) (by simp) ?_
                refine AllReadyH.cons rfl (fun K hK => ?_) AllReadyH.nil
                skip
                have re : RowAt (World.drew (World.alloc V (.cells #[] 3))) 3 1 (World.heap (World.drew V)).size 0 0 0 [] := row_empty (World.drew V) 3 1
                have se : Src Tryd.prog 1 22 (.slice (some ⟨g, o, none⟩) k cap) k ((q.xs.take k).map (Value.int .i64)) (World.drew (World.alloc V (.cells #[] 3))) := SRC.out _ (Kept.trans KD (show Kept [] (World.drew V) (World.drew (World.alloc V (.cells #[] 3))) from Kept.alloc (World.drew V) (.cells #[] 3)) (by simp))
                refine step_append_q ?qhgd6 ?qs6 ?qx6 22 22 ?qho6 3 (.int .i64 0) 1 8 Tryd.underlying22 info3 rfl ?qg6 0 0 0 [] ?qhsv6 ?qhrow6 (.slice (some ⟨g, o, none⟩) k cap) ?qhxv6 k ((q.xs.take k).map (Value.int .i64)) ?qhs6 ?qh16 ?qh26 ?qhh6
                case qho6 => rfl
                case qhgd6 => rfl
                case qhsv6 => rfl
                case qhxv6 => rfl
                case qhrow6 => simpa using re
                case qhs6 => simpa using se
                case qh16 => simp [maxLen]; omega
                case qh26 => omega
                intro g1 o1 cap1 w1 hr1 hgb1 hg1
                have hgb1' : (World.drew (World.alloc V (.cells #[] 3))).grownBy w1 (some (World.heap (World.drew V)).size) := by simpa using hgb1
                have hr1' : RowAt w1 3 1 g1 o1 cap1 k ((q.xs.take k).map (Value.int .i64)) := by simpa using hr1
                have hv1 : V.heap.size ≤ g1 := by rcases hg1 with h | h <;> first | omega | (simp at h; omega)
                have k1 : Kept [] V w1 := Kept.trans (Kept.trans KD (show Kept [] (World.drew V) (World.drew (World.alloc V (.cells #[] 3))) from Kept.alloc (World.drew V) (.cells #[] 3)) (by simp)) (Kept.of_grown hgb1') (fun x hx => .inr (by simp at hx; subst hx; simp))
                refine hK.out _ _ ?_ (fun hHeld2 => ?_)
                · (try dsimp only); exact CF.out _ k1
                clear hK K hHeld
                have hHeld := hHeld2
                clear hHeld2
                (try simp only [Act.put, List.setIfInBounds_toArray, List.set_cons_zero, List.set_cons_succ, List.getElem_toArray, List.getElem_cons_zero, List.getElem_cons_succ])
                (try simp only [Nat.zero_add])
                have d1x := (CF1.out _ k1).1
                have f1x := (CF1.out _ k1).2
                refine wpAnyH_take (i := 15) (v := ?_) rfl (by kernel_rfl) (by kernel_rfl) (by kernel_rfl) (fun _ _ _ h => h) (Or.inl ⟨by rfl, ?_⟩) (by assumption) ?_
                rotate_left; · (intro w hSw; (try dsimp only at hSw); go_simp; try with_reducible rfl)
                (try simp only [Act.put, List.setIfInBounds_toArray, List.set_cons_zero, List.set_cons_succ, List.getElem_toArray, List.getElem_cons_zero, List.getElem_cons_succ])
                refine wpAnyH_take (i := 16) (v := ?_) rfl (by kernel_rfl) (by kernel_rfl) (by kernel_rfl) (fun _ _ _ h => h) (Or.inl ⟨by rfl, ?_⟩) (by assumption) ?_
                rotate_left; · (intro w hSw; (try dsimp only at hSw); go_simp; try with_reducible rfl)
                (try simp only [Act.put, List.setIfInBounds_toArray, List.set_cons_zero, List.set_cons_succ, List.getElem_toArray, List.getElem_cons_zero, List.getElem_cons_succ])
                refine wpAnyH_ready (rs := [17]) (by kernel_rfl) (by simp) ?_
                refine AllReadyH.cons rfl (fun K hK => ?_) AllReadyH.nil
                (try simp only [List.getElem_toArray, List.getElem_cons_zero, List.getElem_cons_succ])
                go_simp
                refine hK.out _ _ ?_ (fun hHeld2 => ?_)
                · (try dsimp only); exact CF12.out _ _ k1
                clear hK K hHeld
                have hHeld := hHeld2
                clear hHeld2
                (try simp only [Act.put, List.setIfInBounds_toArray, List.set_cons_zero, List.set_cons_succ, List.getElem_toArray, List.getElem_cons_zero, List.getElem_cons_succ])
                refine wpAnyH_done (by kernel_rfl) ?_ _
                have XF := RF.out _ k1 _ _ _ hr1' hv1
                go_wp2
                go_ret
                exact XF
              · have s3 : decide (c < wr0) = false := by simpa using b3
                have WEQ : Hid (closeW f q G = wr0) := Lib.hid (by unfold closeW; rw [HB1.out, HB2.out, if_neg (fun e => by rcases e.2 with e | e; exact b2 (WRH.out ▸ e); exact b3 (WRH.out ▸ e))]; exact WRH.out)
                have RX : Hid (RqAt V0 rb fp (.slice (some ⟨g, o, none⟩) l cap) gv { q with wrong := wr0 } G) := Lib.hid (by rw [← WRH.out]; exact R0.out)
                have KX := K0
                clear hwr b1 b2 b3
                have c5x := RX.out.c5
                have f5x := RX.out.f 5
                have R5 := RX.out.set 5 (.bool true) (q' := { q with wrong := wr0, closed := true }) (sv' := (.slice (some ⟨g, o, none⟩) l cap)) (gv' := gv) (G' := G) rfl RX.out.row RX.out.gs RX.out.ne RX.out.small
                have c4x := R5.c4
                have f4x := R5.f 4
                have R4 : Hid (RqAt ((V0.setCell ⟨rb, 5, none⟩ (.bool true)).setCell ⟨rb, 4, none⟩ (.int .i64 f)) rb fp (.slice (some ⟨g, o, none⟩) l cap) gv { q with wrong := wr0, closed := true, fin := f } G) := Lib.hid (R5.set 4 (.int .i64 f) rfl R5.row R5.gs R5.ne R5.small)
                have K4 : Hid (Kept [rb] w ((V0.setCell ⟨rb, 5, none⟩ (.bool true)).setCell ⟨rb, 4, none⟩ (.int .i64 f))) := Lib.hid ((KX.out.trans (Kept.setCell V0 rb 5 (.bool true)) (by simp)).trans (Kept.setCell _ rb 4 (.int .i64 f)) (by simp))
                clear R5
                go_wp2_with fail
                obtain ⟨V, hV⟩ : ∃ V, V = (V0.setCell ⟨rb, 5, none⟩ (.bool true)).setCell ⟨rb, 4, none⟩ (.int .i64 f) := ⟨_, rfl⟩
                rw [← hV] at R4 K4 ⊢
                clear hV c5x f5x c4x f4x
                have KD : Kept [] V V.drew := (Kept.refl [] V).drew
                have CF : Hid (∀ wx, Kept [] V wx → wx.cell? ⟨rb, 0, none⟩ = some (.int .i64 fst)) := Lib.hid (fun wx hk => by
                  have := (R4.out.kept hk (by simp) (by simp)).c0
                  rw [← FST.out]
                  exact this)
                have CF12 : Hid (∀ wx v, Kept [] V wx → (wx.setCell ⟨rb, 1, none⟩ v).cell? ⟨rb, 0, none⟩ = some (.int .i64 fst)) := Lib.hid (fun wx v hk => by
                  have hc := (R4.out.kept hk (by simp) (by simp)).cell
                  rw [World.cell?, heap_setCell_at hc, ← FST.out]
                  rfl)
                have CF1 : Hid (∀ wx, Kept [] V wx → wx.cell? ⟨rb, 1, none⟩ = some (.slice (some ⟨g, o, none⟩) l cap) ∧ wx.frozen? ⟨rb, 1, none⟩ = false) := Lib.hid (fun wx hk => by
                  have r := R4.out.kept hk (by simp) (by simp)
                  exact ⟨r.c1, r.f 1⟩)
                have SRC : Hid (∀ wx, Kept [] V wx → Src Tryd.prog 1 22 (.slice (some ⟨g, o, none⟩) k cap) k ((q.xs.take k).map (Value.int .i64)) wx) := Lib.hid (fun wx hk => by
                  have r := R4.out.kept hk (by simp) (by simp)
                  have hrow : RowAt wx 3 1 g o cap l (q.xs.map (Value.int .i64)) := by
                    rcases r.row with ⟨h0, _, _⟩ | ⟨g', o', cap', h1, _, h3⟩
                    · cases h0
                    · simp only at h1 h3
                      rw [HL.out] at h1 h3
                      cases h1
                      exact h3
                  have ht := hrow.takeCap (k := k) (by omega)
                  rw [← List.map_take] at ht
                  exact RowN.src (.inr ⟨g, o, cap, rfl, List.mem_singleton.2 rfl, ht⟩) (int_one _ _) Tryd.underlying22)
                have RF : Hid (∀ w1, Kept [] V w1 → ∀ g1 o1 cap1, RowAt w1 3 1 g1 o1 cap1 k ((q.xs.take k).map (Value.int .i64)) → V.heap.size ≤ g1 → RqDone w rb fp { q with xs := q.xs.take k, wrong := closeW f q G, closed := true, fin := f } G (.int .i64 0) (.returned (.int .i64 0)) (w1.setCell ⟨rb, 1, none⟩ (.slice (some ⟨g1, o1, none⟩) k cap1))) := Lib.hid (fun w1 hk g1 o1 cap1 hr hg => by
                  have r := R4.out.kept hk (by simp) (by simp)
                  have hlt := R4.out.lt
                  have hsz := K4.out.size
                  have hkl : (q.xs.take k).length = k := by rw [List.length_take, HL.out]; omega
                  refine ⟨rfl, g1 :: fp, _, gv, r.set 1 _ (by rw [WEQ.out]; rfl) (.inr ⟨g1, o1, cap1, by rw [hkl], by simp, by rw [hkl]; exact hr⟩) (r.gs.fpMono (by simp; exact fun x hx => .inr hx)) (by simp; exact ⟨by omega, r.ne⟩) ?_, (K4.out.trans hk (by simp)).trans (Kept.setCell w1 rb 1 _) (by simp), fun y hy => ?_⟩
                  · intro y hy
                    simp at hy
                    rcases hy with rfl | hy
                    · exact hr.lt
                    · exact r.small y hy
                  · simp at hy
                    rcases hy with rfl | hy
                    · exact .inr (by omega)
                    · exact .inl hy)
                clear R4 K4 KX RX
                refine wp_region_held_drew (S := (fun w' => w'.cell? ⟨rb, 0, none⟩ = some (.int .i64 fst))) (by kernel_rfl) ?_ (fun hHeld => ?_)
                · (try dsimp only); exact CF.out _ KD
                refine wpAnyH_take (i := 0) (v := ?_) rfl (by kernel_rfl) (by kernel_rfl) (by kernel_rfl) (fun _ _ _ h => h) (Or.inl ⟨by rfl, ?_⟩) (by assumption) ?_
                rotate_left; · (intro w hSw; (try dsimp only at hSw); go_simp; try with_reducible rfl)
                (try simp only [Act.put, List.setIfInBounds_toArray, List.set_cons_zero, List.set_cons_succ, List.getElem_toArray, List.getElem_cons_zero, List.getElem_cons_succ])
                refine wpAnyH_take (i := 2) (v := ?_) rfl (by kernel_rfl) (by kernel_rfl) (by kernel_rfl) (fun _ _ _ h => h) (Or.inl ⟨by rfl, ?_⟩) (by assumption) ?_
                rotate_left; · (intro w hSw; (try dsimp only at hSw); go_simp; try with_reducible rfl)
                (try simp only [Act.put, List.setIfInBounds_toArray, List.set_cons_zero, List.set_cons_succ, List.getElem_toArray, List.getElem_cons_zero, List.getElem_cons_succ])
                refine wpAnyH_take (i := 3) (v := ?_) rfl (by kernel_rfl) (by kernel_rfl) (by kernel_rfl) (fun _ _ _ h => h) (Or.inl ⟨by rfl, ?_⟩) (by assumption) ?_
                rotate_left; · (intro w hSw; (try dsimp only at hSw); go_simp; try with_reducible rfl)
                (try simp only [Act.put, List.setIfInBounds_toArray, List.set_cons_zero, List.set_cons_succ, List.getElem_toArray, List.getElem_cons_zero, List.getElem_cons_succ])
                refine wpAnyH_take (i := 4) (v := ?_) rfl (by kernel_rfl) (by kernel_rfl) (by kernel_rfl) (fun _ _ _ h => h) (Or.inl ⟨by rfl, ?_⟩) (by assumption) ?_
                rotate_left; · (intro w hSw; (try dsimp only at hSw); go_simp; try with_reducible rfl)
                (try simp only [Act.put, List.setIfInBounds_toArray, List.set_cons_zero, List.set_cons_succ, List.getElem_toArray, List.getElem_cons_zero, List.getElem_cons_succ])
                refine wpAnyH_take (i := 6) (v := ?_) rfl (by kernel_rfl) (by kernel_rfl) (by kernel_rfl) (fun _ _ _ h => h) (Or.inl ⟨by rfl, ?_⟩) (by assumption) ?_
                rotate_left; · (intro w hSw; (try dsimp only at hSw); go_simp; try with_reducible rfl)
                (try simp only [Act.put, List.setIfInBounds_toArray, List.set_cons_zero, List.set_cons_succ, List.getElem_toArray, List.getElem_cons_zero, List.getElem_cons_succ])
                refine wpAnyH_take (i := 7) (v := ?_) rfl (by kernel_rfl) (by kernel_rfl) (by kernel_rfl) (fun _ _ _ h => h) (Or.inl ⟨by rfl, ?_⟩) (by assumption) ?_
                rotate_left; · (intro w hSw; (try dsimp only at hSw); go_simp; try with_reducible rfl)
                (try simp only [Act.put, List.setIfInBounds_toArray, List.set_cons_zero, List.set_cons_succ, List.getElem_toArray, List.getElem_cons_zero, List.getElem_cons_succ])
                refine wpAnyH_take (i := 8) (v := ?_) rfl (by kernel_rfl) (by kernel_rfl) (by kernel_rfl) (fun _ _ _ h => h) (Or.inl ⟨by rfl, ?_⟩) (by assumption) ?_
                rotate_left; · (intro w hSw; (try dsimp only at hSw); go_simp; try with_reducible rfl)
                (try simp only [Act.put, List.setIfInBounds_toArray, List.set_cons_zero, List.set_cons_succ, List.getElem_toArray, List.getElem_cons_zero, List.getElem_cons_succ])
                refine wpAnyH_take (i := 9) (v := ?_) rfl (by kernel_rfl) (by kernel_rfl) (by kernel_rfl) (fun _ _ _ h => h) (Or.inl ⟨by rfl, ?_⟩) (by assumption) ?_
                rotate_left; · (intro w hSw; (try dsimp only at hSw); go_simp; try with_reducible rfl)
                (try simp only [Act.put, List.setIfInBounds_toArray, List.set_cons_zero, List.set_cons_succ, List.getElem_toArray, List.getElem_cons_zero, List.getElem_cons_succ])
                refine wpAnyH_take (i := 10) (v := ?_) rfl (by kernel_rfl) (by kernel_rfl) (by kernel_rfl) (fun _ _ _ h => h) (Or.inl ⟨by rfl, ?_⟩) (by assumption) ?_
                rotate_left; · (intro w hSw; (try dsimp only at hSw); go_simp; try with_reducible rfl)
                (try simp only [Act.put, List.setIfInBounds_toArray, List.set_cons_zero, List.set_cons_succ, List.getElem_toArray, List.getElem_cons_zero, List.getElem_cons_succ])
                refine wpAnyH_take (i := 11) (v := ?_) rfl (by kernel_rfl) (by kernel_rfl) (by kernel_rfl) (fun _ _ _ h => h) (Or.inl ⟨by rfl, ?_⟩) (by assumption) ?_
                rotate_left; · (intro w hSw; (try dsimp only at hSw); go_simp; try with_reducible rfl)
                (try simp only [Act.put, List.setIfInBounds_toArray, List.set_cons_zero, List.set_cons_succ, List.getElem_toArray, List.getElem_cons_zero, List.getElem_cons_succ])
                refine wpAnyH_take (i := 12) (v := ?_) rfl (by kernel_rfl) (by kernel_rfl) (by kernel_rfl) (fun _ _ _ h => h) (Or.inl ⟨by rfl, ?_⟩) (by assumption) ?_
                rotate_left; · (intro w hSw; (try dsimp only at hSw); go_simp; try with_reducible rfl)
                (try simp only [Act.put, List.setIfInBounds_toArray, List.set_cons_zero, List.set_cons_succ, List.getElem_toArray, List.getElem_cons_zero, List.getElem_cons_succ])
                refine wpAnyH_ready (rs := [1, 5]) (by kernel_rfl) (by simp) ?_
                refine AllReadyH.cons rfl (fun K hK => ?_) ?_
                · (try simp only [List.getElem_toArray, List.getElem_cons_zero, List.getElem_cons_succ])
                  go_simp
                  refine hK.out _ _ ?_ (fun hHeld2 => ?_)
                  · (try dsimp only); exact CF.out _ (Kept.trans KD (show Kept [] (World.drew V) (World.drew (World.alloc V (.cells #[] 3))) from Kept.alloc (World.drew V) (.cells #[] 3)) (by simp))
                  clear hK K hHeld
                  have hHeld := hHeld2
                  clear hHeld2
                  (try simp only [Act.put, List.setIfInBounds_toArray, List.set_cons_zero, List.set_cons_succ, List.getElem_toArray, List.getElem_cons_zero, List.getElem_cons_succ])
                  refine wpAnyH_ready (rs := [5]) (by kernel_rfl) (by simp) ?_
                  refine AllReadyH.cons rfl (fun K hK => ?_) AllReadyH.nil
                  (try simp only [List.getElem_toArray, List.getElem_cons_zero, List.getElem_cons_succ])
                  have c1x : ((World.drew (World.alloc V (.cells #[] 3)))).cell? ⟨rb, 1, none⟩ = some (.slice (some ⟨g, o, none⟩) l cap) := (CF1.out _ (Kept.trans KD (show Kept [] (World.drew V) (World.drew (World.alloc V (.cells #[] 3))) from Kept.alloc (World.drew V) (.cells #[] 3)) (by simp))).1
                  go_simp
                  clear c1x
                  refine hK.out _ _ ?_ (fun hHeld2 => ?_)
                  · (try dsimp only); exact CF.out _ (Kept.trans KD (show Kept [] (World.drew V) (World.drew (World.alloc V (.cells #[] 3))) from Kept.alloc (World.drew V) (.cells #[] 3)) (by simp))
                  clear hK K hHeld
                  have hHeld := hHeld2
                  clear hHeld2
                  (try simp only [Act.put, List.setIfInBounds_toArray, List.set_cons_zero, List.set_cons_succ, List.getElem_toArray, List.getElem_cons_zero, List.getElem_cons_succ])
                  refine wpAnyH_take (i := 13) (v := ?_) rfl (by kernel_rfl) (by kernel_rfl) (by kernel_rfl) (fun _ _ _ h => h) (Or.inl ⟨by rfl, ?_⟩) (by assumption) ?_
                  rotate_left; · (intro w hSw; (try dsimp only at hSw); go_simp; try with_reducible rfl)
                  (try simp only [Act.put, List.setIfInBounds_toArray, List.set_cons_zero, List.set_cons_succ, List.getElem_toArray, List.getElem_cons_zero, List.getElem_cons_succ])
                  refine wpAnyH_ready (rs := [14]) (by kernel_rfl) (by simp) ?_
                  refine AllReadyH.cons rfl (fun K hK => ?_) AllReadyH.nil
                  skip
                  have re : RowAt (World.drew (World.alloc V (.cells #[] 3))) 3 1 (World.heap (World.drew V)).size 0 0 0 [] := row_empty (World.drew V) 3 1
                  have se : Src Tryd.prog 1 22 (.slice (some ⟨g, o, none⟩) k cap) k ((q.xs.take k).map (Value.int .i64)) (World.drew (World.alloc V (.cells #[] 3))) := SRC.out _ (Kept.trans KD (show Kept [] (World.drew V) (World.drew (World.alloc V (.cells #[] 3))) from Kept.alloc (World.drew V) (.cells #[] 3)) (by simp))
                  refine step_append_q ?qhgd7 ?qs7 ?qx7 22 22 ?qho7 3 (.int .i64 0) 1 8 Tryd.underlying22 info3 rfl ?qg7 0 0 0 [] ?qhsv7 ?qhrow7 (.slice (some ⟨g, o, none⟩) k cap) ?qhxv7 k ((q.xs.take k).map (Value.int .i64)) ?qhs7 ?qh17 ?qh27 ?qhh7
                  case qho7 => rfl
                  case qhgd7 => rfl
                  case qhsv7 => rfl
                  case qhxv7 => rfl
                  case qhrow7 => simpa using re
                  case qhs7 => simpa using se
                  case qh17 => simp [maxLen]; omega
                  case qh27 => omega
                  intro g1 o1 cap1 w1 hr1 hgb1 hg1
                  have hgb1' : (World.drew (World.alloc V (.cells #[] 3))).grownBy w1 (some (World.heap (World.drew V)).size) := by simpa using hgb1
                  have hr1' : RowAt w1 3 1 g1 o1 cap1 k ((q.xs.take k).map (Value.int .i64)) := by simpa using hr1
                  have hv1 : V.heap.size ≤ g1 := by rcases hg1 with h | h <;> first | omega | (simp at h; omega)
                  have k1 : Kept [] V w1 := Kept.trans (Kept.trans KD (show Kept [] (World.drew V) (World.drew (World.alloc V (.cells #[] 3))) from Kept.alloc (World.drew V) (.cells #[] 3)) (by simp)) (Kept.of_grown hgb1') (fun x hx => .inr (by simp at hx; subst hx; simp))
                  refine hK.out _ _ ?_ (fun hHeld2 => ?_)
                  · (try dsimp only); exact CF.out _ k1
                  clear hK K hHeld
                  have hHeld := hHeld2
                  clear hHeld2
                  (try simp only [Act.put, List.setIfInBounds_toArray, List.set_cons_zero, List.set_cons_succ, List.getElem_toArray, List.getElem_cons_zero, List.getElem_cons_succ])
                  (try simp only [Nat.zero_add])
                  have d1x := (CF1.out _ k1).1
                  have f1x := (CF1.out _ k1).2
                  refine wpAnyH_take (i := 15) (v := ?_) rfl (by kernel_rfl) (by kernel_rfl) (by kernel_rfl) (fun _ _ _ h => h) (Or.inl ⟨by rfl, ?_⟩) (by assumption) ?_
                  rotate_left; · (intro w hSw; (try dsimp only at hSw); go_simp; try with_reducible rfl)
                  (try simp only [Act.put, List.setIfInBounds_toArray, List.set_cons_zero, List.set_cons_succ, List.getElem_toArray, List.getElem_cons_zero, List.getElem_cons_succ])
                  refine wpAnyH_take (i := 16) (v := ?_) rfl (by kernel_rfl) (by kernel_rfl) (by kernel_rfl) (fun _ _ _ h => h) (Or.inl ⟨by rfl, ?_⟩) (by assumption) ?_
                  rotate_left; · (intro w hSw; (try dsimp only at hSw); go_simp; try with_reducible rfl)
                  (try simp only [Act.put, List.setIfInBounds_toArray, List.set_cons_zero, List.set_cons_succ, List.getElem_toArray, List.getElem_cons_zero, List.getElem_cons_succ])
                  refine wpAnyH_ready (rs := [17]) (by kernel_rfl) (by simp) ?_
                  refine AllReadyH.cons rfl (fun K hK => ?_) AllReadyH.nil
                  (try simp only [List.getElem_toArray, List.getElem_cons_zero, List.getElem_cons_succ])
                  go_simp
                  refine hK.out _ _ ?_ (fun hHeld2 => ?_)
                  · (try dsimp only); exact CF12.out _ _ k1
                  clear hK K hHeld
                  have hHeld := hHeld2
                  clear hHeld2
                  (try simp only [Act.put, List.setIfInBounds_toArray, List.set_cons_zero, List.set_cons_succ, List.getElem_toArray, List.getElem_cons_zero, List.getElem_cons_succ])
                  refine wpAnyH_done (by kernel_rfl) ?_ _
                  have XF := RF.out _ k1 _ _ _ hr1' hv1
                  go_wp2
                  go_ret
                  exact XF
                refine AllReadyH.cons rfl (fun K hK => ?_) AllReadyH.nil
                (try simp only [List.getElem_toArray, List.getElem_cons_zero, List.getElem_cons_succ])
                have c1x : ((World.drew V)).cell? ⟨rb, 1, none⟩ = some (.slice (some ⟨g, o, none⟩) l cap) := (CF1.out _ KD).1
                go_simp
                clear c1x
                refine hK.out _ _ ?_ (fun hHeld2 => ?_)
                · (try dsimp only); exact CF.out _ KD
                clear hK K hHeld
                have hHeld := hHeld2
                clear hHeld2
                (try simp only [Act.put, List.setIfInBounds_toArray, List.set_cons_zero, List.set_cons_succ, List.getElem_toArray, List.getElem_cons_zero, List.getElem_cons_succ])
                refine wpAnyH_take (i := 13) (v := ?_) rfl (by kernel_rfl) (by kernel_rfl) (by kernel_rfl) (fun _ _ _ h => h) (Or.inl ⟨by rfl, ?_⟩) (by assumption) ?_
                rotate_left; · (intro w hSw; (try dsimp only at hSw); go_simp; try with_reducible rfl)
                (try simp only [Act.put, List.setIfInBounds_toArray, List.set_cons_zero, List.set_cons_succ, List.getElem_toArray, List.getElem_cons_zero, List.getElem_cons_succ])
                refine wpAnyH_ready (rs := [1]) (by kernel_rfl) (by simp) ?_
                refine AllReadyH.cons rfl (fun K hK => ?_) AllReadyH.nil
                (try simp only [List.getElem_toArray, List.getElem_cons_zero, List.getElem_cons_succ])
                go_simp
                refine hK.out _ _ ?_ (fun hHeld2 => ?_)
                · (try dsimp only); exact CF.out _ (Kept.trans KD (show Kept [] (World.drew V) (World.drew (World.alloc V (.cells #[] 3))) from Kept.alloc (World.drew V) (.cells #[] 3)) (by simp))
                clear hK K hHeld
                have hHeld := hHeld2
                clear hHeld2
                (try simp only [Act.put, List.setIfInBounds_toArray, List.set_cons_zero, List.set_cons_succ, List.getElem_toArray, List.getElem_cons_zero, List.getElem_cons_succ])
                refine wpAnyH_ready (rs := [14]) (by kernel_rfl) (by simp) ?_
                refine AllReadyH.cons rfl (fun K hK => ?_) AllReadyH.nil
                skip
                have re : RowAt (World.drew (World.alloc V (.cells #[] 3))) 3 1 (World.heap (World.drew V)).size 0 0 0 [] := row_empty (World.drew V) 3 1
                have se : Src Tryd.prog 1 22 (.slice (some ⟨g, o, none⟩) k cap) k ((q.xs.take k).map (Value.int .i64)) (World.drew (World.alloc V (.cells #[] 3))) := SRC.out _ (Kept.trans KD (show Kept [] (World.drew V) (World.drew (World.alloc V (.cells #[] 3))) from Kept.alloc (World.drew V) (.cells #[] 3)) (by simp))
                refine step_append_q ?qhgd8 ?qs8 ?qx8 22 22 ?qho8 3 (.int .i64 0) 1 8 Tryd.underlying22 info3 rfl ?qg8 0 0 0 [] ?qhsv8 ?qhrow8 (.slice (some ⟨g, o, none⟩) k cap) ?qhxv8 k ((q.xs.take k).map (Value.int .i64)) ?qhs8 ?qh18 ?qh28 ?qhh8
                case qho8 => rfl
                case qhgd8 => rfl
                case qhsv8 => rfl
                case qhxv8 => rfl
                case qhrow8 => simpa using re
                case qhs8 => simpa using se
                case qh18 => simp [maxLen]; omega
                case qh28 => omega
                intro g1 o1 cap1 w1 hr1 hgb1 hg1
                have hgb1' : (World.drew (World.alloc V (.cells #[] 3))).grownBy w1 (some (World.heap (World.drew V)).size) := by simpa using hgb1
                have hr1' : RowAt w1 3 1 g1 o1 cap1 k ((q.xs.take k).map (Value.int .i64)) := by simpa using hr1
                have hv1 : V.heap.size ≤ g1 := by rcases hg1 with h | h <;> first | omega | (simp at h; omega)
                have k1 : Kept [] V w1 := Kept.trans (Kept.trans KD (show Kept [] (World.drew V) (World.drew (World.alloc V (.cells #[] 3))) from Kept.alloc (World.drew V) (.cells #[] 3)) (by simp)) (Kept.of_grown hgb1') (fun x hx => .inr (by simp at hx; subst hx; simp))
                refine hK.out _ _ ?_ (fun hHeld2 => ?_)
                · (try dsimp only); exact CF.out _ k1
                clear hK K hHeld
                have hHeld := hHeld2
                clear hHeld2
                (try simp only [Act.put, List.setIfInBounds_toArray, List.set_cons_zero, List.set_cons_succ, List.getElem_toArray, List.getElem_cons_zero, List.getElem_cons_succ])
                (try simp only [Nat.zero_add])
                have d1x := (CF1.out _ k1).1
                have f1x := (CF1.out _ k1).2
                refine wpAnyH_take (i := 15) (v := ?_) rfl (by kernel_rfl) (by kernel_rfl) (by kernel_rfl) (fun _ _ _ h => h) (Or.inl ⟨by rfl, ?_⟩) (by assumption) ?_
                rotate_left; · (intro w hSw; (try dsimp only at hSw); go_simp; try with_reducible rfl)
                (try simp only [Act.put, List.setIfInBounds_toArray, List.set_cons_zero, List.set_cons_succ, List.getElem_toArray, List.getElem_cons_zero, List.getElem_cons_succ])
                refine wpAnyH_take (i := 16) (v := ?_) rfl (by kernel_rfl) (by kernel_rfl) (by kernel_rfl) (fun _ _ _ h => h) (Or.inl ⟨by rfl, ?_⟩) (by assumption) ?_
                rotate_left; · (intro w hSw; (try dsimp only at hSw); go_simp; try with_reducible rfl)
                (try simp only [Act.put, List.setIfInBounds_toArray, List.set_cons_zero, List.set_cons_succ, List.getElem_toArray, List.getElem_cons_zero, List.getElem_cons_succ])
                refine wpAnyH_ready (rs := [17]) (by kernel_rfl) (by simp) ?_
                refine AllReadyH.cons rfl (fun K hK => ?_) AllReadyH.nil
                (try simp only [List.getElem_toArray, List.getElem_cons_zero, List.getElem_cons_succ])
                go_simp
                refine hK.out _ _ ?_ (fun hHeld2 => ?_)
                · (try dsimp only); exact CF12.out _ _ k1
                clear hK K hHeld
                have hHeld := hHeld2
                clear hHeld2
                (try simp only [Act.put, List.setIfInBounds_toArray, List.set_cons_zero, List.set_cons_succ, List.getElem_toArray, List.getElem_cons_zero, List.getElem_cons_succ])
                refine wpAnyH_done (by kernel_rfl) ?_ _
                have XF := RF.out _ k1 _ _ _ hr1' hv1
                go_wp2
                go_ret
                exact XF

end

end Go.Proofs.YtkpbjahjiajodaaDoor
