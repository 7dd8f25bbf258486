/- This text proves what the reference's queue does when an input is put, over the loaded program. -/
import Derived.Test.YtkpbjahjiajodaaDoorRQ1
namespace Go.Proofs.YtkpbjahjiajodaaDoor
open Go.RowKit Go.WideShapes
set_option linter.unusedSimpArgs false

theorem RowN.src {w : World} {T t : TypeId} {size n : Nat} {fp : List Nat} {sv : Value} {xs : List Value} (h : RowN w T size fp sv n xs) (h1 : ∀ u ∈ xs, u.oneCell' = true) (ht : Tryd.prog.underlying t = some (.slice T)) : Src Tryd.prog size t sv n xs w := by
  rcases h with ⟨rfl, rfl, rfl⟩ | ⟨g, o, cap, rfl, _, hr⟩
  · exact Src.ofNil w ht 0
  · exact Src.ofSlice w ht _ n cap xs hr.1 (fun j u hj => by rw [add_plain]; exact hr.cell j u hj) h1
theorem row_empty (w : World) (T : TypeId) (size : Nat) : RowAt (w.alloc (.cells #[] T)) T size w.heap.size 0 0 0 [] :=
  ⟨by simp, Nat.le_refl _, by simp [maxLen], #[], heap_alloc_new w _, by simp, fun i v h => by simp at h⟩

theorem two_appends {V w1 w2 : World} {g1 : Nat} {ob e : Obj} (k1 : Kept [V.heap.size] V w1) (hg1 : g1 = V.heap.size ∨ g1 = (V.alloc e).heap.size) (hg : (w1.alloc ob).grownBy w2 (some g1)) : Kept [] V w2 ∧ V.heap.size ≤ g1 := by
  have h1 : V.heap.size ≤ g1 := by rcases hg1 with h | h; omega; simp at h; omega
  exact ⟨((k1.mono (fp' := []) (fun x hx => .inr (by simp at hx; omega))).trans (Kept.alloc w1 ob) (by simp)).trans (Kept.of_grown hg) (fun x hx => .inr (by simp at hx; omega)), h1⟩

/-- What the guesses blame when an input is put. -/
def putW (f x : Int) : List (Int × Int) → Int → Int
  | [], wr => wr
  | p :: r, wr => putW f x r (if p.1 = f ∧ p.2 ≠ x ∧ wr = 0 then f else wr)
theorem putW_same (f x : Int) (G : List (Int × Int)) (wr : Int) (h : wr ≠ 0) : putW f x G wr = wr := by
  induction G with
  | nil => rfl
  | cons p r ih => unfold putW; rw [if_neg (fun e => h e.2.2)]; exact ih
theorem putW_none (f x : Int) (G : List (Int × Int)) (wr : Int) (h : ∀ p ∈ G, p.1 ≠ f) : putW f x G wr = wr := by
  induction G with
  | nil => rfl
  | cons p r ih => unfold putW; rw [if_neg (fun e => h p (by simp) e.1)]; exact ih (fun p hp => h p (by simp [hp]))
theorem look_none {G : List (Int × Int)} {f : Int} (h : ∀ p ∈ G, p.1 ≠ f) : look G f = none := by
  unfold look
  rw [List.find?_eq_none.2 (by simpa using h)]
  rfl
theorem look_cons (p : Int × Int) (r : List (Int × Int)) (f : Int) : look (p :: r) f = if p.1 = f then some p.2 else look r f := by
  unfold look
  rw [List.find?_cons]
  by_cases h : p.1 = f
  · simp [h]
  · have h2 : (p.1 == f) = false := by simpa using h
    simp [h, h2]
theorem putW_look (f x : Int) (G : List (Int × Int)) (wr : Int) (hn : (G.map (·.1)).Nodup) : putW f x G wr = if (look G f).isSome ∧ (look G f).getD 0 ≠ x ∧ wr = 0 then f else wr := by
  induction G with
  | nil => simp [putW, look]
  | cons p r ih =>
    rw [List.map_cons, List.nodup_cons] at hn
    rw [look_cons]
    unfold putW
    by_cases h : p.1 = f
    · rw [if_pos h]
      have hr : ∀ p' ∈ r, p'.1 ≠ f := fun p' hp' e => hn.1 (List.mem_map.2 ⟨p', hp', by rw [e, h]⟩)
      rw [putW_none f x r _ hr]
      simp [h]
    · rw [if_neg h, if_neg (fun e => h e.1)]
      exact ih hn.2

section
variable {w : World} {rb : Nat} {fp : List Nat} {sv gv : Value} {q : Que} {G : List (Int × Int)}

set_option maxRecDepth 100000 in
set_option maxHeartbeats 1600000 in
theorem rqput_ok (h : RqAt w rb fp sv gv q G) (hok : q.ok) (hG : G.length ≤ 1000000) (f x : Int) (he : q.err f x = none) :
    Calls Tryd.prog 47 #[.pointer (some ⟨rb, 0, none⟩), .int .i64 f, .int .i64 x] w (RqDone w rb fp { q with xs := q.xs ++ [x], wrong := putW f x G q.wrong } G (.int .i64 0)) := by
  unfold Que.err at he
  split at he <;> try cases he
  rename_i e1
  split at he <;> try cases he
  rename_i e2
  split at he <;> try cases he
  rename_i e3
  split at he <;> try cases he
  rename_i e4
  split at he <;> try cases he
  rename_i e5
  have LA := Lib.hid (fun k => rqlast_any (h.drewN k) hok)
  obtain ⟨L, hL⟩ : ∃ x, q.last = x := ⟨_, rfl⟩
  rw [hL] at e3 e4 LA
  have c5 := h.c5
  have hc : q.closed = false := by simpa using e2
  rw [hc] at c5
  obtain ⟨A, cap, hsv, hl1, hl2, _⟩ := h.row.slice
  have c1 := h.c1
  obtain ⟨l, hl⟩ : ∃ l, q.xs.length = l := ⟨_, rfl⟩
  have HL := Lib.hid hl
  rw [hl] at hsv e5
  subst hsv
  have H := Lib.hid h
  have t1 : decide (x < 0) = false := by simp; omega
  have t2 : decide (255 < x) = false := by simp; omega
  have t3 : decide (f ≤ L) = false := by simp; omega
  have ew : IntKind.i64.wrap (L + 1) = L + 1 := by
    have := hok.1; have := hok.2.1; have := hok.2.2; unfold Que.last at hL
    exact IntWalk.i64_in _ (by omega)
  have t4 : decide (L + 1 < f) = false := by simp; omega
  have t5 : decide (1073741824 < f) = false := by simp; omega
  have t6 : decide ((256 : Int) ≤ (l : Int)) = false := by simp; omega
  have l256 : l ≤ 256 := by omega
  have hlt := h.lt
  have F1 : f ≠ 0 := by have := hok.1; unfold Que.last at hL; omega
  have OK := Lib.hid hok
  clear h hok hL hl e1 e2 e3 e4 e5 hc
  go_enter Tryd.func47, Tryd.ntmps47
  go_wp2_with fail
  refine (LA.out 0).mono ?_
  rintro e w1 ⟨rfl, k1, rfl⟩
  go_wp2_with fail
  refine (LA.out _).mono ?_
  rintro e w1 ⟨rfl, k2, rfl⟩
  obtain ⟨V, hV⟩ : ∃ V, V = (w.drewN k1).drewN k2 := ⟨_, rfl⟩
  rw [← hV]
  have HV : Hid (RqAt V rb fp (.slice A l cap) gv q G) := Lib.hid (by rw [hV]; exact (H.out.drewN k1).drewN k2)
  have KV : Hid (Kept [] w V) := Lib.hid (by rw [hV]; exact (Kept.drewN [] w k1).trans (Kept.drewN [] _ k2) (by simp))
  have c1 := HV.out.c1
  have hVl := HV.out.lt
  clear hV
  have al := Kept.alloc V (.cells #[] 3)
  have R0H := Lib.hid (row_empty V 3 1)
  have SRC1 : Hid (Src Tryd.prog 1 22 (.slice A l cap) l (q.xs.map (Value.int .i64)) (V.alloc (.cells #[] 3))) := Lib.hid (by
    have := (HV.out.row.kept al (by simp)).src (int_one _ _) Tryd.underlying22
    rw [HL.out] at this
    exact this)
  have KF := Lib.hid (fun w1 (hg : (V.alloc (.cells #[] 3)).grownBy w1 (some V.heap.size)) => show Kept [V.heap.size] V w1 from (al.trans (Kept.of_grown hg) (by simp)).mono (by simp))
  clear al
  go_wp2_with (first
    | (at_builtin; refine wpList_append_at rfl _ _ 22 22 rfl 3 (.int .i64 0) 1 8 Tryd.underlying22 info3 rfl V.heap.size 0 0 0 [] rfl R0H.out _ rfl l (q.xs.map (Value.int .i64)) SRC1.out (by simp [maxLen]; omega) (by omega) ?_; intro g1 o1 cap1 w1 hr1 hgb1 hg1; have k1' := KF.out _ hgb1; have hr1' : RowAt w1 3 1 g1 o1 cap1 l (q.xs.map (Value.int .i64)) := (by simpa using hr1); have hr1a := hr1'.kept (Kept.alloc w1 (.cells #[.int .i64 x] 3)) (by simp); have sp := src_one (P := Tryd.prog) w1 (.int .i64 x) 3 22 3 Tryd.underlying22 rfl)
    | (at_builtin; refine wpList_append_at rfl _ _ 22 22 rfl 3 (.int .i64 0) 1 8 Tryd.underlying22 info3 rfl g1 o1 cap1 l (q.xs.map (Value.int .i64)) rfl hr1a _ rfl 1 [.int .i64 x] sp (by simp [maxLen]; omega) (by omega) ?_; intro g2 o2 cap2 w2 hr2 hgb2 hg2; obtain ⟨k2', hv1⟩ := two_appends k1' hg1 hgb2; have hX := HV.out.kept k2' (by simp) (by simp); have d1 := hX.c1; have f1 := hX.f 1)
    | fail)
  obtain ⟨X, hX2⟩ : ∃ X, X = w2.setCell ⟨rb, 1, none⟩ (.slice (some ⟨g2, o2, none⟩) (l + 1) cap2) := ⟨_, rfl⟩
  rw [← hX2]
  have hg2 : w.heap.size ≤ g2 ∧ rb ≠ g2 ∧ g2 < w2.heap.size := by
    have a1 := KV.out.size
    have a2 := H.out.lt
    have a3 := k1'.size
    rcases hg2 with h | h
    · exact ⟨by omega, by omega, hr2.lt⟩
    · simp at h
      exact ⟨by omega, by omega, hr2.lt⟩
  have RX : Hid (RqAt X rb (g2 :: fp) (.slice (some ⟨g2, o2, none⟩) (l + 1) cap2) gv { q with xs := q.xs ++ [x] } G) := Lib.hid (by
    rw [hX2]
    refine hX.set 1 _ rfl (.inr ⟨g2, o2, cap2, by simp [HL.out], by simp, by simpa [HL.out] using hr2⟩) (hX.gs.fpMono (by simp; exact fun x hx => .inr hx)) (by simp; exact ⟨hg2.2.1, hX.ne⟩) ?_
    intro y hy
    simp at hy
    rcases hy with rfl | hy
    · exact hg2.2.2
    · exact hX.small y hy)
  have KX : Hid (Kept [rb] w X) := Lib.hid (by
    rw [hX2]
    exact ((KV.out.trans k2' (by simp)).mono (fp' := [rb]) (by simp)).trans (Kept.setCell w2 rb 1 _) (by simp))
  have FPN : Hid (∀ y ∈ g2 :: fp, y ∈ fp ∨ w.heap.size ≤ y) := Lib.hid (fun y hy => by
    simp at hy
    rcases hy with rfl | hy
    · exact .inr hg2.1
    · exact .inl hy)
  obtain ⟨n, hn⟩ : ∃ n, G.length = n := ⟨_, rfl⟩
  have HN := Lib.hid hn
  obtain ⟨W, hW⟩ : ∃ W, putW f x G q.wrong = W := ⟨_, rfl⟩
  have HW := Lib.hid hW
  obtain ⟨fp', hfp'⟩ : ∃ fp', g2 :: fp = fp' := ⟨_, rfl⟩
  rw [hfp'] at RX FPN
  obtain ⟨sv', hsv'⟩ : ∃ sv', Value.slice (some ⟨g2, o2, none⟩) (l + 1) cap2 = sv' := ⟨_, rfl⟩
  rw [hsv'] at RX
  obtain ⟨B, gcap, hgv⟩ := H.out.gs.lens
  rw [hn] at hG hgv
  rw [hW]
  subst hgv
  clear hX2 hr1 hr1' hr1a sp hr2 hgb1 hgb2 hg1 hX d1 f1 k2' hv1 hg2 k1' hn hW hfp' hsv' c1 c5 R0H SRC1 KF
  go_loopw [7] (fun iv wz => ∃ i : Nat, i ≤ n ∧ iv = .int .i64 i ∧ ∃ u, RqAt wz rb fp' sv' (.slice B n gcap) { q with xs := q.xs ++ [x], wrong := u } G ∧ Kept [rb] w wz ∧ putW f x (G.drop i) u = W) (fun iv _ => n - (intOf iv).toNat)
  case atStart => exact ⟨0, Nat.zero_le _, rfl, q.wrong, RX.out, KX.out, HW.out⟩
  case round =>
    obtain ⟨i, hi, rfl, u, hR, hK, hP⟩ := hrel
    have RR := Lib.hid hR
    have KK := Lib.hid hK
    have PP := Lib.hid hP
    have d2 := hR.c2
    have d3 := hR.c3
    have e3 := hR.f 3
    simp only at d3
    clear hK hP hR
    by_cases hin : i < n
    · obtain ⟨p, hp⟩ : ∃ p, G[i]? = some p := ⟨G[i]'(by rw [HN.out]; exact hin), by simp [HN.out, hin]⟩
      obtain ⟨ga, gb⟩ := gCells_at G i p hp
      obtain ⟨gg, go, gc, hBe, _, m0⟩ := RR.out.gs.at _ _ ga
      obtain ⟨gg', go', gc', hBe', _, m1⟩ := RR.out.gs.at _ _ gb
      rw [HN.out] at hBe hBe'
      cases hBe
      cases hBe'
      rw [← Nat.add_assoc] at m1
      have hd : G.drop i = p :: G.drop (i + 1) := by
        obtain ⟨h1, h2⟩ := List.getElem?_eq_some_iff.1 hp
        rw [List.drop_eq_getElem_cons h1, h2]
      have PS : Hid (putW f x (G.drop (i + 1)) (if p.1 = f ∧ p.2 ≠ x ∧ u = 0 then f else u) = W) := Lib.hid (by have := PP.out; rw [hd] at this; exact this)
      have hi0 : (0 : Int) ≤ (i : Int) := by omega
      have hi1 : (i : Int) < (n : Int) := by omega
      have ei : IntKind.i64.wrap ((i : Int) + 1) = (i : Int) + 1 := IntWalk.i64_in _ (by omega)
      obtain ⟨p1, p2⟩ := p
      simp only at m0 m1 PS
      clear hp ga gb hd PP
      by_cases a1 : p1 = f
      · subst a1
        by_cases a2 : p2 = x
        · subst a2
          rw [if_neg (fun e => e.2.1 rfl)] at PS
          go_wp2_with fail
          exact ⟨⟨i + 1, by omega, by go_num, u, RR.out, KK.out, PS.out⟩, by simp [intOf]; omega⟩
        · have q2 : (p2 != x) = true := by simpa using a2
          by_cases a3 : u = 0
          · subst a3
            rw [if_pos ⟨rfl, a2, rfl⟩] at PS
            have R2 : Hid (RqAt (wr.setCell ⟨rb, 3, none⟩ (.int .i64 p1)) rb fp' sv' (.slice (some ⟨gg, go, none⟩) n gcap) { q with xs := q.xs ++ [x], wrong := p1 } G) := Lib.hid (RR.out.set 3 _ rfl RR.out.row RR.out.gs RR.out.ne RR.out.small)
            go_wp2_with fail
            exact ⟨⟨i + 1, by omega, by go_num, p1, R2.out, KK.out.trans (Kept.setCell _ rb 3 _) (by simp), PS.out⟩, by simp [intOf]; omega⟩
          · have q3 : (u == 0) = false := by simpa using a3
            rw [if_neg (fun e => a3 e.2.2)] at PS
            go_wp2_with fail
            exact ⟨⟨i + 1, by omega, by go_num, u, RR.out, KK.out, PS.out⟩, by simp [intOf]; omega⟩
      · have q1 : (p1 == f) = false := by simpa using a1
        rw [if_neg (fun e => a1 e.1)] at PS
        go_wp2_with fail
        exact ⟨⟨i + 1, by omega, by go_num, u, RR.out, KK.out, PS.out⟩, by simp [intOf]; omega⟩
    · have hi2 : (n : Int) ≤ (i : Int) := by omega
      have PE : u = W := by
        have := PP.out
        rw [List.drop_of_length_le (by rw [HN.out]; omega)] at this
        exact this
      have R2 := RR
      rw [PE, ← HW.out] at R2
      clear hin PE
      go_wp2_with fail
      go_ret
      exact ⟨rfl, fp', sv', _, R2.out, KK.out, FPN.out⟩
end

end Go.Proofs.YtkpbjahjiajodaaDoor
