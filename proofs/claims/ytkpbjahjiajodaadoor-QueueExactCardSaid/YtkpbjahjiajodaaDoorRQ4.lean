/- This text proves what the reference's queue lists and forgets, over the loaded program. -/
import Derived.Test.YtkpbjahjiajodaaDoorRQ3
namespace Go.Proofs.YtkpbjahjiajodaaDoor
open Go.RowKit Go.WideShapes
set_option linter.unusedSimpArgs false

/-- Those from a frame on. -/
def fromF (f : Int) : List Int → Int → List Int
  | [], _ => []
  | x :: r, a => if f ≤ a then x :: fromF f r (a + 1) else fromF f r (a + 1)
theorem fromF_drop (f : Int) (l : List Int) (a : Int) : fromF f l a = l.drop (f - a).toNat := by
  induction l generalizing a with
  | nil => simp [fromF]
  | cons x r ih =>
    unfold fromF
    by_cases h : f ≤ a
    · rw [if_pos h, ih, show (f - a).toNat = 0 by omega, show (f - (a + 1)).toNat = 0 by omega]
      rfl
    · rw [if_neg h, ih, show (f - a).toNat = (f - (a + 1)).toNat + 1 by omega]
      rfl

section
variable {w : World} {rb : Nat} {fp : List Nat} {sv gv : Value} {q : Que} {G : List (Int × Int)}

set_option maxRecDepth 100000 in
set_option maxHeartbeats 1600000 in
theorem rqlist_any (h : RqAt w rb fp sv gv q G) (hok : q.ok) (f : Int) : Calls Tryd.prog 54 #[.pointer (some ⟨rb, 0, none⟩), .int .i64 f] w (Cloned w ((q.xs.drop (f - q.first).toNat).map (Value.int .i64))) := by
  obtain ⟨ok1, ok2, ok3⟩ := hok
  rw [← fromF_drop]
  obtain ⟨T, hT⟩ : ∃ T, fromF f q.xs q.first = T := ⟨_, rfl⟩
  have HT := Lib.hid hT
  rw [hT]
  obtain ⟨A, cap, hsv⟩ := h.row.lens
  have H := Lib.hid h
  obtain ⟨l, hl⟩ : ∃ l, q.xs.length = l := ⟨_, rfl⟩
  have HL := Lib.hid hl
  rw [hl] at hsv ok2 ok3
  subst hsv
  obtain ⟨fst, hfst⟩ : ∃ x, q.first = x := ⟨_, rfl⟩
  have FST := Lib.hid hfst
  rw [hfst] at ok1 ok2
  have R0 : Hid (RowN (w.alloc (.cells #[] 3)) 3 1 [w.heap.size] (.slice (some ⟨w.heap.size, 0, none⟩) 0 0) 0 []) := Lib.hid (.inr ⟨_, _, _, rfl, by simp, row_empty w 3 1⟩)
  clear h hT hl hfst
  go_enter Tryd.func54, Tryd.ntmps54
  go_wp2_with fail
  go_loopw [5, 6] (fun ov iv wz => ∃ i : Nat, i ≤ l ∧ iv = .int .i64 i ∧ ∃ gp ys, RowN wz 3 1 gp ov ys.length (ys.map (Value.int .i64)) ∧ (∀ x ∈ gp, w.heap.size ≤ x) ∧ Below w.heap.size w wz ∧ ys.length ≤ i ∧ ys ++ fromF f (q.xs.drop i) (fst + i) = T) (fun _ iv _ => l - (intOf iv).toNat)
  case atStart => exact ⟨0, Nat.zero_le _, rfl, [w.heap.size], [], R0.out, by simp, (Below.refl _ _).alloc (Nat.le_refl _) _, Nat.le_refl _, by have := HT.out; rw [FST.out] at this; simpa using this⟩
  case round =>
    obtain ⟨i, hi, rfl, gp, ys, hR, hgp, hB, hys, hP⟩ := hrel
    have HW := Lib.hid (H.out.below hB)
    have d0 := HW.out.c0
    have d1 := HW.out.c1
    rw [FST.out] at d0
    have RR := Lib.hid hR
    have GP := Lib.hid hgp
    have BB := Lib.hid hB
    have PP := Lib.hid hP
    clear hR hgp hB hP
    by_cases hil : i < l
    · have hd : q.xs.drop i = q.xs.getD i 0 :: q.xs.drop (i + 1) := by
        have hl' : i < q.xs.length := by rw [HL.out]; exact hil
        rw [List.drop_eq_getElem_cons hl', List.getD, List.getElem?_eq_getElem hl']; rfl
      obtain ⟨g, o, cap', hAe, _, m0⟩ := HW.out.row.at i (.int .i64 (q.xs.getD i 0)) (by rw [List.getElem?_map, List.getD, List.getElem?_eq_getElem (by rw [HL.out]; exact hil)]; rfl)
      rw [HL.out] at hAe
      cases hAe
      obtain ⟨y, hy⟩ : ∃ y, q.xs.getD i 0 = y := ⟨_, rfl⟩
      rw [hy] at m0 hd
      have hi0 : (0 : Int) ≤ (i : Int) := by omega
      have hi1 : (i : Int) < (l : Int) := by omega
      have ei : IntKind.i64.wrap ((i : Int) + 1) = (i : Int) + 1 := IntWalk.i64_in _ (by omega)
      have ea : IntKind.i64.wrap (fst + (i : Int)) = fst + (i : Int) := IntWalk.i64_in _ (by omega)
      by_cases hf : f ≤ fst + (i : Int)
      · have PS : Hid ((ys ++ [y]) ++ fromF f (q.xs.drop (i + 1)) (fst + ((i + 1 : Nat) : Int)) = T) := Lib.hid (by
          have := PP.out
          rw [hd] at this
          unfold fromF at this
          rw [if_pos hf] at this
          rw [← this, List.append_assoc, show fst + ((i + 1 : Nat) : Int) = fst + (i : Int) + 1 by omega]
          rfl)
        have t1 : decide (f ≤ fst + (i : Int)) = true := by simpa using hf
        have RA := Lib.hid (RR.out.kept (Kept.alloc wr (.cells #[.int .i64 y] 3)) (by simp))
        have sp := src_one (P := Tryd.prog) wr (.int .i64 y) 3 22 3 Tryd.underlying22 rfl
        have hyl : ys.length ≤ 256 := by omega
        clear hf hd hy PP
        go_wp2_with (first
          | (at_builtin; refine wpList_append_rown rfl _ _ 22 22 rfl 3 (.int .i64 0) 1 8 Tryd.underlying22 info3 rfl ys.length (ys.map (Value.int .i64)) rfl RA.out _ rfl 1 [.int .i64 y] sp (by omega) (by simp [maxLen]; omega) (by omega) ?_; intro g1 o1 cap1 w1 hr1 hk1 hg1)
          | fail)
        refine ⟨⟨i + 1, by omega, by go_num, [g1], ys ++ [y], .inr ⟨g1, o1, cap1, by simp, by simp, by simpa using hr1⟩, ?_, ?_, by simp; omega, PS.out⟩, by simp [intOf]; omega⟩
        · intro x hx
          simp at hx
          subst hx
          rcases hg1 with h | h
          · exact GP.out _ h
          · have := BB.out.size
            simp at h
            omega
        · have b1 := BB.out.alloc BB.out.size (.cells #[.int .i64 y] 3)
          exact below_kept b1 hk1 GP.out (Nat.le_refl _)
      · have PS : Hid (ys ++ fromF f (q.xs.drop (i + 1)) (fst + ((i + 1 : Nat) : Int)) = T) := Lib.hid (by
          have := PP.out
          rw [hd] at this
          unfold fromF at this
          rw [if_neg hf] at this
          rw [← this, show fst + ((i + 1 : Nat) : Int) = fst + (i : Int) + 1 by omega])
        have t1 : decide (f ≤ fst + (i : Int)) = false := by simpa using hf
        clear hf hd hy PP
        go_wp2_with fail
        exact ⟨⟨i + 1, by omega, by go_num, gp, ys, RR.out, GP.out, BB.out, by omega, PS.out⟩, by simp [intOf]; omega⟩
    · have hi2 : (l : Int) ≤ (i : Int) := by omega
      have PE : ys = T := by
        have := PP.out
        rw [List.drop_of_length_le (by rw [HL.out]; omega)] at this
        simpa [fromF] using this
      subst PE
      obtain ⟨C, cc, hov, _, _, hcs⟩ := RR.out.slice
      subst hov
      have CS := Lib.hid hcs
      clear hil hcs
      go_wp2
      go_ret
      exact ⟨C, cc, by simp, CS.out, BB.out⟩

/-- How many are forgotten. -/
def Que.forgot (q : Que) (f : Int) : Nat := min (f - q.first).toNat (q.xs.length - 1)

def lenAt (rb : Nat) (w : World) : Nat := match w.cell? ⟨rb, 1, none⟩ with
  | some (.slice _ n _) => n
  | _ => 0

set_option maxRecDepth 100000 in
set_option maxHeartbeats 1600000 in
theorem rqforget_any (h : RqAt w rb fp sv gv q G) (hok : q.ok) (f : Int) : Calls Tryd.prog 51 #[.pointer (some ⟨rb, 0, none⟩), .int .i64 f] w (RqDone w rb fp (q.forget (q.forgot f)) G (.tuple #[])) := by
  obtain ⟨ok1, ok2, ok3⟩ := hok
  obtain ⟨K, hK⟩ : ∃ K, q.forgot f = K := ⟨_, rfl⟩
  have HK := Lib.hid hK
  have hKd := hK
  unfold Que.forgot at hKd
  obtain ⟨l, hl⟩ : ∃ l, q.xs.length = l := ⟨_, rfl⟩
  have HL := Lib.hid hl
  obtain ⟨fst, hfst⟩ : ∃ x, q.first = x := ⟨_, rfl⟩
  have FST := Lib.hid hfst
  rw [hl, hfst] at hKd
  rw [hfst] at ok1 ok2
  rw [hl] at ok2 ok3
  have H := Lib.hid h
  rw [hK]
  clear h hl hfst hK
  go_enter Tryd.func51, Tryd.ntmps51
  go_wp2_with fail
  go_loopw [] (fun wz => ∃ k : Nat, k ≤ K ∧ ∃ sv', RqAt wz rb fp sv' gv (q.forget k) G ∧ Kept [rb] w wz) (fun wz => lenAt rb wz)
  case atStart => exact ⟨0, Nat.zero_le _, sv, by have := H.out; simpa [Que.forget] using this, Kept.refl _ _⟩
  case round =>
    obtain ⟨k, hk, sv', hR, hKe⟩ := hrel
    have hkf : (q.forget k).first = fst + k := by show q.first + k = _; rw [FST.out]
    have hkl : (q.forget k).xs.length = l - k := by show (q.xs.drop k).length = _; rw [List.length_drop, HL.out]
    have d0 := hR.c0
    have d1 := hR.c1
    have e0 := hR.f 0
    rw [hkf] at d0
    have RR := Lib.hid hR
    have KE := Lib.hid hKe
    obtain ⟨m, hm⟩ : ∃ m, l - k = m := ⟨_, rfl⟩
    by_cases hkK : k < K
    · obtain ⟨g, o, cap, hsv, hgf, hrow⟩ : ∃ g o cap, sv' = .slice (some ⟨g, o, none⟩) (q.forget k).xs.length cap ∧ g ∈ fp ∧ RowAt wr 3 1 g o cap (q.forget k).xs.length ((q.forget k).xs.map (Value.int .i64)) := by
        rcases hR.row with ⟨_, h0, _⟩ | h
        · omega
        · exact h
      rw [hkl, hm] at hsv hrow
      subst hsv
      have hmc := hrow.2.1
      have hm2 : 2 ≤ m := by omega
      have t1 : (1 : Int) < (m : Int) := by omega
      have t2 : fst + (k : Int) < f := by omega
      have ew : IntKind.i64.wrap (fst + (k : Int) + 1) = fst + (k : Int) + 1 := IntWalk.i64_in _ (by omega)
      have X1 : RqAt (wr.setCell ⟨rb, 0, none⟩ (.int .i64 (fst + (k : Int) + 1))) rb fp (.slice (some ⟨g, o, none⟩) m cap) gv { q.forget k with first := fst + (k : Int) + 1 } G := hR.set 0 _ rfl hR.row hR.gs hR.ne hR.small
      have d1' := X1.c1
      have e1' := X1.f 1
      have hrow1 := (hrow.kept (Kept.setCell wr rb 0 (.int .i64 (fst + (k : Int) + 1))) (by simp; rintro rfl; exact hR.ne hgf)).drop (k := 1) (by omega)
      have hxs : (q.forget (k + 1)).xs = (q.forget k).xs.drop 1 := by show q.xs.drop (k + 1) = (q.xs.drop k).drop 1; rw [List.drop_drop]
      have X2 : RqAt ((wr.setCell ⟨rb, 0, none⟩ (.int .i64 (fst + (k : Int) + 1))).setCell ⟨rb, 1, none⟩ (.slice (some ⟨g, o + 1, none⟩) (m - 1) (cap - 1))) rb fp (.slice (some ⟨g, o + 1, none⟩) (m - 1) (cap - 1)) gv (q.forget (k + 1)) G := by
        refine X1.set 1 _ ?_ (.inr ⟨g, o + 1, cap - 1, ?_, hgf, ?_⟩) X1.gs X1.ne X1.small
        · have : (q.forget (k + 1)).first = fst + (k : Int) + 1 := by show q.first + ((k + 1 : Nat) : Int) = _; rw [FST.out]; omega
          rw [this]
          rfl
        · rw [hxs, List.length_drop, hkl, hm]
        · rw [hxs, List.length_drop, hkl, hm, List.map_drop]
          exact hrow1
      have XX := Lib.hid X2
      have hmc1 : ¬ cap = 1 := by omega
      have hmc2 : 1 ≤ m := by omega
      have hmc3 : 1 ≤ cap := by omega
      have hk1 : k + 1 ≤ K := by omega
      clear hR hKe hm hrow hrow1 X1 X2 hkK hKd hxs hkl hkf
      go_wp2_with fail
      refine ⟨⟨k + 1, hk1, _, XX.out, KE.out.trans ((Kept.setCell wr rb 0 _).trans (Kept.setCell _ rb 1 _) (by simp)) (by simp)⟩, ?_⟩
      have b1 := RR.out.c1
      have b2 := XX.out.c1
      unfold lenAt
      rw [b1, b2]
      simp only
      omega
    · have hkk : k = K := by omega
      subst hkk
      obtain ⟨A, cap, hsv⟩ := hR.row.lens
      rw [hkl, hm] at hsv
      subst hsv
      clear hR hKe
      by_cases hm1 : m ≤ 1
      · have t1 : (m : Int) ≤ 1 := by omega
        clear hm hKd hm1 hkK hkl hkf
        go_wp2
        go_end0
        exact ⟨rfl, fp, _, gv, RR.out, KE.out, fun x hx => .inl hx⟩
      · have t1 : (1 : Int) < (m : Int) := by omega
        have t2 : f ≤ fst + (k : Int) := by omega
        clear hm hKd hm1 hkK hkl hkf
        go_wp2
        go_end0
        exact ⟨rfl, fp, _, gv, RR.out, KE.out, fun x hx => .inl hx⟩
end

end Go.Proofs.YtkpbjahjiajodaaDoor
