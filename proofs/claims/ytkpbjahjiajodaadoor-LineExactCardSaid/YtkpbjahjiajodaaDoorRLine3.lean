/- This text proves what the reference's Out computes, over the loaded program. -/
import Derived.Test.YtkpbjahjiajodaaDoorRLine2
namespace Go.Proofs.YtkpbjahjiajodaaDoor
open Go.RowKit Go.WideShapes
set_option linter.unusedSimpArgs false

set_option maxRecDepth 100000 in
set_option maxHeartbeats 3200000 in
theorem rout2 {w : World} {rb g o cap : Nat} {L : Lin} (h : RAt w rb (.slice (some ⟨g, o, none⟩) L.ts.length cap) L) (hr : RowAt w 79 2 g o cap L.ts.length (textCells L.ts)) (hok : L.ok) (i : Nat) (hi : i < L.ts.length) (hcap : ¬ cap = i + 1) :
    Calls Tryd.prog 40 #[.pointer (some ⟨rb, 0, none⟩), .int .i64 i, .int .i64 2] w (RDone w rb { L.cut i with c2 := L.c2 + 1 } (.tuple #[.string (L.at i).1, .int .i64 0])) := by
  have HAS := Lib.hid (rhas_yes h (i : Int) ⟨by omega, by omega⟩)
  have H := Lib.hid h
  have HOK := Lib.hid hok
  have c1 := h.at1
  obtain ⟨t, ht⟩ : ∃ t, L.ts[i]? = some t := ⟨L.ts[i], by simp [hi]⟩
  have AT : Hid ((L.at (i : Int)).1 = t.1) := Lib.hid (by unfold Lin.at; simp [List.getD_eq_getElem?_getD, ht])
  have nowc := (rnow_cell hr ht).1
  have hgl := hr.lt
  have hrl := h.lt
  have R0 := RowAt.empty w 79 2
  have al := Kept.alloc w (.cells #[] 79)
  have hr0 := hr.kept al (by simp)
  have SRC1 := Lib.hid (fun c => hr0.srcTake i (by omega) c)
  have KF := Lib.hid (fun w1 (hg : (w.alloc (.cells #[] 79)).grownBy w1 (some w.heap.size)) => show Kept [w.heap.size] w w1 from (al.trans (Kept.of_grown hg) (by simp)).mono (by simp))
  have HC := Lib.hid (cut_len (L := L) (i := (i : Int)) ⟨by omega, by omega⟩)
  obtain ⟨l, hl⟩ : ∃ l, L.ts.length = l := ⟨_, rfl⟩
  have HL := Lib.hid hl
  have b1 := hr.2.1
  have b2 := hr.2.2.1
  simp only [maxLen] at b2
  rw [hl] at c1 hi b1
  have l64 : l ≤ 64 := by have := hok.2.2.2.2.2.2.2.2.2.2.2.2.1; rw [hl] at this; exact this
  have i0 : (0 : Int) ≤ (i : Int) := by omega
  have i1 : (i : Int) < (l : Int) := by omega
  have HR := Lib.hid hr
  have R0H := Lib.hid R0
  have HGL := Lib.hid (And.intro hgl hrl)
  have hcap2 : ¬ (cap : Int) = (i : Int) + 1 := by omega
  have hcap3 : 0 < cap - (i + 1) := by omega
  clear R0 al hr0 hr hok
  go_enter Tryd.func40, Tryd.ntmps40
  go_wp2_with fail
  refine HAS.out.mono ?_
  rintro e w' ⟨rfl, rfl⟩
  go_wp2_with (first
    | (at_builtin; refine wpList_append_at rfl _ _ 74 74 rfl 79 (.agg #[.string ByteArray.empty, .string ByteArray.empty]) 2 32 Tryd.underlying74 info79 rfl w.heap.size 0 0 0 [] rfl R0H.out _ rfl i (textCells (L.ts.take i)) (SRC1.out _) (by simp [maxLen]; omega) (by omega) ?_; intro g1 o1 cap1 w1 hr1 hgb1 hg1; have k1 := KF.out _ hgb1; have hb1 := (k1.block rb HGL.out.2 (by have := HGL.out.2; simp; omega)).trans H.out.cell; have SRC2 := fun c => (HR.out.kept k1 (by have := HGL.out.1; simp; omega)).srcDrop (i + 1) c; rw [HL.out] at SRC2; have hr1' : RowAt w1 79 2 g1 o1 cap1 i (textCells (L.ts.take i)) := (by simpa using hr1); have d1 : w1.cell? ⟨rb, 1, none⟩ = some (.slice (some ⟨g, o, none⟩) l cap) := (by have e := HL.out; rw [← e]; simp [World.cell?, hb1, Lin.cells]))
    | (at_builtin; refine wpList_append_at rfl _ _ 74 74 rfl 79 (.agg #[.string ByteArray.empty, .string ByteArray.empty]) 2 32 Tryd.underlying74 info79 rfl g1 o1 cap1 i (textCells (L.ts.take i)) rfl hr1' _ rfl (l - (i + 1)) (textCells (L.ts.drop (i + 1))) (SRC2 _) (by simp [maxLen]; omega) (by omega) ?_; intro g2 o2 cap2 w2 hr2 hgb2 hg2; have k2 := Kept.of_grown hgb2; have hne : rb ≠ g1 := (by have := HGL.out.2; rcases hg1 with h | h; omega; simp at h; omega); have hb2 := (k2.block rb (Array.getElem?_eq_some_iff.1 hb1).1 (by simp; exact hne)).trans hb1; have e1 : w2.cell? ⟨rb, 1, none⟩ = some (.slice (some ⟨g, o, none⟩) l cap) := (by have e := HL.out; rw [← e]; simp [World.cell?, hb2, Lin.cells]); have e1f : w2.frozen? ⟨rb, 1, none⟩ = false := (by simp [World.frozen?, hb2]))
    | fail)
  have hcnt : i + (l - (i + 1)) = (L.cut (i : Int)).ts.length := by have := HC.out; have := HL.out; omega
  have hg1w : w.heap.size ≤ g1 := by rcases hg1 with h | h; omega; simp at h; omega
  have h2 : RAt w2 rb (.slice (some ⟨g, o, none⟩) L.ts.length cap) L := by
    first
      | exact ⟨hb2, .inr ⟨g, o, cap, rfl, (HR.out.kept k1 (by have := HGL.out.1; simp; omega)).kept k2 (by have := HGL.out.1; simp; omega)⟩⟩
      | exact ⟨hb2, .inr ⟨g, o, i + 1, rfl, (HR.out.kept k1 (by have := HGL.out.1; simp; omega)).kept k2 (by have := HGL.out.1; simp; omega)⟩⟩
  have hr2' : RowAt w2 79 2 g2 o2 cap2 (L.cut (i : Int)).ts.length (textCells (L.cut (i : Int)).ts) := by
    have e : textCells (L.cut (i : Int)).ts = textCells (L.ts.take i) ++ textCells (L.ts.drop (i + 1)) := by
      unfold Lin.cut
      simp only [Int.toNat_natCast]
      rw [List.eraseIdx_eq_take_drop_succ, textCells_append]
    rw [e, ← hcnt]
    simpa using hr2
  rw [hcnt]
  obtain ⟨V, hV⟩ : ∃ V, V = w2.setCell ⟨rb, 1, none⟩ (.slice (some ⟨g2, o2, none⟩) (L.cut (i : Int)).ts.length cap2) := ⟨_, rfl⟩
  rw [← hV]
  have HV : RAt V rb (.slice (some ⟨g2, o2, none⟩) (L.cut (i : Int)).ts.length cap2) (L.cut (i : Int)) := by
    rw [hV]
    exact h2.setCell 1 _ rfl (.inr ⟨g2, o2, cap2, rfl, hr2'⟩)
  have KV : Hid (Kept [rb] w V) := Lib.hid (by
    rw [hV]
    exact ((k1.mono (fp' := [rb]) (by simp)).trans k2 (fun x hx => .inr (by simp at hx; omega))).trans (Kept.setCell w2 rb 1 _) (by simp))
  have cc := HV.at4
  have ff := HV.f 4
  have hb0 := HOK.out.2.2.2.2.1
  have hb1' := HOK.out.2.2.2.2.2.1
  obtain ⟨cv, hcv⟩ : ∃ cv, L.c2 = cv := ⟨_, rfl⟩
  have CV := Lib.hid hcv
  rw [show (L.cut (i : Int)).c2 = L.c2 from rfl, hcv] at cc
  rw [hcv] at hb0 hb1'
  have ew : IntKind.i64.wrap (cv + 1) = cv + 1 := IntWalk.i64_in _ (by omega)
  have F : Hid (RDone w rb { L.cut (i : Int) with c2 := L.c2 + 1 } (.tuple #[.string (L.at (i : Int)).1, .int .i64 0]) (.returned (.tuple #[.string t.1, .int .i64 0])) ((V.setCell ⟨rb, 4, none⟩ (.int .i64 (cv + 1))).drew)) := Lib.hid
    ⟨by rw [AT.out], _, (HV.setCell 4 (.int .i64 (cv + 1)) (L' := { L.cut (i : Int) with c2 := L.c2 + 1 }) (by rw [← CV.out]; rfl) HV.row).below ⟨rfl, rfl, rfl, Nat.le_refl _, fun _ _ => rfl⟩, (KV.out.trans (Kept.setCell V rb 4 _) (by simp)).drew⟩
  clear hV h2 hr2' hb2 k2 k1 hr2 hr1 hr1' hgb1 hgb2 hg1 hg2 hcnt hcv
  go_still_tail 10, (by kernel_rfl)
  go_wp2
  go_ret2
  exact F.out

set_option maxRecDepth 100000 in
set_option maxHeartbeats 3200000 in
theorem rout2e {w : World} {rb g o cap : Nat} {L : Lin} (h : RAt w rb (.slice (some ⟨g, o, none⟩) L.ts.length cap) L) (hr : RowAt w 79 2 g o cap L.ts.length (textCells L.ts)) (hok : L.ok) (i : Nat) (hi : i < L.ts.length) (hcap : cap = i + 1) :
    Calls Tryd.prog 40 #[.pointer (some ⟨rb, 0, none⟩), .int .i64 i, .int .i64 2] w (RDone w rb { L.cut i with c2 := L.c2 + 1 } (.tuple #[.string (L.at i).1, .int .i64 0])) := by
  have HAS := Lib.hid (rhas_yes h (i : Int) ⟨by omega, by omega⟩)
  have H := Lib.hid h
  have HOK := Lib.hid hok
  have c1 := h.at1
  obtain ⟨t, ht⟩ : ∃ t, L.ts[i]? = some t := ⟨L.ts[i], by simp [hi]⟩
  have AT : Hid ((L.at (i : Int)).1 = t.1) := Lib.hid (by unfold Lin.at; simp [List.getD_eq_getElem?_getD, ht])
  have nowc := (rnow_cell hr ht).1
  have hgl := hr.lt
  have hrl := h.lt
  have R0 := RowAt.empty w 79 2
  have al := Kept.alloc w (.cells #[] 79)
  have hr0 := hr.kept al (by simp)
  have SRC1 := Lib.hid (fun c => hr0.srcTake i (by omega) c)
  have KF := Lib.hid (fun w1 (hg : (w.alloc (.cells #[] 79)).grownBy w1 (some w.heap.size)) => show Kept [w.heap.size] w w1 from (al.trans (Kept.of_grown hg) (by simp)).mono (by simp))
  have HC := Lib.hid (cut_len (L := L) (i := (i : Int)) ⟨by omega, by omega⟩)
  obtain ⟨l, hl⟩ : ∃ l, L.ts.length = l := ⟨_, rfl⟩
  have HL := Lib.hid hl
  have b1 := hr.2.1
  have b2 := hr.2.2.1
  simp only [maxLen] at b2
  rw [hl] at c1 hi b1
  have l64 : l ≤ 64 := by have := hok.2.2.2.2.2.2.2.2.2.2.2.2.1; rw [hl] at this; exact this
  have i0 : (0 : Int) ≤ (i : Int) := by omega
  have i1 : (i : Int) < (l : Int) := by omega
  have HR := Lib.hid hr
  have R0H := Lib.hid R0
  have HGL := Lib.hid (And.intro hgl hrl)
  subst hcap
  obtain rfl : l = i + 1 := by omega
  clear R0 al hr0 hr hok
  go_enter Tryd.func40, Tryd.ntmps40
  go_wp2_with fail
  refine HAS.out.mono ?_
  rintro e w' ⟨rfl, rfl⟩
  go_wp2_with (first
    | (at_builtin; refine wpList_append_at rfl _ _ 74 74 rfl 79 (.agg #[.string ByteArray.empty, .string ByteArray.empty]) 2 32 Tryd.underlying74 info79 rfl w.heap.size 0 0 0 [] rfl R0H.out _ rfl i (textCells (L.ts.take i)) (SRC1.out _) (by simp [maxLen]; omega) (by omega) ?_; intro g1 o1 cap1 w1 hr1 hgb1 hg1; have k1 := KF.out _ hgb1; have hb1 := (k1.block rb HGL.out.2 (by have := HGL.out.2; simp; omega)).trans H.out.cell; have SRC2 : ∀ (a : Addr) (c : Nat), Src Tryd.prog 2 74 (.slice (some a) 0 c) 0 [] w1 := fun a c => Src.ofSlice w1 Tryd.underlying74 a 0 c [] rfl (by simp) (by simp); have hr1' : RowAt w1 79 2 g1 o1 cap1 i (textCells (L.ts.take i)) := (by simpa using hr1); have d1 : w1.cell? ⟨rb, 1, none⟩ = some (.slice (some ⟨g, o, none⟩) (i + 1) (i + 1)) := (by simp [World.cell?, hb1, Lin.cells]; exact HL.out))
    | (at_builtin; refine wpList_append_at rfl _ _ 74 74 rfl 79 (.agg #[.string ByteArray.empty, .string ByteArray.empty]) 2 32 Tryd.underlying74 info79 rfl g1 o1 cap1 i (textCells (L.ts.take i)) rfl hr1' _ rfl 0 [] (SRC2 _ _) (by simp [maxLen]; omega) (by omega) ?_; intro g2 o2 cap2 w2 hr2 hgb2 hg2; have k2 := Kept.of_grown hgb2; have hne : rb ≠ g1 := (by have := HGL.out.2; rcases hg1 with h | h; omega; simp at h; omega); have hb2 := (k2.block rb (Array.getElem?_eq_some_iff.1 hb1).1 (by simp; exact hne)).trans hb1; have e1 : w2.cell? ⟨rb, 1, none⟩ = some (.slice (some ⟨g, o, none⟩) (i + 1) (i + 1)) := (by simp [World.cell?, hb2, Lin.cells]; exact HL.out); have e1f : w2.frozen? ⟨rb, 1, none⟩ = false := (by simp [World.frozen?, hb2]))
    | fail)
  have hcnt : i = (L.cut (i : Int)).ts.length := by have := HC.out; have := HL.out; omega
  have hg1w : w.heap.size ≤ g1 := by rcases hg1 with h | h; omega; simp at h; omega
  have h2 : RAt w2 rb (.slice (some ⟨g, o, none⟩) L.ts.length (i + 1)) L := by
    first
      | exact ⟨hb2, .inr ⟨g, o, cap, rfl, (HR.out.kept k1 (by have := HGL.out.1; simp; omega)).kept k2 (by have := HGL.out.1; simp; omega)⟩⟩
      | exact ⟨hb2, .inr ⟨g, o, i + 1, rfl, (HR.out.kept k1 (by have := HGL.out.1; simp; omega)).kept k2 (by have := HGL.out.1; simp; omega)⟩⟩
  have hr2' : RowAt w2 79 2 g2 o2 cap2 (L.cut (i : Int)).ts.length (textCells (L.cut (i : Int)).ts) := by
    have e : textCells (L.cut (i : Int)).ts = textCells (L.ts.take i) := by
      unfold Lin.cut
      simp only [Int.toNat_natCast]
      rw [List.eraseIdx_eq_take_drop_succ, textCells_append]
      rw [List.drop_of_length_le (by rw [HL.out]; exact Nat.le_refl _)]
      simp [textCells]
    rw [e, ← hcnt]
    simpa using hr2
  rw [hcnt]
  obtain ⟨V, hV⟩ : ∃ V, V = w2.setCell ⟨rb, 1, none⟩ (.slice (some ⟨g2, o2, none⟩) (L.cut (i : Int)).ts.length cap2) := ⟨_, rfl⟩
  rw [← hV]
  have HV : RAt V rb (.slice (some ⟨g2, o2, none⟩) (L.cut (i : Int)).ts.length cap2) (L.cut (i : Int)) := by
    rw [hV]
    exact h2.setCell 1 _ rfl (.inr ⟨g2, o2, cap2, rfl, hr2'⟩)
  have KV : Hid (Kept [rb] w V) := Lib.hid (by
    rw [hV]
    exact ((k1.mono (fp' := [rb]) (by simp)).trans k2 (fun x hx => .inr (by simp at hx; omega))).trans (Kept.setCell w2 rb 1 _) (by simp))
  have cc := HV.at4
  have ff := HV.f 4
  have hb0 := HOK.out.2.2.2.2.1
  have hb1' := HOK.out.2.2.2.2.2.1
  obtain ⟨cv, hcv⟩ : ∃ cv, L.c2 = cv := ⟨_, rfl⟩
  have CV := Lib.hid hcv
  rw [show (L.cut (i : Int)).c2 = L.c2 from rfl, hcv] at cc
  rw [hcv] at hb0 hb1'
  have ew : IntKind.i64.wrap (cv + 1) = cv + 1 := IntWalk.i64_in _ (by omega)
  have F : Hid (RDone w rb { L.cut (i : Int) with c2 := L.c2 + 1 } (.tuple #[.string (L.at (i : Int)).1, .int .i64 0]) (.returned (.tuple #[.string t.1, .int .i64 0])) ((V.setCell ⟨rb, 4, none⟩ (.int .i64 (cv + 1))).drew)) := Lib.hid
    ⟨by rw [AT.out], _, (HV.setCell 4 (.int .i64 (cv + 1)) (L' := { L.cut (i : Int) with c2 := L.c2 + 1 }) (by rw [← CV.out]; rfl) HV.row).below ⟨rfl, rfl, rfl, Nat.le_refl _, fun _ _ => rfl⟩, (KV.out.trans (Kept.setCell V rb 4 _) (by simp)).drew⟩
  clear hV h2 hr2' hb2 k2 k1 hr2 hr1 hr1' hgb1 hgb2 hg1 hg2 hcnt hcv
  go_still_tail 10, (by kernel_rfl)
  go_wp2
  go_ret2
  exact F.out

set_option maxRecDepth 100000 in
set_option maxHeartbeats 3200000 in
theorem rout3 {w : World} {rb g o cap : Nat} {L : Lin} (h : RAt w rb (.slice (some ⟨g, o, none⟩) L.ts.length cap) L) (hr : RowAt w 79 2 g o cap L.ts.length (textCells L.ts)) (hok : L.ok) (i : Nat) (hi : i < L.ts.length) (hcap : ¬ cap = i + 1) :
    Calls Tryd.prog 40 #[.pointer (some ⟨rb, 0, none⟩), .int .i64 i, .int .i64 3] w (RDone w rb { L.cut i with c3 := L.c3 + 1 } (.tuple #[.string (L.at i).1, .int .i64 0])) := by
  have HAS := Lib.hid (rhas_yes h (i : Int) ⟨by omega, by omega⟩)
  have H := Lib.hid h
  have HOK := Lib.hid hok
  have c1 := h.at1
  obtain ⟨t, ht⟩ : ∃ t, L.ts[i]? = some t := ⟨L.ts[i], by simp [hi]⟩
  have AT : Hid ((L.at (i : Int)).1 = t.1) := Lib.hid (by unfold Lin.at; simp [List.getD_eq_getElem?_getD, ht])
  have nowc := (rnow_cell hr ht).1
  have hgl := hr.lt
  have hrl := h.lt
  have R0 := RowAt.empty w 79 2
  have al := Kept.alloc w (.cells #[] 79)
  have hr0 := hr.kept al (by simp)
  have SRC1 := Lib.hid (fun c => hr0.srcTake i (by omega) c)
  have KF := Lib.hid (fun w1 (hg : (w.alloc (.cells #[] 79)).grownBy w1 (some w.heap.size)) => show Kept [w.heap.size] w w1 from (al.trans (Kept.of_grown hg) (by simp)).mono (by simp))
  have HC := Lib.hid (cut_len (L := L) (i := (i : Int)) ⟨by omega, by omega⟩)
  obtain ⟨l, hl⟩ : ∃ l, L.ts.length = l := ⟨_, rfl⟩
  have HL := Lib.hid hl
  have b1 := hr.2.1
  have b2 := hr.2.2.1
  simp only [maxLen] at b2
  rw [hl] at c1 hi b1
  have l64 : l ≤ 64 := by have := hok.2.2.2.2.2.2.2.2.2.2.2.2.1; rw [hl] at this; exact this
  have i0 : (0 : Int) ≤ (i : Int) := by omega
  have i1 : (i : Int) < (l : Int) := by omega
  have HR := Lib.hid hr
  have R0H := Lib.hid R0
  have HGL := Lib.hid (And.intro hgl hrl)
  have hcap2 : ¬ (cap : Int) = (i : Int) + 1 := by omega
  have hcap3 : 0 < cap - (i + 1) := by omega
  clear R0 al hr0 hr hok
  go_enter Tryd.func40, Tryd.ntmps40
  go_wp2_with fail
  refine HAS.out.mono ?_
  rintro e w' ⟨rfl, rfl⟩
  go_wp2_with (first
    | (at_builtin; refine wpList_append_at rfl _ _ 74 74 rfl 79 (.agg #[.string ByteArray.empty, .string ByteArray.empty]) 2 32 Tryd.underlying74 info79 rfl w.heap.size 0 0 0 [] rfl R0H.out _ rfl i (textCells (L.ts.take i)) (SRC1.out _) (by simp [maxLen]; omega) (by omega) ?_; intro g1 o1 cap1 w1 hr1 hgb1 hg1; have k1 := KF.out _ hgb1; have hb1 := (k1.block rb HGL.out.2 (by have := HGL.out.2; simp; omega)).trans H.out.cell; have SRC2 := fun c => (HR.out.kept k1 (by have := HGL.out.1; simp; omega)).srcDrop (i + 1) c; rw [HL.out] at SRC2; have hr1' : RowAt w1 79 2 g1 o1 cap1 i (textCells (L.ts.take i)) := (by simpa using hr1); have d1 : w1.cell? ⟨rb, 1, none⟩ = some (.slice (some ⟨g, o, none⟩) l cap) := (by have e := HL.out; rw [← e]; simp [World.cell?, hb1, Lin.cells]))
    | (at_builtin; refine wpList_append_at rfl _ _ 74 74 rfl 79 (.agg #[.string ByteArray.empty, .string ByteArray.empty]) 2 32 Tryd.underlying74 info79 rfl g1 o1 cap1 i (textCells (L.ts.take i)) rfl hr1' _ rfl (l - (i + 1)) (textCells (L.ts.drop (i + 1))) (SRC2 _) (by simp [maxLen]; omega) (by omega) ?_; intro g2 o2 cap2 w2 hr2 hgb2 hg2; have k2 := Kept.of_grown hgb2; have hne : rb ≠ g1 := (by have := HGL.out.2; rcases hg1 with h | h; omega; simp at h; omega); have hb2 := (k2.block rb (Array.getElem?_eq_some_iff.1 hb1).1 (by simp; exact hne)).trans hb1; have e1 : w2.cell? ⟨rb, 1, none⟩ = some (.slice (some ⟨g, o, none⟩) l cap) := (by have e := HL.out; rw [← e]; simp [World.cell?, hb2, Lin.cells]); have e1f : w2.frozen? ⟨rb, 1, none⟩ = false := (by simp [World.frozen?, hb2]))
    | fail)
  have hcnt : i + (l - (i + 1)) = (L.cut (i : Int)).ts.length := by have := HC.out; have := HL.out; omega
  have hg1w : w.heap.size ≤ g1 := by rcases hg1 with h | h; omega; simp at h; omega
  have h2 : RAt w2 rb (.slice (some ⟨g, o, none⟩) L.ts.length cap) L := by
    first
      | exact ⟨hb2, .inr ⟨g, o, cap, rfl, (HR.out.kept k1 (by have := HGL.out.1; simp; omega)).kept k2 (by have := HGL.out.1; simp; omega)⟩⟩
      | exact ⟨hb2, .inr ⟨g, o, i + 1, rfl, (HR.out.kept k1 (by have := HGL.out.1; simp; omega)).kept k2 (by have := HGL.out.1; simp; omega)⟩⟩
  have hr2' : RowAt w2 79 2 g2 o2 cap2 (L.cut (i : Int)).ts.length (textCells (L.cut (i : Int)).ts) := by
    have e : textCells (L.cut (i : Int)).ts = textCells (L.ts.take i) ++ textCells (L.ts.drop (i + 1)) := by
      unfold Lin.cut
      simp only [Int.toNat_natCast]
      rw [List.eraseIdx_eq_take_drop_succ, textCells_append]
    rw [e, ← hcnt]
    simpa using hr2
  rw [hcnt]
  obtain ⟨V, hV⟩ : ∃ V, V = w2.setCell ⟨rb, 1, none⟩ (.slice (some ⟨g2, o2, none⟩) (L.cut (i : Int)).ts.length cap2) := ⟨_, rfl⟩
  rw [← hV]
  have HV : RAt V rb (.slice (some ⟨g2, o2, none⟩) (L.cut (i : Int)).ts.length cap2) (L.cut (i : Int)) := by
    rw [hV]
    exact h2.setCell 1 _ rfl (.inr ⟨g2, o2, cap2, rfl, hr2'⟩)
  have KV : Hid (Kept [rb] w V) := Lib.hid (by
    rw [hV]
    exact ((k1.mono (fp' := [rb]) (by simp)).trans k2 (fun x hx => .inr (by simp at hx; omega))).trans (Kept.setCell w2 rb 1 _) (by simp))
  have cc := HV.at5
  have ff := HV.f 5
  have hb0 := HOK.out.2.2.2.2.2.2.1
  have hb1' := HOK.out.2.2.2.2.2.2.2.1
  obtain ⟨cv, hcv⟩ : ∃ cv, L.c3 = cv := ⟨_, rfl⟩
  have CV := Lib.hid hcv
  rw [show (L.cut (i : Int)).c3 = L.c3 from rfl, hcv] at cc
  rw [hcv] at hb0 hb1'
  have ew : IntKind.i64.wrap (cv + 1) = cv + 1 := IntWalk.i64_in _ (by omega)
  have F : Hid (RDone w rb { L.cut (i : Int) with c3 := L.c3 + 1 } (.tuple #[.string (L.at (i : Int)).1, .int .i64 0]) (.returned (.tuple #[.string t.1, .int .i64 0])) ((V.setCell ⟨rb, 5, none⟩ (.int .i64 (cv + 1))).drew)) := Lib.hid
    ⟨by rw [AT.out], _, (HV.setCell 5 (.int .i64 (cv + 1)) (L' := { L.cut (i : Int) with c3 := L.c3 + 1 }) (by rw [← CV.out]; rfl) HV.row).below ⟨rfl, rfl, rfl, Nat.le_refl _, fun _ _ => rfl⟩, (KV.out.trans (Kept.setCell V rb 5 _) (by simp)).drew⟩
  clear hV h2 hr2' hb2 k2 k1 hr2 hr1 hr1' hgb1 hgb2 hg1 hg2 hcnt hcv
  go_still_tail 10, (by kernel_rfl)
  go_wp2
  go_ret2
  exact F.out

set_option maxRecDepth 100000 in
set_option maxHeartbeats 3200000 in
theorem rout3e {w : World} {rb g o cap : Nat} {L : Lin} (h : RAt w rb (.slice (some ⟨g, o, none⟩) L.ts.length cap) L) (hr : RowAt w 79 2 g o cap L.ts.length (textCells L.ts)) (hok : L.ok) (i : Nat) (hi : i < L.ts.length) (hcap : cap = i + 1) :
    Calls Tryd.prog 40 #[.pointer (some ⟨rb, 0, none⟩), .int .i64 i, .int .i64 3] w (RDone w rb { L.cut i with c3 := L.c3 + 1 } (.tuple #[.string (L.at i).1, .int .i64 0])) := by
  have HAS := Lib.hid (rhas_yes h (i : Int) ⟨by omega, by omega⟩)
  have H := Lib.hid h
  have HOK := Lib.hid hok
  have c1 := h.at1
  obtain ⟨t, ht⟩ : ∃ t, L.ts[i]? = some t := ⟨L.ts[i], by simp [hi]⟩
  have AT : Hid ((L.at (i : Int)).1 = t.1) := Lib.hid (by unfold Lin.at; simp [List.getD_eq_getElem?_getD, ht])
  have nowc := (rnow_cell hr ht).1
  have hgl := hr.lt
  have hrl := h.lt
  have R0 := RowAt.empty w 79 2
  have al := Kept.alloc w (.cells #[] 79)
  have hr0 := hr.kept al (by simp)
  have SRC1 := Lib.hid (fun c => hr0.srcTake i (by omega) c)
  have KF := Lib.hid (fun w1 (hg : (w.alloc (.cells #[] 79)).grownBy w1 (some w.heap.size)) => show Kept [w.heap.size] w w1 from (al.trans (Kept.of_grown hg) (by simp)).mono (by simp))
  have HC := Lib.hid (cut_len (L := L) (i := (i : Int)) ⟨by omega, by omega⟩)
  obtain ⟨l, hl⟩ : ∃ l, L.ts.length = l := ⟨_, rfl⟩
  have HL := Lib.hid hl
  have b1 := hr.2.1
  have b2 := hr.2.2.1
  simp only [maxLen] at b2
  rw [hl] at c1 hi b1
  have l64 : l ≤ 64 := by have := hok.2.2.2.2.2.2.2.2.2.2.2.2.1; rw [hl] at this; exact this
  have i0 : (0 : Int) ≤ (i : Int) := by omega
  have i1 : (i : Int) < (l : Int) := by omega
  have HR := Lib.hid hr
  have R0H := Lib.hid R0
  have HGL := Lib.hid (And.intro hgl hrl)
  subst hcap
  obtain rfl : l = i + 1 := by omega
  clear R0 al hr0 hr hok
  go_enter Tryd.func40, Tryd.ntmps40
  go_wp2_with fail
  refine HAS.out.mono ?_
  rintro e w' ⟨rfl, rfl⟩
  go_wp2_with (first
    | (at_builtin; refine wpList_append_at rfl _ _ 74 74 rfl 79 (.agg #[.string ByteArray.empty, .string ByteArray.empty]) 2 32 Tryd.underlying74 info79 rfl w.heap.size 0 0 0 [] rfl R0H.out _ rfl i (textCells (L.ts.take i)) (SRC1.out _) (by simp [maxLen]; omega) (by omega) ?_; intro g1 o1 cap1 w1 hr1 hgb1 hg1; have k1 := KF.out _ hgb1; have hb1 := (k1.block rb HGL.out.2 (by have := HGL.out.2; simp; omega)).trans H.out.cell; have SRC2 : ∀ (a : Addr) (c : Nat), Src Tryd.prog 2 74 (.slice (some a) 0 c) 0 [] w1 := fun a c => Src.ofSlice w1 Tryd.underlying74 a 0 c [] rfl (by simp) (by simp); have hr1' : RowAt w1 79 2 g1 o1 cap1 i (textCells (L.ts.take i)) := (by simpa using hr1); have d1 : w1.cell? ⟨rb, 1, none⟩ = some (.slice (some ⟨g, o, none⟩) (i + 1) (i + 1)) := (by simp [World.cell?, hb1, Lin.cells]; exact HL.out))
    | (at_builtin; refine wpList_append_at rfl _ _ 74 74 rfl 79 (.agg #[.string ByteArray.empty, .string ByteArray.empty]) 2 32 Tryd.underlying74 info79 rfl g1 o1 cap1 i (textCells (L.ts.take i)) rfl hr1' _ rfl 0 [] (SRC2 _ _) (by simp [maxLen]; omega) (by omega) ?_; intro g2 o2 cap2 w2 hr2 hgb2 hg2; have k2 := Kept.of_grown hgb2; have hne : rb ≠ g1 := (by have := HGL.out.2; rcases hg1 with h | h; omega; simp at h; omega); have hb2 := (k2.block rb (Array.getElem?_eq_some_iff.1 hb1).1 (by simp; exact hne)).trans hb1; have e1 : w2.cell? ⟨rb, 1, none⟩ = some (.slice (some ⟨g, o, none⟩) (i + 1) (i + 1)) := (by simp [World.cell?, hb2, Lin.cells]; exact HL.out); have e1f : w2.frozen? ⟨rb, 1, none⟩ = false := (by simp [World.frozen?, hb2]))
    | fail)
  have hcnt : i = (L.cut (i : Int)).ts.length := by have := HC.out; have := HL.out; omega
  have hg1w : w.heap.size ≤ g1 := by rcases hg1 with h | h; omega; simp at h; omega
  have h2 : RAt w2 rb (.slice (some ⟨g, o, none⟩) L.ts.length (i + 1)) L := by
    first
      | exact ⟨hb2, .inr ⟨g, o, cap, rfl, (HR.out.kept k1 (by have := HGL.out.1; simp; omega)).kept k2 (by have := HGL.out.1; simp; omega)⟩⟩
      | exact ⟨hb2, .inr ⟨g, o, i + 1, rfl, (HR.out.kept k1 (by have := HGL.out.1; simp; omega)).kept k2 (by have := HGL.out.1; simp; omega)⟩⟩
  have hr2' : RowAt w2 79 2 g2 o2 cap2 (L.cut (i : Int)).ts.length (textCells (L.cut (i : Int)).ts) := by
    have e : textCells (L.cut (i : Int)).ts = textCells (L.ts.take i) := by
      unfold Lin.cut
      simp only [Int.toNat_natCast]
      rw [List.eraseIdx_eq_take_drop_succ, textCells_append]
      rw [List.drop_of_length_le (by rw [HL.out]; exact Nat.le_refl _)]
      simp [textCells]
    rw [e, ← hcnt]
    simpa using hr2
  rw [hcnt]
  obtain ⟨V, hV⟩ : ∃ V, V = w2.setCell ⟨rb, 1, none⟩ (.slice (some ⟨g2, o2, none⟩) (L.cut (i : Int)).ts.length cap2) := ⟨_, rfl⟩
  rw [← hV]
  have HV : RAt V rb (.slice (some ⟨g2, o2, none⟩) (L.cut (i : Int)).ts.length cap2) (L.cut (i : Int)) := by
    rw [hV]
    exact h2.setCell 1 _ rfl (.inr ⟨g2, o2, cap2, rfl, hr2'⟩)
  have KV : Hid (Kept [rb] w V) := Lib.hid (by
    rw [hV]
    exact ((k1.mono (fp' := [rb]) (by simp)).trans k2 (fun x hx => .inr (by simp at hx; omega))).trans (Kept.setCell w2 rb 1 _) (by simp))
  have cc := HV.at5
  have ff := HV.f 5
  have hb0 := HOK.out.2.2.2.2.2.2.1
  have hb1' := HOK.out.2.2.2.2.2.2.2.1
  obtain ⟨cv, hcv⟩ : ∃ cv, L.c3 = cv := ⟨_, rfl⟩
  have CV := Lib.hid hcv
  rw [show (L.cut (i : Int)).c3 = L.c3 from rfl, hcv] at cc
  rw [hcv] at hb0 hb1'
  have ew : IntKind.i64.wrap (cv + 1) = cv + 1 := IntWalk.i64_in _ (by omega)
  have F : Hid (RDone w rb { L.cut (i : Int) with c3 := L.c3 + 1 } (.tuple #[.string (L.at (i : Int)).1, .int .i64 0]) (.returned (.tuple #[.string t.1, .int .i64 0])) ((V.setCell ⟨rb, 5, none⟩ (.int .i64 (cv + 1))).drew)) := Lib.hid
    ⟨by rw [AT.out], _, (HV.setCell 5 (.int .i64 (cv + 1)) (L' := { L.cut (i : Int) with c3 := L.c3 + 1 }) (by rw [← CV.out]; rfl) HV.row).below ⟨rfl, rfl, rfl, Nat.le_refl _, fun _ _ => rfl⟩, (KV.out.trans (Kept.setCell V rb 5 _) (by simp)).drew⟩
  clear hV h2 hr2' hb2 k2 k1 hr2 hr1 hr1' hgb1 hgb2 hg1 hg2 hcnt hcv
  go_still_tail 10, (by kernel_rfl)
  go_wp2
  go_ret2
  exact F.out

set_option maxRecDepth 100000 in
/-- Out, where there is none. -/
theorem rout_none {w : World} {rb : Nat} {sv : Value} {L : Lin} (h : RAt w rb sv L) (i : Int) (hi : ¬ L.has i) (n : Int) : Calls Tryd.prog 40 #[.pointer (some ⟨rb, 0, none⟩), .int .i64 i, .int .i64 n] w (RDone w rb L (.tuple #[.string ByteArray.empty, .int .i64 7])) := by
  have HAS := Lib.hid (rhas_no h i hi)
  have H := Lib.hid h
  clear h hi
  go_enter Tryd.func40, Tryd.ntmps40
  go_wp2_with fail
  refine HAS.out.mono ?_
  rintro e w' ⟨rfl, rfl⟩
  go_wp2_with fail
  go_ret2
  exact ⟨rfl, sv, H.out, Kept.refl _ _⟩

/-- Out, the i-th one taken. -/
theorem rout_two {w : World} {rb : Nat} {sv : Value} {L : Lin} (h : RAt w rb sv L) (hok : L.ok) (i : Int) (hi : L.has i) : Calls Tryd.prog 40 #[.pointer (some ⟨rb, 0, none⟩), .int .i64 i, .int .i64 2] w (RDone w rb { L.cut i with c2 := L.c2 + 1 } (.tuple #[.string (L.at i).1, .int .i64 0])) := by
  obtain ⟨k, rfl⟩ : ∃ k : Nat, i = (k : Int) := ⟨i.toNat, by have := hi.1; omega⟩
  have hk : k < L.ts.length := by have := hi.2; omega
  rcases h.row with ⟨_, h0, _⟩ | ⟨g, o, cap, rfl, hr⟩
  · omega
  by_cases hc : cap = k + 1
  · exact rout2e h hr hok k hk hc
  · exact rout2 h hr hok k hk hc
theorem rout_three {w : World} {rb : Nat} {sv : Value} {L : Lin} (h : RAt w rb sv L) (hok : L.ok) (i : Int) (hi : L.has i) : Calls Tryd.prog 40 #[.pointer (some ⟨rb, 0, none⟩), .int .i64 i, .int .i64 3] w (RDone w rb { L.cut i with c3 := L.c3 + 1 } (.tuple #[.string (L.at i).1, .int .i64 0])) := by
  obtain ⟨k, rfl⟩ : ∃ k : Nat, i = (k : Int) := ⟨i.toNat, by have := hi.1; omega⟩
  have hk : k < L.ts.length := by have := hi.2; omega
  rcases h.row with ⟨_, h0, _⟩ | ⟨g, o, cap, rfl, hr⟩
  · omega
  by_cases hc : cap = k + 1
  · exact rout3e h hr hok k hk hc
  · exact rout3 h hr hok k hk hc

end Go.Proofs.YtkpbjahjiajodaaDoor
