/- This text proves what the reference's line does when a text is spoilt, over the loaded program. -/
import Derived.Test.YtkpbjahjiajodaaDoorRLine6
namespace Go.Proofs.YtkpbjahjiajodaaDoor
open Go.RowKit Go.WideShapes
set_option linter.unusedSimpArgs false

theorem spoilS_parts (s : ByteArray) (a : Nat) (b c : UInt8) (h : a < s.size) (hc : c = s.data.toList.getD a 0 ^^^ b) : s.extract 0 a ++ ⟨#[c]⟩ ++ s.extract (a + 1) s.size = spoilS s a b := by
  subst hc
  apply ByteArray.ext
  apply Array.toList_inj.1
  have hs : s.data.toList.length = s.size := by simp
  unfold spoilS
  simp only [ByteArray.data_append, ByteArray.data_extract, Array.toList_append, Array.toList_extract]
  rw [List.set_eq_take_append_cons_drop, if_pos (by omega)]
  simp
  rw [List.take_of_length_le]
  simp

theorem conv_one (w : World) (c d : UInt8) : (convert 49 9 (.slice (some ⟨w.heap.size, 0, none⟩) 1 1)).run Tryd.prog (w.alloc (.cells #[.int .u8 ((c.toNat ^^^ d.toNat : Nat) : Int)] 5)).drew = .ok (.string ⟨#[c ^^^ d]⟩) (w.alloc (.cells #[.int .u8 ((c.toNat ^^^ d.toNat : Nat) : Int)] 5)).drew := by
  refine run_convert_bytes_back _ 49 9 5 _ 1 [c ^^^ d] Tryd.underlying49 Tryd.underlying5 Tryd.underlying9 (fun j hj => ?_)
  rw [add_plain]
  match j, hj with
  | 0, _ =>
    rw [World.cell?_drew, World.cell?_alloc_new]
    simp

set_option maxRecDepth 100000 in
set_option maxHeartbeats 3200000 in
theorem rspoil_ok {w : World} {rb : Nat} {sv : Value} {L : Lin} (h : RAt w rb sv L) (hok : L.ok) (i : Nat) (hi : i < L.ts.length) (a : Nat) (ha : a < (L.at i).1.size) (hsz : (L.at i).1.size ≤ 100000) (b : UInt8) (hb : b ≠ 0) :
    Calls Tryd.prog 42 #[.pointer (some ⟨rb, 0, none⟩), .int .i64 i, .int .i64 a, .int .u8 (b.toNat : Int)] w (RDone w rb { L.put i (spoilS (L.at i).1 a b) with c5 := L.c5 + 1 } (.int .i64 0)) := by
  have HAS := Lib.hid (rhas_yes h (i : Int) ⟨by omega, by omega⟩)
  have H := Lib.hid h
  have HOK := Lib.hid hok
  have c1 := h.at1
  obtain ⟨t, ht⟩ : ∃ t, L.ts[i]? = some t := ⟨L.ts[i], by simp [hi]⟩
  have hat : L.at (i : Int) = t := by unfold Lin.at; simp [List.getD_eq_getElem?_getD, ht]
  rw [hat] at ha hsz
  obtain ⟨g, o, cap, rfl, hr⟩ : ∃ g o cap, sv = .slice (some ⟨g, o, none⟩) L.ts.length cap ∧ RowAt w 79 2 g o cap L.ts.length (textCells L.ts) := by
    rcases h.row with ⟨_, h2, _⟩ | h
    · omega
    · exact h
  have nowc := (rnow_cell hr ht).1
  have hgl := hr.lt
  have hrl := h.lt
  have R0 := RowAt.empty w 79 2
  have al := Kept.alloc w (.cells #[] 79)
  have hr0 := hr.kept al (by simp)
  have SRC1 := Lib.hid (RowO.src (.inr ⟨g, o, cap, rfl, hr0⟩) (textCells_one L.ts) Tryd.underlying74)
  have KF := Lib.hid (fun w1 (hg : (w.alloc (.cells #[] 79)).grownBy w1 (some w.heap.size)) => show Kept [w.heap.size] w w1 from (al.trans (Kept.of_grown hg) (by simp)).mono (by simp))
  obtain ⟨l, hl⟩ : ∃ l, L.ts.length = l := ⟨_, rfl⟩
  have HL := Lib.hid hl
  rw [hl] at c1 hi SRC1
  have l64 : l ≤ 64 := by have := hok.2.2.2.2.2.2.2.2.2.2.2.2.1; rw [hl] at this; exact this
  have i0 : (0 : Int) ≤ (i : Int) := by omega
  have i1 : (i : Int) < (l : Int) := by omega
  have R0H := Lib.hid R0
  have HGL := Lib.hid (And.intro hgl hrl)
  have HT := Lib.hid ht
  have HAT := Lib.hid hat
  obtain ⟨t1, t2⟩ := t
  simp only at nowc ha hsz
  have a0 : (0 : Int) ≤ (a : Int) := by omega
  have a1 : (a : Int) < (t1.size : Int) := by omega
  have q1 : ((b.toNat : Int) == 0) = false := by
    simp
    intro h0
    exact hb (UInt8.toNat_inj.1 h0)
  have q2 : decide ((a : Int) < 0) = false := by simp
  have q3 : decide (t1.size ≤ a) = false := by simp; omega
  have HA := Lib.hid ha
  obtain ⟨cb, hcb⟩ : ∃ cb, t1.data.toList.getD a 0 = cb := ⟨_, rfl⟩
  have hcb2 : ∀ h, t1[a]'h = cb := fun h => by rw [← hcb, List.getD, List.getElem?_eq_getElem (by simpa using h), Option.getD_some]; rfl
  have CB := Lib.hid hcb
  clear hcb
  have a2 : a ≤ t1.size := by omega
  have a3 : (a : Int) + 1 ≤ (t1.size : Int) := by omega
  have a5 : (0 : Int) ≤ (a : Int) + 1 := by omega
  have ew1 : IntKind.i64.wrap ((a : Int) + 1) = (a : Int) + 1 := IntWalk.i64_in _ (by omega)
  clear R0 al hr0 hr hok ht hat hb
  go_enter Tryd.func42, Tryd.ntmps42
  go_wp2_with fail
  refine HAS.out.mono ?_
  rintro e w' ⟨rfl, rfl⟩
  go_wp2_with (first
    | (at_builtin; refine wpList_append_at rfl _ _ 74 74 rfl 79 (.agg #[.string ByteArray.empty, .string ByteArray.empty]) 2 32 Tryd.underlying74 info79 rfl w.heap.size 0 0 0 [] rfl R0H.out _ rfl l (textCells L.ts) SRC1.out (by simp [maxLen]; omega) (by omega) ?_; intro g1 o1 cap1 w1 hr1 hgb1 hg1; have k1 := KF.out _ hgb1; have hb1 := (k1.block rb HGL.out.2 (by have := HGL.out.2; simp; omega)).trans H.out.cell; have hr1' : RowAt w1 79 2 g1 o1 cap1 l (textCells L.ts) := (by simpa using hr1); have d1 : w1.cell? ⟨rb, 1, none⟩ = some (.slice (some ⟨g, o, none⟩) l cap) := (by have e := HL.out; rw [← e]; simp [World.cell?, hb1, Lin.cells]); have d1f : w1.frozen? ⟨rb, 1, none⟩ = false := (by simp [World.frozen?, hb1]))
    | fail)
  have hg1w : w.heap.size ≤ g1 := by rcases hg1 with h | h; omega; simp at h; omega
  have hne : rb ≠ g1 := by have := HGL.out.2; omega
  have h2 : RAt w1 rb (.slice (some ⟨g, o, none⟩) L.ts.length cap) L :=
    H.out.same (fun x cur T _ hb => k1.block x (Array.getElem?_eq_some_iff.1 hb).1 (by have := (Array.getElem?_eq_some_iff.1 hb).1; simp; omega))
  obtain ⟨V, hV⟩ : ∃ V, V = w1.setCell ⟨rb, 1, none⟩ (.slice (some ⟨g1, o1, none⟩) l cap1) := ⟨_, rfl⟩
  rw [← hV]
  have HR1 : Hid (RowAt V 79 2 g1 o1 cap1 l (textCells L.ts)) := Lib.hid (by rw [hV]; exact hr1'.kept (Kept.setCell w1 rb 1 _) (by simp; omega))
  have HV : Hid (RAt V rb (.slice (some ⟨g1, o1, none⟩) l cap1) L) := Lib.hid (by
    have := HR1.out
    rw [hV] at this ⊢
    exact h2.setCell 1 _ rfl (.inr ⟨g1, o1, cap1, by rw [HL.out], by rw [HL.out]; exact hr1'⟩))
  have KV : Hid (Kept [rb] w V) := Lib.hid (by
    rw [hV]
    exact (k1.mono (fp' := [rb]) (fun x hx => .inr (by simp at hx; omega))).trans (Kept.setCell w1 rb 1 _) (by simp))
  have GX : Hid (∀ wx, Kept [] V wx → wx.cell? ⟨rb, 1, none⟩ = some (.slice (some ⟨g1, o1, none⟩) l cap1) ∧ wx.cell? ⟨g1, o1 + i * 2, none⟩ = some (.string t1) ∧ wx.frozen? ⟨g1, o1 + i * 2, none⟩ = false) := Lib.hid (fun wx hk => by
    have r := HR1.out.kept hk (by simp)
    have hv := (hk.block rb HV.out.lt (by simp)).trans HV.out.cell
    exact ⟨by simp [World.cell?, hv, Lin.cells], (rnow_cell r HT.out).1, r.frozen _⟩)
  have S0 : V.drew.cell? ⟨rb, 1, none⟩ = some (.slice (some ⟨g1, o1, none⟩) l cap1) := (GX.out _ (Kept.refl [] V).drew).1
  have gV := (GX.out _ (Kept.refl [] V)).2.1
  have fV := (GX.out _ (Kept.refl [] V)).2.2
  have hgV : g1 < V.heap.size := HR1.out.lt
  have lc1 : ¬ 9223372036854775807 < a + 1 := by omega
  have lc2 : ¬ 9223372036854775807 < a + 1 + (t1.size - (a + 1)) := by omega
  have STX : Hid (∀ ob v, (((V.setCell ⟨g1, o1 + i * 2, none⟩ v).alloc ob).drew).cell? ⟨rb, 1, none⟩ = some (.slice (some ⟨g1, o1, none⟩) l cap1)) := Lib.hid (fun ob v => by
    have k := ((Kept.setCell V g1 (o1 + i * 2) v).trans (Kept.alloc _ ob) (by simp)).drew
    exact k.cell (x := ⟨rb, 1, none⟩) (GX.out _ (Kept.refl [] V)).1 (by simpa using hne))
  have KA1 : Hid (∀ ob, Kept [] V (World.drew (World.alloc V ob))) := Lib.hid (fun ob => (Kept.alloc V ob).drew)
  clear hV hb1 hgb1 hr1 hr1' d1 d1f h2 k1 c1 nowc hg1
  refine wp_region_held_drew (S := (fun w' => w'.cell? ⟨rb, 1, none⟩ = some (.slice (some ⟨g1, o1, none⟩) l cap1))) (by kernel_rfl) ?_ (fun hHeld => ?_)
  · (try dsimp only); (first | exact S0 | exact S1 _ | exact S2 _ _)
  refine wpAnyH_take (i := 0) (v := ?_) rfl (by kernel_rfl) (by kernel_rfl) (by kernel_rfl) (fun _ _ _ h => h) (Or.inl ⟨by rfl, ?_⟩) (by assumption) ?_
  rotate_left; · (intro w hSw; (try dsimp only at hSw); go_simp; try with_reducible rfl)
  (try simp only [Act.put, List.setIfInBounds_toArray, List.set_cons_zero, List.set_cons_succ, List.getElem_toArray, List.getElem_cons_zero, List.getElem_cons_succ])
  refine wpAnyH_take (i := 1) (v := ?_) rfl (by kernel_rfl) (by kernel_rfl) (by kernel_rfl) (fun _ _ _ h => h) (Or.inl ⟨by rfl, ?_⟩) (by assumption) ?_
  rotate_left; · (intro w hSw; (try dsimp only at hSw); go_simp; try with_reducible rfl)
  (try simp only [Act.put, List.setIfInBounds_toArray, List.set_cons_zero, List.set_cons_succ, List.getElem_toArray, List.getElem_cons_zero, List.getElem_cons_succ])
  refine wpAnyH_take (i := 2) (v := ?_) rfl (by kernel_rfl) (by kernel_rfl) (by kernel_rfl) (fun _ _ _ h => h) (Or.inl ⟨by rfl, ?_⟩) (by assumption) ?_
  rotate_left; · (intro w hSw; (try dsimp only at hSw); go_simp; try with_reducible rfl)
  (try simp only [Act.put, List.setIfInBounds_toArray, List.set_cons_zero, List.set_cons_succ, List.getElem_toArray, List.getElem_cons_zero, List.getElem_cons_succ])
  refine wpAnyH_take (i := 3) (v := ?_) rfl (by kernel_rfl) (by kernel_rfl) (by kernel_rfl) (fun _ _ _ h => h) (Or.inl ⟨by rfl, ?_⟩) (by assumption) ?_
  rotate_left; · (intro w hSw; (try dsimp only at hSw); go_simp; try with_reducible rfl)
  (try simp only [Act.put, List.setIfInBounds_toArray, List.set_cons_zero, List.set_cons_succ, List.getElem_toArray, List.getElem_cons_zero, List.getElem_cons_succ])
  refine wpAnyH_take (i := 4) (v := ?_) rfl (by kernel_rfl) (by kernel_rfl) (by kernel_rfl) (fun _ _ _ h => h) (Or.inl ⟨by rfl, ?_⟩) (by assumption) ?_
  rotate_left; · (intro w hSw; (try dsimp only at hSw); go_simp; try with_reducible rfl)
  (try simp only [Act.put, List.setIfInBounds_toArray, List.set_cons_zero, List.set_cons_succ, List.getElem_toArray, List.getElem_cons_zero, List.getElem_cons_succ])
  refine wpAnyH_take (i := 5) (v := ?_) rfl (by kernel_rfl) (by kernel_rfl) (by kernel_rfl) (fun _ _ _ h => h) (Or.inl ⟨by rfl, ?_⟩) (by assumption) ?_
  rotate_left; · (intro w hSw; (try dsimp only at hSw); go_simp; try with_reducible rfl)
  (try simp only [Act.put, List.setIfInBounds_toArray, List.set_cons_zero, List.set_cons_succ, List.getElem_toArray, List.getElem_cons_zero, List.getElem_cons_succ])
  refine wpAnyH_take (i := 6) (v := ?_) rfl (by kernel_rfl) (by kernel_rfl) (by kernel_rfl) (fun _ _ _ h => h) (Or.inl ⟨by rfl, ?_⟩) (by assumption) ?_
  rotate_left; · (intro w hSw; (try dsimp only at hSw); go_simp; try with_reducible rfl)
  (try simp only [Act.put, List.setIfInBounds_toArray, List.set_cons_zero, List.set_cons_succ, List.getElem_toArray, List.getElem_cons_zero, List.getElem_cons_succ])
  refine wpAnyH_take (i := 7) (v := ?_) rfl (by kernel_rfl) (by kernel_rfl) (by kernel_rfl) (fun _ _ _ h => h) (Or.inl ⟨by rfl, ?_⟩) (by assumption) ?_
  rotate_left; · (intro w hSw; (try dsimp only at hSw); go_simp; try with_reducible rfl)
  (try simp only [Act.put, List.setIfInBounds_toArray, List.set_cons_zero, List.set_cons_succ, List.getElem_toArray, List.getElem_cons_zero, List.getElem_cons_succ])
  refine wpAnyH_take (i := 8) (v := ?_) rfl (by kernel_rfl) (by kernel_rfl) (by kernel_rfl) (fun _ _ _ h => h) (Or.inl ⟨by rfl, ?_⟩) (by assumption) ?_
  rotate_left; · (intro w hSw; (try dsimp only at hSw); go_simp; try with_reducible rfl)
  (try simp only [Act.put, List.setIfInBounds_toArray, List.set_cons_zero, List.set_cons_succ, List.getElem_toArray, List.getElem_cons_zero, List.getElem_cons_succ])
  refine wpAnyH_take (i := 9) (v := ?_) rfl (by kernel_rfl) (by kernel_rfl) (by kernel_rfl) (fun _ _ _ h => h) (Or.inl ⟨by rfl, ?_⟩) (by assumption) ?_
  rotate_left; · (intro w hSw; (try dsimp only at hSw); go_simp; try with_reducible rfl)
  (try simp only [Act.put, List.setIfInBounds_toArray, List.set_cons_zero, List.set_cons_succ, List.getElem_toArray, List.getElem_cons_zero, List.getElem_cons_succ])
  refine wpAnyH_take (i := 10) (v := ?_) rfl (by kernel_rfl) (by kernel_rfl) (by kernel_rfl) (fun _ _ _ h => h) (Or.inl ⟨by rfl, ?_⟩) (by assumption) ?_
  rotate_left; · (intro w hSw; (try dsimp only at hSw); go_simp; try with_reducible rfl)
  (try simp only [Act.put, List.setIfInBounds_toArray, List.set_cons_zero, List.set_cons_succ, List.getElem_toArray, List.getElem_cons_zero, List.getElem_cons_succ])
  refine wpAnyH_take (i := 11) (v := ?_) rfl (by kernel_rfl) (by kernel_rfl) (by kernel_rfl) (fun _ _ _ h => h) (Or.inl ⟨by rfl, ?_⟩) (by assumption) ?_
  rotate_left; · (intro w hSw; (try dsimp only at hSw); go_simp; try with_reducible rfl)
  (try simp only [Act.put, List.setIfInBounds_toArray, List.set_cons_zero, List.set_cons_succ, List.getElem_toArray, List.getElem_cons_zero, List.getElem_cons_succ])
  refine wpAnyH_take (i := 12) (v := ?_) rfl (by kernel_rfl) (by kernel_rfl) (by kernel_rfl) (fun _ _ _ h => h) (Or.inl ⟨by rfl, ?_⟩) (by assumption) ?_
  rotate_left; · (intro w hSw; (try dsimp only at hSw); go_simp; try with_reducible rfl)
  (try simp only [Act.put, List.setIfInBounds_toArray, List.set_cons_zero, List.set_cons_succ, List.getElem_toArray, List.getElem_cons_zero, List.getElem_cons_succ])
  refine wpAnyH_take (i := 16) (v := ?_) rfl (by kernel_rfl) (by kernel_rfl) (by kernel_rfl) (fun _ _ _ h => h) (Or.inl ⟨by rfl, ?_⟩) (by assumption) ?_
  rotate_left; · (intro w hSw; (try dsimp only at hSw); go_simp; try with_reducible rfl)
  (try simp only [Act.put, List.setIfInBounds_toArray, List.set_cons_zero, List.set_cons_succ, List.getElem_toArray, List.getElem_cons_zero, List.getElem_cons_succ])
  refine wpAnyH_take (i := 17) (v := ?_) rfl (by kernel_rfl) (by kernel_rfl) (by kernel_rfl) (fun _ _ _ h => h) (Or.inl ⟨by rfl, ?_⟩) (by assumption) ?_
  rotate_left; · (intro w hSw; (try dsimp only at hSw); go_simp; try with_reducible rfl)
  (try simp only [Act.put, List.setIfInBounds_toArray, List.set_cons_zero, List.set_cons_succ, List.getElem_toArray, List.getElem_cons_zero, List.getElem_cons_succ])
  refine wpAnyH_take (i := 18) (v := ?_) rfl (by kernel_rfl) (by kernel_rfl) (by kernel_rfl) (fun _ _ _ h => h) (Or.inl ⟨by rfl, ?_⟩) (by assumption) ?_
  rotate_left; · (intro w hSw; (try dsimp only at hSw); go_simp; try with_reducible rfl)
  (try simp only [Act.put, List.setIfInBounds_toArray, List.set_cons_zero, List.set_cons_succ, List.getElem_toArray, List.getElem_cons_zero, List.getElem_cons_succ])
  refine wpAnyH_take (i := 19) (v := ?_) rfl (by kernel_rfl) (by kernel_rfl) (by kernel_rfl) (fun _ _ _ h => h) (Or.inl ⟨by rfl, ?_⟩) (by assumption) ?_
  rotate_left; · (intro w hSw; (try dsimp only at hSw); go_simp; try with_reducible rfl)
  (try simp only [Act.put, List.setIfInBounds_toArray, List.set_cons_zero, List.set_cons_succ, List.getElem_toArray, List.getElem_cons_zero, List.getElem_cons_succ])
  refine wpAnyH_ready (rs := [13]) (by kernel_rfl) (by simp) ?_
  refine AllReadyH.cons rfl (fun K hK => ?_) AllReadyH.nil
  (try simp only [List.getElem_toArray, List.getElem_cons_zero, List.getElem_cons_succ])
  go_simp
  simp only [xor8]; have S1 := fun ob => (GX.out _ (KA1.out ob)).1
  refine hK.out _ _ ?_ (fun hHeld2 => ?_)
  · (try dsimp only); (first | exact S0 | exact S1 _ | exact S2 _ _)
  clear hK K hHeld
  have hHeld := hHeld2
  clear hHeld2
  (try simp only [Act.put, List.setIfInBounds_toArray, List.set_cons_zero, List.set_cons_succ, List.getElem_toArray, List.getElem_cons_zero, List.getElem_cons_succ])
  refine wpAnyH_ready (rs := [14]) (by kernel_rfl) (by simp) ?_
  refine AllReadyH.cons rfl (fun K hK => ?_) AllReadyH.nil
  (try simp only [List.getElem_toArray, List.getElem_cons_zero, List.getElem_cons_succ])
  go_simp
  rw [conv_one]; go_simp
  refine hK.out _ _ ?_ (fun hHeld2 => ?_)
  · (try dsimp only); (first | exact S0 | exact S1 _ | exact S2 _ _)
  clear hK K hHeld
  have hHeld := hHeld2
  clear hHeld2
  (try simp only [Act.put, List.setIfInBounds_toArray, List.set_cons_zero, List.set_cons_succ, List.getElem_toArray, List.getElem_cons_zero, List.getElem_cons_succ])
  refine wpAnyH_take (i := 15) (v := ?_) rfl (by kernel_rfl) (by kernel_rfl) (by kernel_rfl) (fun _ _ _ h => h) (Or.inl ⟨by rfl, ?_⟩) (by assumption) ?_
  rotate_left; · (intro w hSw; (try dsimp only at hSw); go_simp; try with_reducible rfl)
  (try simp only [Act.put, List.setIfInBounds_toArray, List.set_cons_zero, List.set_cons_succ, List.getElem_toArray, List.getElem_cons_zero, List.getElem_cons_succ])
  refine wpAnyH_take (i := 20) (v := ?_) rfl (by kernel_rfl) (by kernel_rfl) (by kernel_rfl) (fun _ _ _ h => h) (Or.inl ⟨by rfl, ?_⟩) (by assumption) ?_
  rotate_left; · (intro w hSw; (try dsimp only at hSw); go_simp; try with_reducible rfl)
  (try simp only [Act.put, List.setIfInBounds_toArray, List.set_cons_zero, List.set_cons_succ, List.getElem_toArray, List.getElem_cons_zero, List.getElem_cons_succ])
  refine wpAnyH_take (i := 21) (v := ?_) rfl (by kernel_rfl) (by kernel_rfl) (by kernel_rfl) (fun _ _ _ h => h) (Or.inl ⟨by rfl, ?_⟩) (by assumption) ?_
  rotate_left; · (intro w hSw; (try dsimp only at hSw); go_simp; try with_reducible rfl)
  (try simp only [Act.put, List.setIfInBounds_toArray, List.set_cons_zero, List.set_cons_succ, List.getElem_toArray, List.getElem_cons_zero, List.getElem_cons_succ])
  refine wpAnyH_take (i := 22) (v := ?_) rfl (by kernel_rfl) (by kernel_rfl) (by kernel_rfl) (fun _ _ _ h => h) (Or.inl ⟨by rfl, ?_⟩) (by assumption) ?_
  rotate_left; · (intro w hSw; (try dsimp only at hSw); go_simp; try with_reducible rfl)
  (try simp only [Act.put, List.setIfInBounds_toArray, List.set_cons_zero, List.set_cons_succ, List.getElem_toArray, List.getElem_cons_zero, List.getElem_cons_succ])
  refine wpAnyH_ready (rs := [23]) (by kernel_rfl) (by simp) ?_
  refine AllReadyH.cons rfl (fun K hK => ?_) AllReadyH.nil
  (try simp only [List.getElem_toArray, List.getElem_cons_zero, List.getElem_cons_succ])
  go_simp
  have S2 := STX.out
  refine hK.out _ _ ?_ (fun hHeld2 => ?_)
  · (try dsimp only); (first | exact S0 | exact S1 _ | exact S2 _ _)
  clear hK K hHeld
  have hHeld := hHeld2
  clear hHeld2
  (try simp only [Act.put, List.setIfInBounds_toArray, List.set_cons_zero, List.set_cons_succ, List.getElem_toArray, List.getElem_cons_zero, List.getElem_cons_succ])
  refine wpAnyH_done (by kernel_rfl) ?_ _
  rw [spoilS_parts t1 a b _ HA.out ?hc]
  case hc => rw [CB.out]
  obtain ⟨X, hX⟩ : ∃ X, X = ((V.setCell ⟨g1, o1 + i * 2, none⟩ (.string (spoilS t1 a b))).alloc (.cells #[.int .u8 ((cb.toNat ^^^ b.toNat : Nat) : Int)] 5)).drew := ⟨_, rfl⟩
  rw [← hX]
  have KX : Hid (Kept [g1] V X) := Lib.hid (by rw [hX]; exact ((Kept.setCell V g1 (o1 + i * 2) _).trans (Kept.alloc _ _) (by simp)).drew)
  have RX : Hid (RowAt X 79 2 g1 o1 cap1 l (textCells (L.ts.set i (spoilS t1 a b, t2)))) := Lib.hid (by
    rw [hX, textCells_set L.ts i (t1, t2) HT.out]
    exact ((HR1.out.set (i * 2) (.string (spoilS t1 a b))).kept (Kept.alloc _ _) (by simp)).kept ((Kept.refl [] _).drew) (by simp))
  have hput : L.put (i : Int) (spoilS (L.at (i : Int)).1 a b) = { L with ts := L.ts.set i (spoilS t1 a b, t2) } := by
    unfold Lin.put; rw [HAT.out]; simp
  have hXR : RAt X rb (.slice (some ⟨g1, o1, none⟩) l cap1) { L with ts := L.ts.set i (spoilS t1 a b, t2) } :=
    ⟨(KX.out.block rb HV.out.lt (by simp; omega)).trans HV.out.cell, .inr ⟨g1, o1, cap1, by simp [HL.out], by simpa [HL.out] using RX.out⟩⟩
  have KW : Hid (Kept [rb] w X) := Lib.hid (KV.out.trans KX.out (fun x hx => .inr (by simp at hx; omega)))
  have cc := hXR.at7
  have ff := hXR.f 7
  have hb0 : 0 ≤ L.c5 := HOK.out.2.2.2.2.2.2.2.2.2.2.1
  have hb1 : L.c5 ≤ 1000000 := HOK.out.2.2.2.2.2.2.2.2.2.2.2.1
  obtain ⟨cv, hcv⟩ : ∃ cv, L.c5 = cv := ⟨_, rfl⟩
  have CV := Lib.hid hcv
  dsimp only at cc
  rw [hcv] at cc hb0 hb1
  have ew : IntKind.i64.wrap (cv + 1) = cv + 1 := IntWalk.i64_in _ (by omega)
  have F : Hid (RDone w rb { L.put (i : Int) (spoilS (L.at (i : Int)).1 a b) with c5 := L.c5 + 1 } (.int .i64 0) (.returned (.int .i64 0)) ((X.setCell ⟨rb, 7, none⟩ (.int .i64 (cv + 1))).drew)) := Lib.hid (by
    rw [hput]
    exact ⟨rfl, _, (hXR.setCell 7 (.int .i64 (cv + 1)) (L' := { L with ts := L.ts.set i (spoilS t1 a b, t2), c5 := L.c5 + 1 }) (by rw [← CV.out]; rfl) hXR.row).below ⟨rfl, rfl, rfl, Nat.le_refl _, fun _ _ => rfl⟩, (KW.out.trans (Kept.setCell X rb 7 _) (by simp)).drew⟩)
  clear hX hcv hXR hput
  go_wp2_with fail
  go_still_tail 9, (by kernel_rfl)
  go_wp2
  go_ret
  exact F.out

section
variable {w : World} {rb : Nat} {sv : Value} {L : Lin}
theorem rspoil_arg (h : RAt w rb sv L) (i : Nat) (hi : i < L.ts.length) (a : Int) (b : UInt8) (hb : b = 0 ∨ a < 0 ∨ ((L.at i).1.size : Int) ≤ a) :
    Calls Tryd.prog 42 #[.pointer (some ⟨rb, 0, none⟩), .int .i64 i, .int .i64 a, .int .u8 (b.toNat : Int)] w (RDone w rb L (.int .i64 1)) := by
  have HAS := Lib.hid (rhas_yes h (i : Int) ⟨by omega, by omega⟩)
  have H := Lib.hid h
  have c1 := h.at1
  obtain ⟨t, ht⟩ : ∃ t, L.ts[i]? = some t := ⟨L.ts[i], by simp [hi]⟩
  have hat : L.at (i : Int) = t := by unfold Lin.at; simp [List.getD_eq_getElem?_getD, ht]
  rw [hat] at hb
  obtain ⟨g, o, cap, rfl, hr⟩ : ∃ g o cap, sv = .slice (some ⟨g, o, none⟩) L.ts.length cap ∧ RowAt w 79 2 g o cap L.ts.length (textCells L.ts) := by
    rcases h.row with ⟨_, h2, _⟩ | h
    · omega
    · exact h
  have nowc := (rnow_cell hr ht).1
  obtain ⟨l, hl⟩ : ∃ l, L.ts.length = l := ⟨_, rfl⟩
  rw [hl] at c1 hi
  have i0 : (0 : Int) ≤ (i : Int) := by omega
  have i1 : (i : Int) < (l : Int) := by omega
  obtain ⟨t1, t2⟩ := t
  simp only at nowc hb
  clear h ht hat hr hl
  by_cases h0 : b = 0
  · subst h0
    clear hb
    go_enter Tryd.func42, Tryd.ntmps42
    go_wp2_with fail
    refine HAS.out.mono ?_
    rintro e w1 ⟨rfl, rfl⟩
    go_wp2_with fail
    go_ret
    exact ⟨rfl, _, H.out, Kept.refl _ _⟩
  · have q1 : ((b.toNat : Int) == 0) = false := by
      simp
      intro h
      exact h0 (UInt8.toNat_inj.1 h)
    by_cases h1 : a < 0
    · clear hb
      go_enter Tryd.func42, Tryd.ntmps42
      go_wp2_with fail
      refine HAS.out.mono ?_
      rintro e w1 ⟨rfl, rfl⟩
      go_wp2_with fail
      go_ret
      exact ⟨rfl, _, H.out, Kept.refl _ _⟩
    · have q2 : decide (a < 0) = false := by simp; omega
      have h2 : (t1.size : Int) ≤ a := by
        rcases hb with h | h | h
        · exact absurd h h0
        · exact absurd h h1
        · exact h
      clear hb h1 h0
      go_enter Tryd.func42, Tryd.ntmps42
      go_wp2_with fail
      refine HAS.out.mono ?_
      rintro e w1 ⟨rfl, rfl⟩
      go_wp2_with fail
      go_ret
      exact ⟨rfl, _, H.out, Kept.refl _ _⟩
theorem rspoil_none (h : RAt w rb sv L) (i : Int) (hi : ¬ L.has i) (a : Int) (b : UInt8) :
    Calls Tryd.prog 42 #[.pointer (some ⟨rb, 0, none⟩), .int .i64 i, .int .i64 a, .int .u8 (b.toNat : Int)] w (RDone w rb L (.int .i64 7)) := by
  have HAS := Lib.hid (rhas_no h i hi)
  have H := Lib.hid h
  clear h hi
  go_enter Tryd.func42, Tryd.ntmps42
  go_wp2_with fail
  refine HAS.out.mono ?_
  rintro e w1 ⟨rfl, rfl⟩
  go_wp2_with fail
  go_ret
  exact ⟨rfl, _, H.out, Kept.refl _ _⟩
theorem rspoil_any (h : RAt w rb sv L) (hok : L.ok) (i a : Int) (b : UInt8) (hsz : L.has i → (L.at i).1.size ≤ 100000) :
    Calls Tryd.prog 42 #[.pointer (some ⟨rb, 0, none⟩), .int .i64 i, .int .i64 a, .int .u8 (b.toNat : Int)] w (RDone w rb (L.spoil i a b).1 (.int .i64 (refNum (L.spoil i a b).2))) := by
  unfold Lin.spoil
  by_cases hi : L.has i
  · obtain ⟨j, rfl⟩ : ∃ j : Nat, i = j := ⟨i.toNat, by unfold Lin.has at hi; omega⟩
    have hj : j < L.ts.length := by unfold Lin.has at hi; omega
    rw [if_pos hi]
    by_cases hb : b = 0 ∨ a < 0 ∨ ((L.at j).1.size : Int) ≤ a
    · rw [if_pos hb]
      exact rspoil_arg h j hj a b hb
    · rw [if_neg hb]
      obtain ⟨k, rfl⟩ : ∃ k : Nat, a = k := ⟨a.toNat, by omega⟩
      exact rspoil_ok h hok j hj k (by omega) (hsz hi) b (fun e => hb (.inl e))
  · rw [if_neg hi]
    exact rspoil_none h i hi a b
end

end Go.Proofs.YtkpbjahjiajodaaDoor
