/- This text holds a writer of the law's own and what each call makes of it, over the loaded program. -/
import Derived.Test.YtgdbpicelnoacaaDoorItems4
namespace Go.Proofs.YtgdbpicelnoacaaDoor
open Go.RowKit Go.WideShapes

/-- Block wb is a writer of the law's own. -/
def WI (A : Nat → Addr) (w0 : World) (wb : Nat) (W : Wri) (w : World) : Prop := ∃ gp, WAt A w wb gp W ∧ Below w0.heap.size w0 w ∧ w0.heap.size ≤ wb ∧ ∀ x ∈ gp, w0.heap.size ≤ x

section
variable {A : Nat → Addr} {w0 w w' : World} {wb : Nat} {W W' : Wri}
theorem WI.bel (h : WI A w0 wb W w) : Below w0.heap.size w0 w := by
  obtain ⟨_, _, h, _⟩ := h
  exact h
theorem WI.below (h : WI A w0 wb W w) (hb : Below w.heap.size w w') : WI A w0 wb W w' := by
  obtain ⟨gp, h1, h2, h3, h4⟩ := h
  exact ⟨gp, h1.below hb, h2.trans (hb.mono h2.size), h3, h4⟩
theorem WI.next {f : FuncId} {args : Array Value} (h : WI A w0 wb W w) (hc : ∀ gp, WAt A w wb gp W → Calls Tryd.prog f args w (WDone A w wb gp W')) : Calls Tryd.prog f args w fun e w' => e = .returned (.tuple #[]) ∧ WI A w0 wb W' w' := by
  obtain ⟨gp, h1, h2, h3, h4⟩ := h
  refine (hc gp h1).mono ?_
  rintro e w1 ⟨rfl, gp', k1, k2, k3⟩
  refine ⟨rfl, gp', k1, below_kept h2 k2 (fun x hx => ?_) (Nat.le_refl _), h3, fun x hx => ?_⟩
  · rcases List.mem_cons.1 hx with rfl | hx
    · exact h3
    · exact h4 x hx
  · rcases k3 x hx with hx | hx
    · exact h4 x hx
    · exact Nat.le_trans h2.size hx
theorem WI.put (h : WI A w0 wb W w) (hok : W.ok) (hG : Glob w0 A) (i : It) (hi : i.ok w0) : Calls Tryd.prog 17 #[.pointer (some ⟨wb, 0, none⟩), i.v] w fun e w' => e = .returned (.tuple #[]) ∧ WI A w0 wb (W.item i) w' :=
  h.next fun _ h1 => put_any h1 hok (hG.below h.bel) i (hi.below h.bel)
theorem wi_new (A : Nat → Addr) (m : Int) (hb : Below w0.heap.size w0 w) : Calls Tryd.prog 16 #[.int .i64 m] w fun e w' => e = .returned (.pointer (some ⟨w.heap.size, 0, none⟩)) ∧ WI A w0 w.heap.size (Wri.new m) w' :=
  (wnew_any A m w).mono fun _ _ ⟨h1, h2, h3⟩ => ⟨h1, [], h2, hb.trans (h3.mono hb.size), hb.size, by simp⟩
/-- What Bytes answers. -/
def BytesB (A : Nat → Addr) (W : Wri) (e : Ending) (w' : World) : Prop := ∃ v, e = .returned (.tuple #[.string (if W.err = none then strB W.out else ByteArray.empty), v]) ∧ (W.err = none ∧ v = .nilIface ∨ ∃ j, W.err = some j ∧ WrapsT w' v (A j))
theorem WI.bytes (h : WI A w0 wb W w) : Calls Tryd.prog 18 #[.pointer (some ⟨wb, 0, none⟩)] w fun e w' => BytesB A W e w' ∧ WI A w0 wb W w' := by
  have h0 := h
  obtain ⟨gp, h1, h2, h3, h4⟩ := h
  cases he : W.err with
  | none =>
    refine (bytes_ok h1 he).mono ?_
    rintro e w' ⟨rfl, rfl⟩
    exact ⟨⟨.nilIface, by rw [he]; rfl, .inl ⟨he, rfl⟩⟩, h0⟩
  | some j =>
    refine (bytes_bad h1 he).mono ?_
    rintro e w' ⟨v, b, rfl, _, hw, hb⟩
    exact ⟨⟨v, by rw [he]; rfl, .inr ⟨j, he, hw⟩⟩, h0.below hb⟩

/-- Block rb is a reader of the law's own. -/
def RI (w0 : World) (rb : Nat) (R : Rdr) (w : World) : Prop := RdAt w rb R ∧ Below w0.heap.size w0 w ∧ w0.heap.size ≤ rb
variable {rb : Nat} {R R' : Rdr}
theorem RI.below (h : RI w0 rb R w) (hb : Below w.heap.size w w') : RI w0 rb R w' := ⟨h.1.below hb, h.2.1.trans (hb.mono h.2.1.size), h.2.2⟩
theorem RI.left (h : RI w0 rb R w) (hl : RLeft w rb R' w') : RI w0 rb R' w' := ⟨hl.1, below_kept h.2.1 hl.2 (by simp; exact h.2.2) (Nat.le_refl _), h.2.2⟩
theorem ri_new (S : ByteArray) (hs : S.size ≤ maxLen) (hb : Below w0.heap.size w0 w) : Calls Tryd.prog 21 #[.string S] w fun e w' => e = .returned (.pointer (some ⟨w.heap.size, 0, none⟩)) ∧ RI w0 w.heap.size { rest := S.data.toList, bad := false } w' :=
  (rnew_any S hs w).mono fun _ _ ⟨h1, h2, h3⟩ => ⟨h1, h2, hb.trans (h3.mono hb.size), hb.size⟩
end

/-- The writer of awake. -/
def aw0 : Wri := Wri.new 20
def aw1 : Wri := aw0.put (groupsL (zig (-1)))
def aw2 : Wri := aw1.count 300
def aw3 : Wri := aw2.put (textL ⟨#[97, 98]⟩)
def aw4 : Wri := aw3.put (flagsL [true, false, true])
theorem g300 : groupsL 300 = [172, 2] := by rw [groupsL_big (by decide), groupsL_small (by decide)]; rfl
theorem aw1_eq : aw1 = { out := [1], most := 20, err := none } := by
  unfold aw1
  rw [groupsL_small (by decide)]
  rfl
theorem aw2_eq : aw2 = { out := [1, 172, 2], most := 20, err := none } := by
  unfold aw2
  rw [aw1_eq]
  unfold Wri.count
  rw [if_neg (by decide), show (300 : Int).toNat = 300 from rfl, g300]
  rfl
theorem aw3_eq : aw3 = { out := [1, 172, 2, 2, 97, 98], most := 20, err := none } := by
  unfold aw3
  rw [aw2_eq]
  unfold textL
  rw [groupsL_small (by decide)]
  rfl
theorem aw4_eq : aw4 = { out := [1, 172, 2, 2, 97, 98, 5], most := 20, err := none } := by
  unfold aw4
  rw [aw3_eq]
  rfl
theorem aw_read : (Rdr.mk [128, 0] false).count = (Rdr.mk [128, 0] true, 0) := by rfl


/-- What holds while awake looks at its reader. -/
def AwS (w0 : World) (rb : Nat) (w : World) : Prop := RI w0 rb { rest := [128, 0], bad := true } w
abbrev AwC (w0 : World) (rb : Nat) (A : Nat → Addr) (w : World) : Prop := w.cell? ⟨0, 0, none⟩ = some (.iface 139 (.pointer (some (A 0)))) ∧ AwS w0 rb w
theorem isB {w : World} {v : Value} {a : Addr} (h : WrapsT w v a) : Calls Tryd.prog 27 #[v, .iface 139 (.pointer (some a))] w fun e w' => e = .returned (.bool true) ∧ Below w.heap.size w w' :=
  h.is.mono fun _ _ ⟨he, hw⟩ => ⟨he, by rw [← hw]; exact Below.refl _ _⟩
theorem WrapsT.dr {w : World} {v : Value} {a : Addr} (h : WrapsT w v a) : WrapsT w.drew v a := h
section
variable {w0 w : World} {rb : Nat} {A : Nat → Addr}
theorem aw_bel {w' : World} (h : AwC w0 rb A w) (hb : Below w.heap.size w w') : AwC w0 rb A w' := ⟨(hb.cell (World.block_lt_of_cell? w _ h.1)).trans h.1, RI.below h.2 hb⟩
theorem aw_drew (h : AwC w0 rb A w) : AwC w0 rb A w.drew := aw_bel h ⟨rfl, rfl, rfl, Nat.le_refl _, fun _ _ => rfl⟩
theorem aw_out (h : AwC w0 rb A w) : Below w0.heap.size w0 w := h.2.2.1
theorem aw_left (h : AwC w0 rb A w) : Calls Tryd.prog 25 #[.pointer (some ⟨rb, 0, none⟩)] w fun e w' => e = .returned (.int .i64 2) ∧ w = w' := left_any h.2.1
theorem aw_end (hG : Glob w0 A) (h : AwC w0 rb A w) : Calls Tryd.prog 26 #[.pointer (some ⟨rb, 0, none⟩)] w fun e w' => ∃ b, e = .returned (.iface 108 (.pointer (some ⟨b, 0, none⟩))) ∧ WrapsT w' (.iface 108 (.pointer (some ⟨b, 0, none⟩))) (A 0) ∧ Below w.heap.size w w' := by
  refine (end_any h.2.1 (hG.below (aw_out h))).mono ?_
  rintro e w' ⟨v, rfl, hb, hv⟩
  rcases hv with ⟨hn, _⟩ | ⟨j, hj, hw⟩
  · cases hn
  · cases hj
    have hw0 := hw
    obtain ⟨b, C, rfl, _⟩ := hw
    exact ⟨b, rfl, hw0, hb⟩
end

set_option maxRecDepth 100000 in
set_option maxHeartbeats 3200000 in
theorem awake_any (w : World) (A : Nat → Addr) (hG : Glob w A) : Calls Tryd.prog 14 #[] w fun e w' => e = .returned (.bool true) ∧ Below w.heap.size w w' := by
  have GG := Lib.hid hG
  clear hG
  go_enter Tryd.func14, Tryd.ntmps14
  go_wp2_with fail
  refine (wi_new A 20 (Below.refl w.heap.size w)).mono ?_
  rintro e w1 ⟨rfl, h1⟩
  have H1 := Lib.hid h1
  clear h1
  go_wp2_with fail
  refine (H1.out.next (W' := aw1) fun gp h => num_any h (by unfold Wri.ok; decide) (GG.out.below H1.out.bel) (-1) (by decide) (by decide)).mono ?_
  rintro e w2 ⟨rfl, h2⟩
  rw [aw1_eq] at h2
  have H2 := Lib.hid h2
  clear h2
  go_wp2_with fail
  refine (H2.out.next (W' := aw2) fun gp h => by rw [aw2, aw1_eq]; exact count_any h (by unfold Wri.ok; decide) (GG.out.below H2.out.bel) 300 (by decide)).mono ?_
  rintro e w3 ⟨rfl, h3⟩
  rw [aw2_eq] at h3
  have H3 := Lib.hid h3
  clear h3
  go_wp2_with fail
  refine (H3.out.next (W' := aw3) fun gp h => by rw [aw3, aw2_eq]; exact text_any h (by unfold Wri.ok; decide) (GG.out.below H3.out.bel) _ (by decide)).mono ?_
  rintro e w4 ⟨rfl, h4⟩
  rw [aw3_eq] at h4
  have H4 := Lib.hid h4
  clear h4
  go_wp2_with fail
  have h4a : WI A w w.heap.size aw3 (w4.alloc (.cells #[.bool true, .bool false, .bool true] 4)) := by rw [aw3_eq]; exact H4.out.below ((Below.refl _ _).alloc (Nat.le_refl _) _)
  have C4 : Cells (w4.alloc (.cells #[.bool true, .bool false, .bool true] 4)) (some ⟨w4.heap.size, 0, none⟩) ([true, false, true].map Value.bool) := cells_block (heap_alloc_new w4 _)
  have R5 := Lib.hid (h4a.next (W' := aw4) fun gp h => flags_any h (by rw [aw3_eq]; unfold Wri.ok; decide) (GG.out.below h4a.bel) _ 3 [true, false, true] C4 (by decide))
  clear h4a C4
  refine R5.out.mono ?_
  rintro e w5 ⟨rfl, h5⟩
  rw [aw4_eq] at h5
  have H5 := Lib.hid h5
  clear h5
  go_wp2_with fail
  refine H5.out.bytes.mono ?_
  rintro e w6 ⟨⟨v, rfl, hv⟩, h6⟩
  obtain rfl : v = .nilIface := by
    rcases hv with ⟨_, hv⟩ | ⟨j, hj, _⟩
    · exact hv
    · cases hj
  have H6 := Lib.hid h6
  have hS : (if (none : Option Nat) = none then strB [1, 172, 2, 2, 97, 98, 5] else ByteArray.empty) = ⟨#[1, 172, 2, 2, 97, 98, 5]⟩ := rfl
  clear hv h6
  dsimp only
  rw [hS]
  go_wp2_with fail
  refine (ri_new (w0 := w) _ (by decide) H6.out.bel).mono ?_
  rintro e w7 ⟨rfl, h7⟩
  have H7 := Lib.hid (show RI w w6.heap.size { rest := [128, 0], bad := false } w7 from h7)
  clear h7
  go_wp2_with fail
  refine (rcount_any H7.out.1).mono ?_
  rw [aw_read]
  rintro e w8 ⟨rfl, h8⟩
  have H8 := Lib.hid (H7.out.left h8)
  clear h8
  go_wp2_with fail
  have S0 : AwC w w6.heap.size A w8 := ⟨GG.out.below H8.out.2.1 0 (by decide), H8.out⟩
  go_region_held3 (fun w' => w'.cell? ⟨0, 0, none⟩ = some (.iface 139 (.pointer (some (A 0)))) ∧ AwS w w6.heap.size w')
    ((first | assumption | (exact aw_drew (by assumption)) | (refine aw_bel ?_ hbel; assumption)))
    (first
      | (go_at_call 25; (with_reducible refine (aw_left (w0 := w) (A := A) ?_).mono ?_); assumption; rintro e w' ⟨rfl, rfl⟩)
      | (go_at_call 26; (with_reducible refine (aw_end (w0 := w) (A := A) GG.out ?_).mono ?_); assumption; rintro e w' ⟨b1, rfl, hw1, hbel⟩)
      | (go_at_call 27; (with_reducible refine (isB ?_).mono ?_); (with_reducible first | assumption | exact WrapsT.dr (by assumption)); rintro e w' ⟨rfl, hbel⟩))
  all_goals
    go_wp2
    go_ret
    exact ⟨rfl, aw_out (by assumption)⟩

end Go.Proofs.YtgdbpicelnoacaaDoor
