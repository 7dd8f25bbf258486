/- This text proves ParcelBack over the loaded program: what was written is read as it was. -/
import Derived.Test.YtgdbpicelnoacaaDoorAwake24
import Derived.Test.YtgdbpicelnoacaaDoorOpenPar
namespace Go.Proofs.YtgdbpicelnoacaaDoor
open Go.RowKit Go.WideShapes
set_option linter.unusedSimpArgs false

theorem encP_eq_iff {a b : Par} (ha : a.good = true) (hb : b.good = true) (sa : 0 ≤ a.sum ∧ a.sum < 18446744073709551616) (sb : 0 ≤ b.sum ∧ b.sum < 18446744073709551616) : ((strB (encP a)).toList == (strB (encP b)).toList) = a.same b := by
  rw [bytes_eq, Bool.eq_iff_iff, decide_eq_true_eq, same_iff]
  constructor
  · intro h
    have h' : encP a = encP b := by rw [← strB_list (encP a), h, strB_list]
    have e1 := decQ_enc ha sa
    have e2 := decQ_enc hb sb
    rw [h'] at e1
    rw [e1.2] at e2
    rw [e1.1] at e2
    exact ⟨e2.2, (Prod.ext_iff.1 e2.1).2⟩
  · rintro ⟨h1, h2⟩
    rw [encP_flds a, encP_flds b, h1, h2]

/-- Two packets' blocks. -/
def TwoP (W : World) (a b : Par) (w : World) : Prop := Below W.heap.size W w ∧ w.heap[W.heap.size]? = some (.cells a.cs 61 (0, 0)) ∧ w.heap[W.heap.size + 1]? = some (.cells b.cs 61 (0, 0))
theorem TwoP.start (W : World) (a b : Par) : TwoP W a b ((W.alloc (.cells a.cs 61)).alloc (.cells b.cs 61)) := by
  refine ⟨below_two W _ _, (alloc_old _ _ _ (by rw [size_alloc1]; omega)).trans (heap_alloc_new W _), ?_⟩
  have := heap_alloc_new (W.alloc (.cells a.cs 61)) (.cells b.cs 61)
  rw [size_alloc1] at this
  exact this
theorem TwoP.step {W : World} {a b : Par} {w w' : World} (h : TwoP W a b w) (hb : Below w.heap.size w w') : TwoP W a b w' :=
  ⟨h.1.trans (hb.mono h.1.size), (hb.block _ (Array.getElem?_eq_some_iff.1 h.2.1).1).trans h.2.1, (hb.block _ (Array.getElem?_eq_some_iff.1 h.2.2).1).trans h.2.2⟩

theorem TwoP.cells {W w : World} {kind nonce frm base : Int} {ins : List Int} {ack sum : Int} {X : Option Addr} {c : Nat} {kind' nonce' frm' base' : Int} {ins' : List Int} {ack' sum' : Int} {X' : Option Addr} {c' : Nat} (h : TwoP W ⟨kind, nonce, frm, base, ins, ack, sum, X, c⟩ ⟨kind', nonce', frm', base', ins', ack', sum', X', c'⟩ w) : w.cell? ⟨W.heap.size, 0, none⟩ = some (.int .i64 kind) ∧ w.cell? ⟨W.heap.size, 1, none⟩ = some (.int .i64 nonce) ∧ w.cell? ⟨W.heap.size, 2, none⟩ = some (.int .i64 frm) ∧ w.cell? ⟨W.heap.size, 3, none⟩ = some (.int .i64 base) ∧ w.cell? ⟨W.heap.size, 4, none⟩ = some (.slice X ins.length c) ∧ w.cell? ⟨W.heap.size, 5, none⟩ = some (.int .i64 ack) ∧ w.cell? ⟨W.heap.size, 6, none⟩ = some (.int .u64 sum) ∧ w.cell? ⟨W.heap.size + 1, 0, none⟩ = some (.int .i64 kind') ∧ w.cell? ⟨W.heap.size + 1, 1, none⟩ = some (.int .i64 nonce') ∧ w.cell? ⟨W.heap.size + 1, 2, none⟩ = some (.int .i64 frm') ∧ w.cell? ⟨W.heap.size + 1, 3, none⟩ = some (.int .i64 base') ∧ w.cell? ⟨W.heap.size + 1, 4, none⟩ = some (.slice X' ins'.length c') ∧ w.cell? ⟨W.heap.size + 1, 5, none⟩ = some (.int .i64 ack') ∧ w.cell? ⟨W.heap.size + 1, 6, none⟩ = some (.int .u64 sum') := by
  have h1 : w.heap[W.heap.size]? = some (.cells #[.int .i64 kind, .int .i64 nonce, .int .i64 frm, .int .i64 base, .slice X ins.length c, .int .i64 ack, .int .u64 sum] 61 (0, 0)) := h.2.1
  have h2 : w.heap[W.heap.size + 1]? = some (.cells #[.int .i64 kind', .int .i64 nonce', .int .i64 frm', .int .i64 base', .slice X' ins'.length c', .int .i64 ack', .int .u64 sum'] 61 (0, 0)) := h.2.2
  refine ⟨?_, ?_, ?_, ?_, ?_, ?_, ?_, ?_, ?_, ?_, ?_, ?_, ?_, ?_⟩
  all_goals first | (simp only [World.cell?, h1]; rfl) | (simp only [World.cell?, h2]; rfl)
theorem TwoP.drew {W w : World} {a b : Par} (h : TwoP W a b w) : TwoP W a b w.drew := h.step ⟨rfl, rfl, rfl, Nat.le_refl _, fun _ _ => rfl⟩

set_option maxRecDepth 100000 in
set_option maxHeartbeats 12800000 in
theorem pback_any (W : World) (A : Nat → Addr) (hA : Apart 5 W A) (a : Par) (ha : a.came W) (b : Par) (hb : b.came W) : Calls Tryd.prog 9 #[a.v, b.v] W fun e W' => e = .returned (.bool true) ∧ Below W.heap.size W W' := by
  have T0 := Lib.hid (TwoP.start W a b)
  have AA := Lib.hid (fun w' (h : TwoP W a b w') => hA.below h.1)
  have AW := Lib.hid (awake24_any A _ (AA.out _ T0.out))
  have HA := Lib.hid ha
  have HB := Lib.hid hb
  have GA := Lib.hid (fun w' (h : TwoP W a b w') (hl : a.ins.length ≤ 1000000) => good_any a w' ((ha.ok hl).below h.1))
  have SA := Lib.hid (fun w' (h : TwoP W a b w') (hl : a.ins.length ≤ 1000000) => psame_any a b w' (ha.2.2.2.2.2.2.2.2.below h.1) (hb.2.2.2.2.2.2.2.2.below h.1) hl)
  have EA := Lib.hid (fun w' (h : TwoP W a b w') (hl : a.ins.length ≤ 1000000) => enc_good A a w' ((ha.ok hl).below h.1) ((AA.out _ h).glob (by decide)))
  have FA := Lib.hid (fun w' (h : TwoP W a b w') (hl : a.ins.length ≤ 1000000) => enc_bad A a w' ((ha.ok hl).below h.1) ((AA.out _ h).glob (by decide)))
  have EB := Lib.hid (fun w' (h : TwoP W a b w') (hl : b.ins.length ≤ 1000000) => enc_good A b w' ((hb.ok hl).below h.1) ((AA.out _ h).glob (by decide)))
  have FB := Lib.hid (fun w' (h : TwoP W a b w') (hl : b.ins.length ≤ 1000000) => enc_bad A b w' ((hb.ok hl).below h.1) ((AA.out _ h).glob (by decide)))
  have DA := Lib.hid (fun w' (h : TwoP W a b w') (hg : a.good = true) => dec_back A a w' (AA.out _ h) hg ha.2.2.2.2.2.1)
  have SQ := Lib.hid (fun (h : a.good = true) (h' : b.good = true) => encP_eq_iff h h' ha.2.2.2.2.2.1 hb.2.2.2.2.2.1)
  have SB := Lib.hid (fun w' (h : TwoP W a b w') (X : Option Addr) (c : Nat) (hc : Cells w' X (iv a.ins)) (hl : a.ins.length ≤ 1000000) => (psame_any (a.flds.par a.kind X c) a w' hc (ha.2.2.2.2.2.2.2.2.below h.1) hl).mono fun e w'' he => by
    rw [show (a.flds.par a.kind X c).same a = true from same_iff.2 ⟨rfl, rfl⟩] at he; exact he)
  obtain ⟨ga, hga⟩ : ∃ ga, a.good = ga := ⟨_, rfl⟩
  obtain ⟨gb, hgb⟩ : ∃ gb, b.good = gb := ⟨_, rfl⟩
  rw [hga] at EA FA GA DA SQ
  rw [hgb] at EB FB SQ
  obtain ⟨sm, hsm⟩ : ∃ sm, a.same b = sm := ⟨_, rfl⟩
  rw [hsm] at SA SQ
  obtain ⟨La, hLa⟩ : ∃ La, encP a = La := ⟨_, rfl⟩
  obtain ⟨Lb, hLb⟩ : ∃ Lb, encP b = Lb := ⟨_, rfl⟩
  rw [hLa] at EA DA SQ
  rw [hLb] at EB SQ
  have LN : Hid (ga = true → (strB La).size ≠ 0) := Lib.hid (fun _ => by rw [strB_size, ← hLa, encP_len]; omega)
  clear hA ha hb hga hgb hsm hLa hLb HA HB
  obtain ⟨kind, nonce, frm, base, ins, ack, sum, X, c⟩ := a
  obtain ⟨kind', nonce', frm', base', ins', ack', sum', X', c'⟩ := b
  unfold Par.v Flds.par Par.flds at *
  dsimp only at *
  unfold Par.cs at AW
  dsimp only at AW
  by_cases l1 : 100 < ins.length
  · have q1 : (100 : Int) < (ins.length : Int) := by omega
    clear l1
    go_enter Tryd.func9, Tryd.ntmps9
    go_wp2_with fail
    refine AW.out.mono ?_
    rintro e w1 ⟨rfl, hb1⟩
    have T1 := Lib.hid (T0.out.step hb1)
    clear hb1
    have x1 := T1.out.2.1
    have p4 : w1.cell? ⟨W.heap.size, 4, none⟩ = some (.slice X ins.length c) := by simp only [World.cell?, x1]; rfl
    clear x1
    go_wp2_with fail
    go_ret
    exact ⟨rfl, T1.out.1⟩
  have q1 : (ins.length : Int) ≤ 100 := by omega
  have Q1 : Hid (ins.length ≤ 1000000) := Lib.hid (by omega)
  clear l1
  by_cases l2 : 100 < ins'.length
  · have q2 : (100 : Int) < (ins'.length : Int) := by omega
    clear l2
    go_enter Tryd.func9, Tryd.ntmps9
    go_wp2_with fail
    refine AW.out.mono ?_
    rintro e w1 ⟨rfl, hb1⟩
    have T1 := Lib.hid (T0.out.step hb1)
    clear hb1
    have x1 := T1.out.2.1
    have y1 := T1.out.2.2
    have p4 : w1.cell? ⟨W.heap.size, 4, none⟩ = some (.slice X ins.length c) := by simp only [World.cell?, x1]; rfl
    have r4 : w1.cell? ⟨W.heap.size + 1, 4, none⟩ = some (.slice X' ins'.length c') := by simp only [World.cell?, y1]; rfl
    clear x1 y1
    go_wp2_with fail
    go_ret
    exact ⟨rfl, T1.out.1⟩
  have q2 : (ins'.length : Int) ≤ 100 := by omega
  have Q2 : Hid (ins'.length ≤ 1000000) := Lib.hid (by omega)
  clear l2
  go_enter Tryd.func9, Tryd.ntmps9
  go_wp2_with fail
  refine AW.out.mono ?_
  rintro e w1 ⟨rfl, hb1⟩
  have T1 := Lib.hid (T0.out.step hb1)
  clear hb1
  have x1 := T1.out.2.1
  have y1 := T1.out.2.2
  have p0 : (w1).cell? ⟨W.heap.size, 0, none⟩ = some (.int .i64 kind) := by simp only [World.cell?, x1]; rfl
  have p1 : (w1).cell? ⟨W.heap.size, 1, none⟩ = some (.int .i64 nonce) := by simp only [World.cell?, x1]; rfl
  have p2 : (w1).cell? ⟨W.heap.size, 2, none⟩ = some (.int .i64 frm) := by simp only [World.cell?, x1]; rfl
  have p3 : (w1).cell? ⟨W.heap.size, 3, none⟩ = some (.int .i64 base) := by simp only [World.cell?, x1]; rfl
  have p4 : (w1).cell? ⟨W.heap.size, 4, none⟩ = some (.slice X ins.length c) := by simp only [World.cell?, x1]; rfl
  have p5 : (w1).cell? ⟨W.heap.size, 5, none⟩ = some (.int .i64 ack) := by simp only [World.cell?, x1]; rfl
  have p6 : (w1).cell? ⟨W.heap.size, 6, none⟩ = some (.int .u64 sum) := by simp only [World.cell?, x1]; rfl
  have r4 : w1.cell? ⟨W.heap.size + 1, 4, none⟩ = some (.slice X' ins'.length c') := by simp only [World.cell?, y1]; rfl
  clear x1 y1
  go_wp2_with fail
  cases ga with
  | false =>
    clear p0 p1 p2 p3 p4 p5 p6 r4
    refine (FA.out _ T1.out Q1.out rfl).mono ?_
    rintro e w2 ⟨⟨va, rfl, hwa⟩, hb2⟩
    have T2 := Lib.hid (T1.out.step hb2)
    obtain ⟨ba, Ca, rfl, -, -⟩ := hwa
    clear hb2
    have y2 := T2.out.2.2
    have r0 : (w2).cell? ⟨W.heap.size + 1, 0, none⟩ = some (.int .i64 kind') := by simp only [World.cell?, y2]; rfl
    have r1 : (w2).cell? ⟨W.heap.size + 1, 1, none⟩ = some (.int .i64 nonce') := by simp only [World.cell?, y2]; rfl
    have r2 : (w2).cell? ⟨W.heap.size + 1, 2, none⟩ = some (.int .i64 frm') := by simp only [World.cell?, y2]; rfl
    have r3 : (w2).cell? ⟨W.heap.size + 1, 3, none⟩ = some (.int .i64 base') := by simp only [World.cell?, y2]; rfl
    have r4 : (w2).cell? ⟨W.heap.size + 1, 4, none⟩ = some (.slice X' ins'.length c') := by simp only [World.cell?, y2]; rfl
    have r5 : (w2).cell? ⟨W.heap.size + 1, 5, none⟩ = some (.int .i64 ack') := by simp only [World.cell?, y2]; rfl
    have r6 : (w2).cell? ⟨W.heap.size + 1, 6, none⟩ = some (.int .u64 sum') := by simp only [World.cell?, y2]; rfl
    clear y2
    go_wp2_with fail
    clear r0 r1 r2 r3 r4 r5 r6
    have NX : Hid (Calls Tryd.prog 39 #[.agg #[.int .i64 kind', .int .i64 nonce', .int .i64 frm', .int .i64 base', .slice X' ins'.length c', .int .i64 ack', .int .u64 sum']] w2 fun e w' => (∃ s u, e = .returned (.tuple #[.string s, u]) ∧ (u = .nilIface ∨ ∃ b, u = .iface 108 (.pointer (some ⟨b, 0, none⟩)))) ∧ Below w2.heap.size w2 w') := Lib.hid (by
      cases gb with
      | false => exact (FB.out _ T2.out Q2.out rfl).mono fun e w' ⟨⟨v, he, b, C, hv, _⟩, hb⟩ => ⟨⟨_, _, he, .inr ⟨b, hv⟩⟩, hb⟩
      | true => exact (EB.out _ T2.out Q2.out rfl).mono fun e w' ⟨he, hb⟩ => ⟨⟨_, _, he, .inl rfl⟩, hb⟩)
    refine NX.out.mono ?_
    rintro e w3 ⟨⟨s, u, rfl, hu⟩, hb3⟩
    have T3 := Lib.hid (T2.out.step hb3)
    clear hb3
    have T3d := Lib.hid T3.out.drew
    have GD := Lib.hid (GA.out _ T3d.out Q1.out)
    have S3 := T3d.out.cells
    have S3' := S3
    obtain ⟨p0, p1, p2, p3, p4, p5, p6, r0, r1, r2, r3, r4, r5, r6⟩ := S3'
    rcases hu with rfl | ⟨bu, rfl⟩
    all_goals
      go_wp2_with fail
      refine wp_region_held_drew (S := (fun w' => w'.cell? ⟨W.heap.size, 0, none⟩ = some (.int .i64 kind) ∧ w'.cell? ⟨W.heap.size, 1, none⟩ = some (.int .i64 nonce) ∧ w'.cell? ⟨W.heap.size, 2, none⟩ = some (.int .i64 frm) ∧ w'.cell? ⟨W.heap.size, 3, none⟩ = some (.int .i64 base) ∧ w'.cell? ⟨W.heap.size, 4, none⟩ = some (.slice X ins.length c) ∧ w'.cell? ⟨W.heap.size, 5, none⟩ = some (.int .i64 ack) ∧ w'.cell? ⟨W.heap.size, 6, none⟩ = some (.int .u64 sum) ∧ w'.cell? ⟨W.heap.size + 1, 0, none⟩ = some (.int .i64 kind') ∧ w'.cell? ⟨W.heap.size + 1, 1, none⟩ = some (.int .i64 nonce') ∧ w'.cell? ⟨W.heap.size + 1, 2, none⟩ = some (.int .i64 frm') ∧ w'.cell? ⟨W.heap.size + 1, 3, none⟩ = some (.int .i64 base') ∧ w'.cell? ⟨W.heap.size + 1, 4, none⟩ = some (.slice X' ins'.length c') ∧ w'.cell? ⟨W.heap.size + 1, 5, none⟩ = some (.int .i64 ack') ∧ w'.cell? ⟨W.heap.size + 1, 6, none⟩ = some (.int .u64 sum'))) (by kernel_rfl) ?_ (fun hHeld => ?_)
      · (try dsimp only); (first | exact S3 | exact S4 | exact S5)
      refine wpAnyH_take (i := 0) (v := ?_) rfl (by kernel_rfl) (by kernel_rfl) (by kernel_rfl) (fun _ _ _ h => h) (Or.inl ⟨by rfl, ?_⟩) (by assumption) ?_
      rotate_left; · (intro w hSw; (try dsimp only at hSw); go_simp; try with_reducible rfl)
      (try simp only [Act.put, List.setIfInBounds_toArray, List.set_cons_zero, List.set_cons_succ, List.getElem_toArray, List.getElem_cons_zero, List.getElem_cons_succ])
      refine wpAnyH_take (i := 1) (v := ?_) rfl (by kernel_rfl) (by kernel_rfl) (by kernel_rfl) (fun _ _ _ h => h) (Or.inl ⟨by rfl, ?_⟩) (by assumption) ?_
      rotate_left; · (intro w hSw; (try dsimp only at hSw); go_simp; try with_reducible rfl)
      (try simp only [Act.put, List.setIfInBounds_toArray, List.set_cons_zero, List.set_cons_succ, List.getElem_toArray, List.getElem_cons_zero, List.getElem_cons_succ])
      refine wpAnyH_take (i := 2) (v := ?_) rfl (by kernel_rfl) (by kernel_rfl) (by kernel_rfl) (fun _ _ _ h => h) (Or.inl ⟨by rfl, ?_⟩) (by assumption) ?_
      rotate_left; · (intro w hSw; (try dsimp only at hSw); go_simp; try with_reducible rfl)
      (try simp only [Act.put, List.setIfInBounds_toArray, List.set_cons_zero, List.set_cons_succ, List.getElem_toArray, List.getElem_cons_zero, List.getElem_cons_succ])
      refine wpAnyH_ready (rs := [3]) (by kernel_rfl) (by simp) ?_
      refine AllReadyH.cons rfl (fun K hK => ?_) AllReadyH.nil
      (try simp only [List.getElem_toArray, List.getElem_cons_zero, List.getElem_cons_succ])
      go_simp
      (refine GD.out.mono ?_; rintro e w4 ⟨rfl, hb4⟩; have T4 := T3d.out.step hb4; have S4 := T4.cells)
      refine hK.out _ _ ?_ (fun hHeld2 => ?_)
      · (try dsimp only); (first | exact S3 | exact S4 | exact S5)
      clear hK K hHeld
      have hHeld := hHeld2
      clear hHeld2
      (try simp only [Act.put, List.setIfInBounds_toArray, List.set_cons_zero, List.set_cons_succ, List.getElem_toArray, List.getElem_cons_zero, List.getElem_cons_succ])
      refine wpAnyH_take (i := 4) (v := ?_) rfl (by kernel_rfl) (by kernel_rfl) (by kernel_rfl) (fun _ _ _ h => h) (Or.inl ⟨by rfl, ?_⟩) (by assumption) ?_
      rotate_left; · (intro w hSw; (try dsimp only at hSw); go_simp; try with_reducible rfl)
      (try simp only [Act.put, List.setIfInBounds_toArray, List.set_cons_zero, List.set_cons_succ, List.getElem_toArray, List.getElem_cons_zero, List.getElem_cons_succ])
      refine wpAnyH_take (i := 5) (v := ?_) rfl (by kernel_rfl) (by kernel_rfl) (by kernel_rfl) (fun _ _ _ h => h) (Or.inl ⟨by rfl, ?_⟩) (by assumption) ?_
      rotate_left; · (intro w hSw; (try dsimp only at hSw); go_simp; try with_reducible rfl)
      (try simp only [Act.put, List.setIfInBounds_toArray, List.set_cons_zero, List.set_cons_succ, List.getElem_toArray, List.getElem_cons_zero, List.getElem_cons_succ])
      refine wpAnyH_take (i := 6) (v := ?_) rfl (by kernel_rfl) (by kernel_rfl) (by kernel_rfl) (fun _ _ _ h => h) (Or.inl ⟨by rfl, ?_⟩) (by assumption) ?_
      rotate_left; · (intro w hSw; (try dsimp only at hSw); go_simp; try with_reducible rfl)
      (try simp only [Act.put, List.setIfInBounds_toArray, List.set_cons_zero, List.set_cons_succ, List.getElem_toArray, List.getElem_cons_zero, List.getElem_cons_succ])
      refine wpAnyH_take (i := 7) (v := ?_) rfl (by kernel_rfl) (by kernel_rfl) (by kernel_rfl) (fun _ _ _ h => h) (Or.inl ⟨by rfl, ?_⟩) (by assumption) ?_
      rotate_left; · (intro w hSw; (try dsimp only at hSw); go_simp; try with_reducible rfl)
      (try simp only [Act.put, List.setIfInBounds_toArray, List.set_cons_zero, List.set_cons_succ, List.getElem_toArray, List.getElem_cons_zero, List.getElem_cons_succ])
      refine wpAnyH_take (i := 8) (v := ?_) rfl (by kernel_rfl) (by kernel_rfl) (by kernel_rfl) (fun _ _ _ h => h) (Or.inl ⟨by rfl, ?_⟩) (by assumption) ?_
      rotate_left; · (intro w hSw; (try dsimp only at hSw); go_simp; try with_reducible rfl)
      (try simp only [Act.put, List.setIfInBounds_toArray, List.set_cons_zero, List.set_cons_succ, List.getElem_toArray, List.getElem_cons_zero, List.getElem_cons_succ])
      refine wpAnyH_take (i := 9) (v := undef) rfl (by kernel_rfl) (by kernel_rfl) (by kernel_rfl) (fun _ _ _ h => h) (Or.inr ⟨by rfl, rfl⟩) (by assumption) ?_
      (try simp only [Act.put, List.setIfInBounds_toArray, List.set_cons_zero, List.set_cons_succ, List.getElem_toArray, List.getElem_cons_zero, List.getElem_cons_succ])
      refine wpAnyH_take (i := 10) (v := undef) rfl (by kernel_rfl) (by kernel_rfl) (by kernel_rfl) (fun _ _ _ h => h) (Or.inr ⟨by rfl, rfl⟩) (by assumption) ?_
      (try simp only [Act.put, List.setIfInBounds_toArray, List.set_cons_zero, List.set_cons_succ, List.getElem_toArray, List.getElem_cons_zero, List.getElem_cons_succ])
      refine wpAnyH_take (i := 11) (v := ?_) rfl (by kernel_rfl) (by kernel_rfl) (by kernel_rfl) (fun _ _ _ h => h) (Or.inl ⟨by rfl, ?_⟩) (by assumption) ?_
      rotate_left; · (intro w hSw; (try dsimp only at hSw); go_simp; try with_reducible rfl)
      (try simp only [Act.put, List.setIfInBounds_toArray, List.set_cons_zero, List.set_cons_succ, List.getElem_toArray, List.getElem_cons_zero, List.getElem_cons_succ])
      refine wpAnyH_take (i := 12) (v := ?_) rfl (by kernel_rfl) (by kernel_rfl) (by kernel_rfl) (fun _ _ _ h => h) (Or.inl ⟨by rfl, ?_⟩) (by assumption) ?_
      rotate_left; · (intro w hSw; (try dsimp only at hSw); go_simp; try with_reducible rfl)
      (try simp only [Act.put, List.setIfInBounds_toArray, List.set_cons_zero, List.set_cons_succ, List.getElem_toArray, List.getElem_cons_zero, List.getElem_cons_succ])
      refine wpAnyH_take (i := 13) (v := undef) rfl (by kernel_rfl) (by kernel_rfl) (by kernel_rfl) (fun _ _ _ h => h) (Or.inr ⟨by rfl, rfl⟩) (by assumption) ?_
      (try simp only [Act.put, List.setIfInBounds_toArray, List.set_cons_zero, List.set_cons_succ, List.getElem_toArray, List.getElem_cons_zero, List.getElem_cons_succ])
      refine wpAnyH_take (i := 14) (v := undef) rfl (by kernel_rfl) (by kernel_rfl) (by kernel_rfl) (fun _ _ _ h => h) (Or.inr ⟨by rfl, rfl⟩) (by assumption) ?_
      (try simp only [Act.put, List.setIfInBounds_toArray, List.set_cons_zero, List.set_cons_succ, List.getElem_toArray, List.getElem_cons_zero, List.getElem_cons_succ])
      refine wpAnyH_take (i := 15) (v := undef) rfl (by kernel_rfl) (by kernel_rfl) (by kernel_rfl) (fun _ _ _ h => h) (Or.inr ⟨by rfl, rfl⟩) (by assumption) ?_
      (try simp only [Act.put, List.setIfInBounds_toArray, List.set_cons_zero, List.set_cons_succ, List.getElem_toArray, List.getElem_cons_zero, List.getElem_cons_succ])
      refine wpAnyH_take (i := 16) (v := undef) rfl (by kernel_rfl) (by kernel_rfl) (by kernel_rfl) (fun _ _ _ h => h) (Or.inr ⟨by rfl, rfl⟩) (by assumption) ?_
      (try simp only [Act.put, List.setIfInBounds_toArray, List.set_cons_zero, List.set_cons_succ, List.getElem_toArray, List.getElem_cons_zero, List.getElem_cons_succ])
      refine wpAnyH_take (i := 17) (v := undef) rfl (by kernel_rfl) (by kernel_rfl) (by kernel_rfl) (fun _ _ _ h => h) (Or.inr ⟨by rfl, rfl⟩) (by assumption) ?_
      (try simp only [Act.put, List.setIfInBounds_toArray, List.set_cons_zero, List.set_cons_succ, List.getElem_toArray, List.getElem_cons_zero, List.getElem_cons_succ])
      refine wpAnyH_take (i := 18) (v := undef) rfl (by kernel_rfl) (by kernel_rfl) (by kernel_rfl) (fun _ _ _ h => h) (Or.inr ⟨by rfl, rfl⟩) (by assumption) ?_
      (try simp only [Act.put, List.setIfInBounds_toArray, List.set_cons_zero, List.set_cons_succ, List.getElem_toArray, List.getElem_cons_zero, List.getElem_cons_succ])
      refine wpAnyH_take (i := 19) (v := undef) rfl (by kernel_rfl) (by kernel_rfl) (by kernel_rfl) (fun _ _ _ h => h) (Or.inr ⟨by rfl, rfl⟩) (by assumption) ?_
      (try simp only [Act.put, List.setIfInBounds_toArray, List.set_cons_zero, List.set_cons_succ, List.getElem_toArray, List.getElem_cons_zero, List.getElem_cons_succ])
      refine wpAnyH_take (i := 20) (v := ?_) rfl (by kernel_rfl) (by kernel_rfl) (by kernel_rfl) (fun _ _ _ h => h) (Or.inl ⟨by rfl, ?_⟩) (by assumption) ?_
      rotate_left; · (intro w hSw; (try dsimp only at hSw); go_simp; try with_reducible rfl)
      (try simp only [Act.put, List.setIfInBounds_toArray, List.set_cons_zero, List.set_cons_succ, List.getElem_toArray, List.getElem_cons_zero, List.getElem_cons_succ])
      refine wpAnyH_take (i := 21) (v := ?_) rfl (by kernel_rfl) (by kernel_rfl) (by kernel_rfl) (fun _ _ _ h => h) (Or.inl ⟨by rfl, ?_⟩) (by assumption) ?_
      rotate_left; · (intro w hSw; (try dsimp only at hSw); go_simp; try with_reducible rfl)
      (try simp only [Act.put, List.setIfInBounds_toArray, List.set_cons_zero, List.set_cons_succ, List.getElem_toArray, List.getElem_cons_zero, List.getElem_cons_succ])
      refine wpAnyH_done (by kernel_rfl) ?_ _
      go_wp2_with fail
      go_ret
      exact ⟨rfl, T4.1⟩
  | true =>
    clear p0 p1 p2 p3 p4 p5 p6 r4
    refine (EA.out _ T1.out Q1.out rfl).mono ?_
    rintro e w2 ⟨rfl, hb2⟩
    have T2 := Lib.hid (T1.out.step hb2)
    clear hb2
    have y2 := T2.out.2.2
    have r0 : (w2).cell? ⟨W.heap.size + 1, 0, none⟩ = some (.int .i64 kind') := by simp only [World.cell?, y2]; rfl
    have r1 : (w2).cell? ⟨W.heap.size + 1, 1, none⟩ = some (.int .i64 nonce') := by simp only [World.cell?, y2]; rfl
    have r2 : (w2).cell? ⟨W.heap.size + 1, 2, none⟩ = some (.int .i64 frm') := by simp only [World.cell?, y2]; rfl
    have r3 : (w2).cell? ⟨W.heap.size + 1, 3, none⟩ = some (.int .i64 base') := by simp only [World.cell?, y2]; rfl
    have r4 : (w2).cell? ⟨W.heap.size + 1, 4, none⟩ = some (.slice X' ins'.length c') := by simp only [World.cell?, y2]; rfl
    have r5 : (w2).cell? ⟨W.heap.size + 1, 5, none⟩ = some (.int .i64 ack') := by simp only [World.cell?, y2]; rfl
    have r6 : (w2).cell? ⟨W.heap.size + 1, 6, none⟩ = some (.int .u64 sum') := by simp only [World.cell?, y2]; rfl
    clear y2
    go_wp2_with fail
    clear r0 r1 r2 r3 r4 r5 r6
    cases gb with
    | false =>
      refine (FB.out _ T2.out Q2.out rfl).mono ?_
      rintro e w3 ⟨⟨vb, rfl, hwb⟩, hb3⟩
      have T3 := Lib.hid (T2.out.step hb3)
      obtain ⟨bb, Cb, rfl, -, -⟩ := hwb
      clear hb3
      have T3d := Lib.hid T3.out.drew
      have GD := Lib.hid (GA.out _ T3d.out Q1.out)
      have S3 := T3d.out.cells
      have S3' := S3
      obtain ⟨p0, p1, p2, p3, p4, p5, p6, r0, r1, r2, r3, r4, r5, r6⟩ := S3'
      go_wp2_with fail
      refine wp_region_held_drew (S := (fun w' => w'.cell? ⟨W.heap.size, 0, none⟩ = some (.int .i64 kind) ∧ w'.cell? ⟨W.heap.size, 1, none⟩ = some (.int .i64 nonce) ∧ w'.cell? ⟨W.heap.size, 2, none⟩ = some (.int .i64 frm) ∧ w'.cell? ⟨W.heap.size, 3, none⟩ = some (.int .i64 base) ∧ w'.cell? ⟨W.heap.size, 4, none⟩ = some (.slice X ins.length c) ∧ w'.cell? ⟨W.heap.size, 5, none⟩ = some (.int .i64 ack) ∧ w'.cell? ⟨W.heap.size, 6, none⟩ = some (.int .u64 sum) ∧ w'.cell? ⟨W.heap.size + 1, 0, none⟩ = some (.int .i64 kind') ∧ w'.cell? ⟨W.heap.size + 1, 1, none⟩ = some (.int .i64 nonce') ∧ w'.cell? ⟨W.heap.size + 1, 2, none⟩ = some (.int .i64 frm') ∧ w'.cell? ⟨W.heap.size + 1, 3, none⟩ = some (.int .i64 base') ∧ w'.cell? ⟨W.heap.size + 1, 4, none⟩ = some (.slice X' ins'.length c') ∧ w'.cell? ⟨W.heap.size + 1, 5, none⟩ = some (.int .i64 ack') ∧ w'.cell? ⟨W.heap.size + 1, 6, none⟩ = some (.int .u64 sum'))) (by kernel_rfl) ?_ (fun hHeld => ?_)
      · (try dsimp only); (first | exact S3 | exact S4 | exact S5)
      refine wpAnyH_take (i := 0) (v := ?_) rfl (by kernel_rfl) (by kernel_rfl) (by kernel_rfl) (fun _ _ _ h => h) (Or.inl ⟨by rfl, ?_⟩) (by assumption) ?_
      rotate_left; · (intro w hSw; (try dsimp only at hSw); go_simp; try with_reducible rfl)
      (try simp only [Act.put, List.setIfInBounds_toArray, List.set_cons_zero, List.set_cons_succ, List.getElem_toArray, List.getElem_cons_zero, List.getElem_cons_succ])
      refine wpAnyH_take (i := 1) (v := ?_) rfl (by kernel_rfl) (by kernel_rfl) (by kernel_rfl) (fun _ _ _ h => h) (Or.inl ⟨by rfl, ?_⟩) (by assumption) ?_
      rotate_left; · (intro w hSw; (try dsimp only at hSw); go_simp; try with_reducible rfl)
      (try simp only [Act.put, List.setIfInBounds_toArray, List.set_cons_zero, List.set_cons_succ, List.getElem_toArray, List.getElem_cons_zero, List.getElem_cons_succ])
      refine wpAnyH_take (i := 2) (v := ?_) rfl (by kernel_rfl) (by kernel_rfl) (by kernel_rfl) (fun _ _ _ h => h) (Or.inl ⟨by rfl, ?_⟩) (by assumption) ?_
      rotate_left; · (intro w hSw; (try dsimp only at hSw); go_simp; try with_reducible rfl)
      (try simp only [Act.put, List.setIfInBounds_toArray, List.set_cons_zero, List.set_cons_succ, List.getElem_toArray, List.getElem_cons_zero, List.getElem_cons_succ])
      refine wpAnyH_ready (rs := [3]) (by kernel_rfl) (by simp) ?_
      refine AllReadyH.cons rfl (fun K hK => ?_) AllReadyH.nil
      (try simp only [List.getElem_toArray, List.getElem_cons_zero, List.getElem_cons_succ])
      go_simp
      (refine GD.out.mono ?_; rintro e w4 ⟨rfl, hb4⟩; have T4 := T3d.out.step hb4; have S4 := T4.cells)
      refine hK.out _ _ ?_ (fun hHeld2 => ?_)
      · (try dsimp only); (first | exact S3 | exact S4 | exact S5)
      clear hK K hHeld
      have hHeld := hHeld2
      clear hHeld2
      (try simp only [Act.put, List.setIfInBounds_toArray, List.set_cons_zero, List.set_cons_succ, List.getElem_toArray, List.getElem_cons_zero, List.getElem_cons_succ])
      refine wpAnyH_take (i := 4) (v := ?_) rfl (by kernel_rfl) (by kernel_rfl) (by kernel_rfl) (fun _ _ _ h => h) (Or.inl ⟨by rfl, ?_⟩) (by assumption) ?_
      rotate_left; · (intro w hSw; (try dsimp only at hSw); go_simp; try with_reducible rfl)
      (try simp only [Act.put, List.setIfInBounds_toArray, List.set_cons_zero, List.set_cons_succ, List.getElem_toArray, List.getElem_cons_zero, List.getElem_cons_succ])
      refine wpAnyH_take (i := 5) (v := ?_) rfl (by kernel_rfl) (by kernel_rfl) (by kernel_rfl) (fun _ _ _ h => h) (Or.inl ⟨by rfl, ?_⟩) (by assumption) ?_
      rotate_left; · (intro w hSw; (try dsimp only at hSw); go_simp; try with_reducible rfl)
      (try simp only [Act.put, List.setIfInBounds_toArray, List.set_cons_zero, List.set_cons_succ, List.getElem_toArray, List.getElem_cons_zero, List.getElem_cons_succ])
      refine wpAnyH_take (i := 6) (v := ?_) rfl (by kernel_rfl) (by kernel_rfl) (by kernel_rfl) (fun _ _ _ h => h) (Or.inl ⟨by rfl, ?_⟩) (by assumption) ?_
      rotate_left; · (intro w hSw; (try dsimp only at hSw); go_simp; try with_reducible rfl)
      (try simp only [Act.put, List.setIfInBounds_toArray, List.set_cons_zero, List.set_cons_succ, List.getElem_toArray, List.getElem_cons_zero, List.getElem_cons_succ])
      refine wpAnyH_take (i := 7) (v := ?_) rfl (by kernel_rfl) (by kernel_rfl) (by kernel_rfl) (fun _ _ _ h => h) (Or.inl ⟨by rfl, ?_⟩) (by assumption) ?_
      rotate_left; · (intro w hSw; (try dsimp only at hSw); go_simp; try with_reducible rfl)
      (try simp only [Act.put, List.setIfInBounds_toArray, List.set_cons_zero, List.set_cons_succ, List.getElem_toArray, List.getElem_cons_zero, List.getElem_cons_succ])
      refine wpAnyH_take (i := 8) (v := ?_) rfl (by kernel_rfl) (by kernel_rfl) (by kernel_rfl) (fun _ _ _ h => h) (Or.inl ⟨by rfl, ?_⟩) (by assumption) ?_
      rotate_left; · (intro w hSw; (try dsimp only at hSw); go_simp; try with_reducible rfl)
      (try simp only [Act.put, List.setIfInBounds_toArray, List.set_cons_zero, List.set_cons_succ, List.getElem_toArray, List.getElem_cons_zero, List.getElem_cons_succ])
      refine wpAnyH_take (i := 9) (v := ?_) rfl (by kernel_rfl) (by kernel_rfl) (by kernel_rfl) (fun _ _ _ h => h) (Or.inl ⟨by rfl, ?_⟩) (by assumption) ?_
      rotate_left; · (intro w hSw; (try dsimp only at hSw); go_simp; try with_reducible rfl)
      (try simp only [Act.put, List.setIfInBounds_toArray, List.set_cons_zero, List.set_cons_succ, List.getElem_toArray, List.getElem_cons_zero, List.getElem_cons_succ])
      refine wpAnyH_take (i := 10) (v := ?_) rfl (by kernel_rfl) (by kernel_rfl) (by kernel_rfl) (fun _ _ _ h => h) (Or.inl ⟨by rfl, ?_⟩) (by assumption) ?_
      rotate_left; · (intro w hSw; (try dsimp only at hSw); go_simp; try with_reducible rfl)
      (try simp only [Act.put, List.setIfInBounds_toArray, List.set_cons_zero, List.set_cons_succ, List.getElem_toArray, List.getElem_cons_zero, List.getElem_cons_succ])
      refine wpAnyH_take (i := 11) (v := ?_) rfl (by kernel_rfl) (by kernel_rfl) (by kernel_rfl) (fun _ _ _ h => h) (Or.inl ⟨by rfl, ?_⟩) (by assumption) ?_
      rotate_left; · (intro w hSw; (try dsimp only at hSw); go_simp; try with_reducible rfl)
      (try simp only [Act.put, List.setIfInBounds_toArray, List.set_cons_zero, List.set_cons_succ, List.getElem_toArray, List.getElem_cons_zero, List.getElem_cons_succ])
      refine wpAnyH_take (i := 12) (v := ?_) rfl (by kernel_rfl) (by kernel_rfl) (by kernel_rfl) (fun _ _ _ h => h) (Or.inl ⟨by rfl, ?_⟩) (by assumption) ?_
      rotate_left; · (intro w hSw; (try dsimp only at hSw); go_simp; try with_reducible rfl)
      (try simp only [Act.put, List.setIfInBounds_toArray, List.set_cons_zero, List.set_cons_succ, List.getElem_toArray, List.getElem_cons_zero, List.getElem_cons_succ])
      refine wpAnyH_take (i := 13) (v := undef) rfl (by kernel_rfl) (by kernel_rfl) (by kernel_rfl) (fun _ _ _ h => h) (Or.inr ⟨by rfl, rfl⟩) (by assumption) ?_
      (try simp only [Act.put, List.setIfInBounds_toArray, List.set_cons_zero, List.set_cons_succ, List.getElem_toArray, List.getElem_cons_zero, List.getElem_cons_succ])
      refine wpAnyH_take (i := 14) (v := undef) rfl (by kernel_rfl) (by kernel_rfl) (by kernel_rfl) (fun _ _ _ h => h) (Or.inr ⟨by rfl, rfl⟩) (by assumption) ?_
      (try simp only [Act.put, List.setIfInBounds_toArray, List.set_cons_zero, List.set_cons_succ, List.getElem_toArray, List.getElem_cons_zero, List.getElem_cons_succ])
      refine wpAnyH_take (i := 15) (v := undef) rfl (by kernel_rfl) (by kernel_rfl) (by kernel_rfl) (fun _ _ _ h => h) (Or.inr ⟨by rfl, rfl⟩) (by assumption) ?_
      (try simp only [Act.put, List.setIfInBounds_toArray, List.set_cons_zero, List.set_cons_succ, List.getElem_toArray, List.getElem_cons_zero, List.getElem_cons_succ])
      refine wpAnyH_take (i := 16) (v := undef) rfl (by kernel_rfl) (by kernel_rfl) (by kernel_rfl) (fun _ _ _ h => h) (Or.inr ⟨by rfl, rfl⟩) (by assumption) ?_
      (try simp only [Act.put, List.setIfInBounds_toArray, List.set_cons_zero, List.set_cons_succ, List.getElem_toArray, List.getElem_cons_zero, List.getElem_cons_succ])
      refine wpAnyH_take (i := 17) (v := undef) rfl (by kernel_rfl) (by kernel_rfl) (by kernel_rfl) (fun _ _ _ h => h) (Or.inr ⟨by rfl, rfl⟩) (by assumption) ?_
      (try simp only [Act.put, List.setIfInBounds_toArray, List.set_cons_zero, List.set_cons_succ, List.getElem_toArray, List.getElem_cons_zero, List.getElem_cons_succ])
      refine wpAnyH_take (i := 18) (v := undef) rfl (by kernel_rfl) (by kernel_rfl) (by kernel_rfl) (fun _ _ _ h => h) (Or.inr ⟨by rfl, rfl⟩) (by assumption) ?_
      (try simp only [Act.put, List.setIfInBounds_toArray, List.set_cons_zero, List.set_cons_succ, List.getElem_toArray, List.getElem_cons_zero, List.getElem_cons_succ])
      refine wpAnyH_take (i := 19) (v := undef) rfl (by kernel_rfl) (by kernel_rfl) (by kernel_rfl) (fun _ _ _ h => h) (Or.inr ⟨by rfl, rfl⟩) (by assumption) ?_
      (try simp only [Act.put, List.setIfInBounds_toArray, List.set_cons_zero, List.set_cons_succ, List.getElem_toArray, List.getElem_cons_zero, List.getElem_cons_succ])
      refine wpAnyH_take (i := 20) (v := ?_) rfl (by kernel_rfl) (by kernel_rfl) (by kernel_rfl) (fun _ _ _ h => h) (Or.inl ⟨by rfl, ?_⟩) (by assumption) ?_
      rotate_left; · (intro w hSw; (try dsimp only at hSw); go_simp; try with_reducible rfl)
      (try simp only [Act.put, List.setIfInBounds_toArray, List.set_cons_zero, List.set_cons_succ, List.getElem_toArray, List.getElem_cons_zero, List.getElem_cons_succ])
      refine wpAnyH_take (i := 21) (v := ?_) rfl (by kernel_rfl) (by kernel_rfl) (by kernel_rfl) (fun _ _ _ h => h) (Or.inl ⟨by rfl, ?_⟩) (by assumption) ?_
      rotate_left; · (intro w hSw; (try dsimp only at hSw); go_simp; try with_reducible rfl)
      (try simp only [Act.put, List.setIfInBounds_toArray, List.set_cons_zero, List.set_cons_succ, List.getElem_toArray, List.getElem_cons_zero, List.getElem_cons_succ])
      refine wpAnyH_done (by kernel_rfl) ?_ _
      have T4h := Lib.hid T4
      clear S4 T4 hb4 S3 p0 p1 p2 p3 p4 p5 p6 r0 r1 r2 r3 r4 r5 r6
      go_wp2_with fail
      refine (DA.out _ T4h.out (by first | trivial | rfl)).mono ?_
      rintro e w5 ⟨⟨Y, cy, rfl, hcy⟩, hb5⟩
      have T5 := Lib.hid (T4h.out.step hb5)
      have al := (Below.refl w5.heap.size w5).alloc (Nat.le_refl _) (.cells #[.int .i64 kind, .int .i64 nonce, .int .i64 frm, .int .i64 base, .slice Y ins.length cy, .int .i64 ack, .int .u64 sum] 61)
      have xb := heap_alloc_new w5 (.cells #[.int .i64 kind, .int .i64 nonce, .int .i64 frm, .int .i64 base, .slice Y ins.length cy, .int .i64 ack, .int .u64 sum] 61)
      have T6 := Lib.hid (T5.out.step al)
      have S6 := T6.out.cells
      obtain ⟨p0, p1, p2, p3, p4, p5, p6, r0, r1, r2, r3, r4, r5, r6⟩ := S6
      have SM := Lib.hid (SB.out _ T6.out Y cy (hcy.below al) Q1.out)
      clear hb5 hcy al xb
      go_wp2_with fail
      refine SM.out.mono ?_
      rintro e w7 ⟨rfl, hb7⟩
      have T7 := Lib.hid (T6.out.step hb7)
      clear hb7
      go_wp2_with fail
      go_ret
      exact ⟨rfl, T7.out.1⟩
    | true =>
      refine (EB.out _ T2.out Q2.out rfl).mono ?_
      rintro e w3 ⟨rfl, hb3⟩
      have T3 := Lib.hid (T2.out.step hb3)
      clear hb3
      have T3d := Lib.hid T3.out.drew
      have GD := Lib.hid (GA.out _ T3d.out Q1.out)
      have S3 := T3d.out.cells
      have S3' := S3
      obtain ⟨p0, p1, p2, p3, p4, p5, p6, r0, r1, r2, r3, r4, r5, r6⟩ := S3'
      have sq := SQ.out (by first | trivial | rfl) (by first | trivial | rfl)
      have sq2 : (((strB La).toList == (strB Lb).toList) != sm) = false := by rw [sq]; simp
      go_wp2_with fail
      refine wp_region_held_drew (S := (fun w' => w'.cell? ⟨W.heap.size, 0, none⟩ = some (.int .i64 kind) ∧ w'.cell? ⟨W.heap.size, 1, none⟩ = some (.int .i64 nonce) ∧ w'.cell? ⟨W.heap.size, 2, none⟩ = some (.int .i64 frm) ∧ w'.cell? ⟨W.heap.size, 3, none⟩ = some (.int .i64 base) ∧ w'.cell? ⟨W.heap.size, 4, none⟩ = some (.slice X ins.length c) ∧ w'.cell? ⟨W.heap.size, 5, none⟩ = some (.int .i64 ack) ∧ w'.cell? ⟨W.heap.size, 6, none⟩ = some (.int .u64 sum) ∧ w'.cell? ⟨W.heap.size + 1, 0, none⟩ = some (.int .i64 kind') ∧ w'.cell? ⟨W.heap.size + 1, 1, none⟩ = some (.int .i64 nonce') ∧ w'.cell? ⟨W.heap.size + 1, 2, none⟩ = some (.int .i64 frm') ∧ w'.cell? ⟨W.heap.size + 1, 3, none⟩ = some (.int .i64 base') ∧ w'.cell? ⟨W.heap.size + 1, 4, none⟩ = some (.slice X' ins'.length c') ∧ w'.cell? ⟨W.heap.size + 1, 5, none⟩ = some (.int .i64 ack') ∧ w'.cell? ⟨W.heap.size + 1, 6, none⟩ = some (.int .u64 sum'))) (by kernel_rfl) ?_ (fun hHeld => ?_)
      · (try dsimp only); (first | exact S3 | exact S4 | exact S5)
      refine wpAnyH_take (i := 0) (v := ?_) rfl (by kernel_rfl) (by kernel_rfl) (by kernel_rfl) (fun _ _ _ h => h) (Or.inl ⟨by rfl, ?_⟩) (by assumption) ?_
      rotate_left; · (intro w hSw; (try dsimp only at hSw); go_simp; try with_reducible rfl)
      (try simp only [Act.put, List.setIfInBounds_toArray, List.set_cons_zero, List.set_cons_succ, List.getElem_toArray, List.getElem_cons_zero, List.getElem_cons_succ])
      refine wpAnyH_take (i := 1) (v := ?_) rfl (by kernel_rfl) (by kernel_rfl) (by kernel_rfl) (fun _ _ _ h => h) (Or.inl ⟨by rfl, ?_⟩) (by assumption) ?_
      rotate_left; · (intro w hSw; (try dsimp only at hSw); go_simp; try with_reducible rfl)
      (try simp only [Act.put, List.setIfInBounds_toArray, List.set_cons_zero, List.set_cons_succ, List.getElem_toArray, List.getElem_cons_zero, List.getElem_cons_succ])
      refine wpAnyH_take (i := 2) (v := ?_) rfl (by kernel_rfl) (by kernel_rfl) (by kernel_rfl) (fun _ _ _ h => h) (Or.inl ⟨by rfl, ?_⟩) (by assumption) ?_
      rotate_left; · (intro w hSw; (try dsimp only at hSw); go_simp; try with_reducible rfl)
      (try simp only [Act.put, List.setIfInBounds_toArray, List.set_cons_zero, List.set_cons_succ, List.getElem_toArray, List.getElem_cons_zero, List.getElem_cons_succ])
      refine wpAnyH_ready (rs := [3]) (by kernel_rfl) (by simp) ?_
      refine AllReadyH.cons rfl (fun K hK => ?_) AllReadyH.nil
      (try simp only [List.getElem_toArray, List.getElem_cons_zero, List.getElem_cons_succ])
      go_simp
      (refine GD.out.mono ?_; rintro e w4 ⟨rfl, hb4⟩; have T4 := T3d.out.step hb4; have S4 := T4.cells)
      refine hK.out _ _ ?_ (fun hHeld2 => ?_)
      · (try dsimp only); (first | exact S3 | exact S4 | exact S5)
      clear hK K hHeld
      have hHeld := hHeld2
      clear hHeld2
      (try simp only [Act.put, List.setIfInBounds_toArray, List.set_cons_zero, List.set_cons_succ, List.getElem_toArray, List.getElem_cons_zero, List.getElem_cons_succ])
      refine wpAnyH_take (i := 4) (v := ?_) rfl (by kernel_rfl) (by kernel_rfl) (by kernel_rfl) (fun _ _ _ h => h) (Or.inl ⟨by rfl, ?_⟩) (by assumption) ?_
      rotate_left; · (intro w hSw; (try dsimp only at hSw); go_simp; try with_reducible rfl)
      (try simp only [Act.put, List.setIfInBounds_toArray, List.set_cons_zero, List.set_cons_succ, List.getElem_toArray, List.getElem_cons_zero, List.getElem_cons_succ])
      refine wpAnyH_take (i := 5) (v := ?_) rfl (by kernel_rfl) (by kernel_rfl) (by kernel_rfl) (fun _ _ _ h => h) (Or.inl ⟨by rfl, ?_⟩) (by assumption) ?_
      rotate_left; · (intro w hSw; (try dsimp only at hSw); go_simp; try with_reducible rfl)
      (try simp only [Act.put, List.setIfInBounds_toArray, List.set_cons_zero, List.set_cons_succ, List.getElem_toArray, List.getElem_cons_zero, List.getElem_cons_succ])
      refine wpAnyH_take (i := 6) (v := ?_) rfl (by kernel_rfl) (by kernel_rfl) (by kernel_rfl) (fun _ _ _ h => h) (Or.inl ⟨by rfl, ?_⟩) (by assumption) ?_
      rotate_left; · (intro w hSw; (try dsimp only at hSw); go_simp; try with_reducible rfl)
      (try simp only [Act.put, List.setIfInBounds_toArray, List.set_cons_zero, List.set_cons_succ, List.getElem_toArray, List.getElem_cons_zero, List.getElem_cons_succ])
      refine wpAnyH_take (i := 7) (v := ?_) rfl (by kernel_rfl) (by kernel_rfl) (by kernel_rfl) (fun _ _ _ h => h) (Or.inl ⟨by rfl, ?_⟩) (by assumption) ?_
      rotate_left; · (intro w hSw; (try dsimp only at hSw); go_simp; try with_reducible rfl)
      (try simp only [Act.put, List.setIfInBounds_toArray, List.set_cons_zero, List.set_cons_succ, List.getElem_toArray, List.getElem_cons_zero, List.getElem_cons_succ])
      refine wpAnyH_take (i := 8) (v := ?_) rfl (by kernel_rfl) (by kernel_rfl) (by kernel_rfl) (fun _ _ _ h => h) (Or.inl ⟨by rfl, ?_⟩) (by assumption) ?_
      rotate_left; · (intro w hSw; (try dsimp only at hSw); go_simp; try with_reducible rfl)
      (try simp only [Act.put, List.setIfInBounds_toArray, List.set_cons_zero, List.set_cons_succ, List.getElem_toArray, List.getElem_cons_zero, List.getElem_cons_succ])
      refine wpAnyH_take (i := 9) (v := ?_) rfl (by kernel_rfl) (by kernel_rfl) (by kernel_rfl) (fun _ _ _ h => h) (Or.inl ⟨by rfl, ?_⟩) (by assumption) ?_
      rotate_left; · (intro w hSw; (try dsimp only at hSw); go_simp; try with_reducible rfl)
      (try simp only [Act.put, List.setIfInBounds_toArray, List.set_cons_zero, List.set_cons_succ, List.getElem_toArray, List.getElem_cons_zero, List.getElem_cons_succ])
      refine wpAnyH_take (i := 10) (v := ?_) rfl (by kernel_rfl) (by kernel_rfl) (by kernel_rfl) (fun _ _ _ h => h) (Or.inl ⟨by rfl, ?_⟩) (by assumption) ?_
      rotate_left; · (intro w hSw; (try dsimp only at hSw); go_simp; try with_reducible rfl)
      (try simp only [Act.put, List.setIfInBounds_toArray, List.set_cons_zero, List.set_cons_succ, List.getElem_toArray, List.getElem_cons_zero, List.getElem_cons_succ])
      refine wpAnyH_take (i := 11) (v := ?_) rfl (by kernel_rfl) (by kernel_rfl) (by kernel_rfl) (fun _ _ _ h => h) (Or.inl ⟨by rfl, ?_⟩) (by assumption) ?_
      rotate_left; · (intro w hSw; (try dsimp only at hSw); go_simp; try with_reducible rfl)
      (try simp only [Act.put, List.setIfInBounds_toArray, List.set_cons_zero, List.set_cons_succ, List.getElem_toArray, List.getElem_cons_zero, List.getElem_cons_succ])
      refine wpAnyH_take (i := 12) (v := ?_) rfl (by kernel_rfl) (by kernel_rfl) (by kernel_rfl) (fun _ _ _ h => h) (Or.inl ⟨by rfl, ?_⟩) (by assumption) ?_
      rotate_left; · (intro w hSw; (try dsimp only at hSw); go_simp; try with_reducible rfl)
      (try simp only [Act.put, List.setIfInBounds_toArray, List.set_cons_zero, List.set_cons_succ, List.getElem_toArray, List.getElem_cons_zero, List.getElem_cons_succ])
      refine wpAnyH_take (i := 13) (v := ?_) rfl (by kernel_rfl) (by kernel_rfl) (by kernel_rfl) (fun _ _ _ h => h) (Or.inl ⟨by rfl, ?_⟩) (by assumption) ?_
      rotate_left; · (intro w hSw; (try dsimp only at hSw); go_simp; try with_reducible rfl)
      (try simp only [Act.put, List.setIfInBounds_toArray, List.set_cons_zero, List.set_cons_succ, List.getElem_toArray, List.getElem_cons_zero, List.getElem_cons_succ])
      refine wpAnyH_take (i := 14) (v := ?_) rfl (by kernel_rfl) (by kernel_rfl) (by kernel_rfl) (fun _ _ _ h => h) (Or.inl ⟨by rfl, ?_⟩) (by assumption) ?_
      rotate_left; · (intro w hSw; (try dsimp only at hSw); go_simp; try with_reducible rfl)
      (try simp only [Act.put, List.setIfInBounds_toArray, List.set_cons_zero, List.set_cons_succ, List.getElem_toArray, List.getElem_cons_zero, List.getElem_cons_succ])
      refine wpAnyH_take (i := 15) (v := ?_) rfl (by kernel_rfl) (by kernel_rfl) (by kernel_rfl) (fun _ _ _ h => h) (Or.inl ⟨by rfl, ?_⟩) (by assumption) ?_
      rotate_left; · (intro w hSw; (try dsimp only at hSw); go_simp; try with_reducible rfl)
      (try simp only [Act.put, List.setIfInBounds_toArray, List.set_cons_zero, List.set_cons_succ, List.getElem_toArray, List.getElem_cons_zero, List.getElem_cons_succ])
      refine wpAnyH_take (i := 16) (v := ?_) rfl (by kernel_rfl) (by kernel_rfl) (by kernel_rfl) (fun _ _ _ h => h) (Or.inl ⟨by rfl, ?_⟩) (by assumption) ?_
      rotate_left; · (intro w hSw; (try dsimp only at hSw); go_simp; try with_reducible rfl)
      (try simp only [Act.put, List.setIfInBounds_toArray, List.set_cons_zero, List.set_cons_succ, List.getElem_toArray, List.getElem_cons_zero, List.getElem_cons_succ])
      refine wpAnyH_take (i := 17) (v := ?_) rfl (by kernel_rfl) (by kernel_rfl) (by kernel_rfl) (fun _ _ _ h => h) (Or.inl ⟨by rfl, ?_⟩) (by assumption) ?_
      rotate_left; · (intro w hSw; (try dsimp only at hSw); go_simp; try with_reducible rfl)
      (try simp only [Act.put, List.setIfInBounds_toArray, List.set_cons_zero, List.set_cons_succ, List.getElem_toArray, List.getElem_cons_zero, List.getElem_cons_succ])
      refine wpAnyH_ready (rs := [18]) (by kernel_rfl) (by simp) ?_
      refine AllReadyH.cons rfl (fun K hK => ?_) AllReadyH.nil
      (try simp only [List.getElem_toArray, List.getElem_cons_zero, List.getElem_cons_succ])
      go_simp
      (refine (SA.out _ T4 Q1.out).mono ?_; rintro e w5 ⟨rfl, hb5⟩; have T5 := T4.step hb5; have S5 := T5.cells)
      refine hK.out _ _ ?_ (fun hHeld2 => ?_)
      · (try dsimp only); (first | exact S3 | exact S4 | exact S5)
      clear hK K hHeld
      have hHeld := hHeld2
      clear hHeld2
      (try simp only [Act.put, List.setIfInBounds_toArray, List.set_cons_zero, List.set_cons_succ, List.getElem_toArray, List.getElem_cons_zero, List.getElem_cons_succ])
      refine wpAnyH_take (i := 19) (v := ?_) rfl (by kernel_rfl) (by kernel_rfl) (by kernel_rfl) (fun _ _ _ h => h) (Or.inl ⟨by rfl, ?_⟩) (by assumption) ?_
      rotate_left; · (intro w hSw; (try dsimp only at hSw); go_simp; try with_reducible rfl)
      (try simp only [Act.put, List.setIfInBounds_toArray, List.set_cons_zero, List.set_cons_succ, List.getElem_toArray, List.getElem_cons_zero, List.getElem_cons_succ])
      refine wpAnyH_take (i := 20) (v := ?_) rfl (by kernel_rfl) (by kernel_rfl) (by kernel_rfl) (fun _ _ _ h => h) (Or.inl ⟨by rfl, ?_⟩) (by assumption) ?_
      rotate_left; · (intro w hSw; (try dsimp only at hSw); go_simp; try with_reducible rfl)
      (try simp only [Act.put, List.setIfInBounds_toArray, List.set_cons_zero, List.set_cons_succ, List.getElem_toArray, List.getElem_cons_zero, List.getElem_cons_succ])
      refine wpAnyH_take (i := 21) (v := ?_) rfl (by kernel_rfl) (by kernel_rfl) (by kernel_rfl) (fun _ _ _ h => h) (Or.inl ⟨by rfl, ?_⟩) (by assumption) ?_
      rotate_left; · (intro w hSw; (try dsimp only at hSw); go_simp; try with_reducible rfl)
      (try simp only [Act.put, List.setIfInBounds_toArray, List.set_cons_zero, List.set_cons_succ, List.getElem_toArray, List.getElem_cons_zero, List.getElem_cons_succ])
      refine wpAnyH_done (by kernel_rfl) ?_ _
      have T4h := Lib.hid T5
      clear S4 T4 hb4 S3 p0 p1 p2 p3 p4 p5 p6 r0 r1 r2 r3 r4 r5 r6 S5 T5 hb5
      go_wp2_with fail
      refine (DA.out _ T4h.out (by first | trivial | rfl)).mono ?_
      rintro e w5 ⟨⟨Y, cy, rfl, hcy⟩, hb5⟩
      have T5 := Lib.hid (T4h.out.step hb5)
      have al := (Below.refl w5.heap.size w5).alloc (Nat.le_refl _) (.cells #[.int .i64 kind, .int .i64 nonce, .int .i64 frm, .int .i64 base, .slice Y ins.length cy, .int .i64 ack, .int .u64 sum] 61)
      have xb := heap_alloc_new w5 (.cells #[.int .i64 kind, .int .i64 nonce, .int .i64 frm, .int .i64 base, .slice Y ins.length cy, .int .i64 ack, .int .u64 sum] 61)
      have T6 := Lib.hid (T5.out.step al)
      have S6 := T6.out.cells
      obtain ⟨p0, p1, p2, p3, p4, p5, p6, r0, r1, r2, r3, r4, r5, r6⟩ := S6
      have SM := Lib.hid (SB.out _ T6.out Y cy (hcy.below al) Q1.out)
      clear hb5 hcy al xb
      go_wp2_with fail
      refine SM.out.mono ?_
      rintro e w7 ⟨rfl, hb7⟩
      have T7 := Lib.hid (T6.out.step hb7)
      clear hb7
      go_wp2_with fail
      go_ret
      exact ⟨rfl, T7.out.1⟩

end Go.Proofs.YtgdbpicelnoacaaDoor
