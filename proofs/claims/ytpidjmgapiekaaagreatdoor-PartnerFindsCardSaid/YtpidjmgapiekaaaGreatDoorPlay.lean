/- This text proves what a side's inputs of a frame are, over the loaded program. -/
import Derived.Test.YtpidjmgapiekaaaGreatDoorTick
namespace Go.Proofs.YtpidjmgapiekaaaGreatDoor
section
open Go.RowKit Go.WideShapes
set_option linter.unusedSimpArgs false
set_option linter.unusedVariables false

/-- The inputs of a frame, as a side knows them. -/
def Side.bothV (P : Side) (f : Int) : Int × Int := if P.me = 0 then ((P.mine.get f).1, (P.other.get f).1) else ((P.other.get f).1, (P.mine.get f).1)
/-- The other's input is used. -/

def Side.used (P : Side) (f : Int) : Side := { P with other := P.other.use f, gn := P.gn + 1 }
theorem wf_small {x : Int} (h : -4000000000000000000 ≤ x ∧ x ≤ 4000000000000000000) : (Lit.int .i64 x).wf = true := WalkArith.wf_i64 (by omega)

section
variable {w w0 w1 : World} {pb : Nat} {a : Ptr} {P P1 : Side}
theorem PLeft.ouse (h : PLeft w pb a P1 w1) (ho : P1.other.fine) (hn : P1.gn < 1000000) (f : Int) (hf : 0 ≤ f ∧ f ≤ 2000000000) : Calls Tryz.prog 155 #[.pointer (some ⟨a.ob, 0, none⟩), .int .i64 f] w1 (fun e w2 => e = .returned (.tuple #[.int .i64 (P1.other.get f).1, .bool (P1.other.get f).2]) ∧ PLeft w pb a (P1.used f) w2) :=
  h.step (fun a1 h1 _ h5 _ => by
    rw [← h5]
    exact ouse_any h1 ho.1 hn f (wf_small (by omega)) (wf_small (by have := ho.get f; omega)))
theorem PLeft.pre {w2 : World} (h : PLeft w1 pb a P w2) (hb : Below w.heap.size w w1) : PLeft w pb a P w2 := by
  obtain ⟨a1, h1, h2, h3, h4, h5⟩ := h
  have := hb.size
  exact ⟨a1, h1, (Kept.of_below (fp := (a.fps pb).flatten) hb).trans h2 (fun x hx => .inl hx), fun x hx => (h3 x hx).imp id (fun h => by omega), h4, h5⟩
theorem PLeft.keeps (h : PLeft w pb a P w1) {b : Nat} {o : Obj} (hb : w.heap[b]? = some o) (hn : b ∉ (a.fps pb).flatten) : w1.heap[b]? = some o := by
  obtain ⟨a1, h1, h2, h3, h4, h5⟩ := h
  exact (h2.block b (Array.getElem?_eq_some_iff.1 hb).1 hn).trans hb
theorem PAt.notNew (h : PAt w pb a P) {b : Nat} (hb : w.heap.size ≤ b) : b ∉ (a.fps pb).flatten := by
  intro hm
  obtain ⟨l, hl, hx⟩ := List.mem_flatten.1 hm
  have := h.small l hl b hx
  omega
/-- Another block is changed. -/
theorem PLeft.beside {w2 w3 : World} (h : PLeft w1 pb a P w2) (hb : Below w.heap.size w w1) {b : Nat} (n1 : w.heap.size ≤ b) (n2 : b < w1.heap.size) (n3 : b ∉ (a.fps pb).flatten) (hk : Kept [b] w2 w3) : PLeft w pb a P w3 := by
  obtain ⟨a1, h1, h2, h3, h4, h5⟩ := h
  have s := hb.size
  refine ⟨a1, h1.kept hk (fun l hl x hx => ?_), ((Kept.of_below (fp := (a.fps pb).flatten) hb).trans h2 (fun x hx => .inl hx)).trans hk (fun x hx => by simp at hx; subst hx; exact .inr n1), fun x hx => (h3 x hx).imp id (fun h => by omega), h4, h5⟩
  simp
  rintro rfl
  rcases h3 x (List.mem_flatten.2 ⟨l, hl, hx⟩) with h | h
  · exact n3 h
  · omega
theorem two_of {w1 : World} {b : Nat} {x y : Value} {T : TypeId} (h : w1.heap[b]? = some (.cells #[x, y] T (0, 0))) (v : Value) : (w1.setCell ⟨b, 0, none⟩ v).heap[b]? = some (.cells #[v, y] T (0, 0)) ∧ (w1.setCell ⟨b, 1, none⟩ v).heap[b]? = some (.cells #[x, v] T (0, 0)) :=
  ⟨(heap_setCell_at h 0 v).trans rfl, (heap_setCell_at h 1 v).trans rfl⟩

set_option maxRecDepth 100000 in
set_option maxHeartbeats 6400000 in
theorem both_any (h : PAt w pb a P) (hm : P.mine.fine) (ho : P.other.fine) (hgn : P.gn < 1000000) (hme : P.me = 0 ∨ P.me = 1) (f : Int) (hf : 0 ≤ f ∧ f ≤ 2000000000) :
    Calls Tryz.prog 130 #[.pointer (some ⟨pb, 0, none⟩), .int .i64 f] w (PDone w pb a (P.used f) (.agg #[.int .i64 (P.bothV f).1, .int .i64 (P.bothV f).2])) := by
  have hb1 := (Below.refl w.heap.size w).alloc (Nat.le_refl _) (.cells #[.int .i64 0, .int .i64 0] 33)
  obtain ⟨w1, hw1⟩ : ∃ w1, w.alloc (.cells #[.int .i64 0, .int .i64 0] 33) = w1 := ⟨_, rfl⟩
  have hc := heap_alloc_new w (.cells #[.int .i64 0, .int .i64 0] 33)
  rw [hw1] at hc hb1
  have HW := Lib.hid hw1
  have H1 := h.below hb1
  have B1 := Lib.hid hb1
  have HH := Lib.hid h
  have c20 : w1.cell? ⟨pb, 20, none⟩ = some (.int .i64 P.me) := H1.at 20
  have c18 := H1.c18
  have c19 := H1.c19
  have hne : w.heap.size ≠ pb := Nat.ne_of_gt h.lt
  have GET := Lib.hid (fun wx (hb : Below w1.heap.size w1 wx) => mget_any (H1.below hb) hm.1 f)
  have USE := Lib.hid (fun wx (hb : Below w.heap.size w wx) => (PLeft.refl (h.below hb)).ouse ho hgn f hf)
  have NEW := Lib.hid (h.notNew (Nat.le_refl _))
  unfold Side.bothV
  obtain ⟨x, hx⟩ : ∃ x, (P.mine.get f).1 = x := ⟨_, rfl⟩
  obtain ⟨y, hy⟩ : ∃ x, (P.other.get f).1 = x := ⟨_, rfl⟩
  rw [hx] at GET ⊢
  rw [hy] at USE ⊢
  obtain ⟨R, hR⟩ : ∃ R, P.used f = R := ⟨_, rfl⟩
  rw [hR] at USE ⊢
  have ME : Hid (R.me = P.me) := Lib.hid (by rw [← hR]; rfl)
  obtain ⟨cb, hcb⟩ : ∃ cb, w.heap.size = cb := ⟨_, rfl⟩
  have HCB := Lib.hid hcb
  rw [hcb] at hc hne
  have z0 : w1.cell? ⟨cb, 0, none⟩ = some (.int .i64 0) := by simp only [World.cell?, hc]; rfl
  have z1 : w1.cell? ⟨cb, 1, none⟩ = some (.int .i64 0) := by simp only [World.cell?, hc]; rfl
  have fz0 : w1.frozen? ⟨cb, 0, none⟩ = false := by simp only [World.frozen?, hc]; rfl
  have fz1 : w1.frozen? ⟨cb, 1, none⟩ = false := by simp only [World.frozen?, hc]; rfl
  have HC := Lib.hid hc
  clear h H1 hb1 hw1 hm ho hgn hx hy hR hc
  rcases hme with e | e
  · rw [if_pos e]
    rw [e] at c20
    have ew : IntKind.i64.wrap (1 - 0) = 1 := by decide
    have ew2 : IntKind.i64.wrap 1 = 1 := by decide
    have q1 : (0 : Int) ≤ 1 := by decide
    have q2 : (1 : Int) < 2 := by decide
    have HE := Lib.hid e
    clear e
    go_enter Tryz.func130, Tryz.ntmps130
    go_upto_region 1 with (fail)
    rw [HW.out]
    try rw [HCB.out]
    apply meetF (R := fun wx => wx.heap[cb]? = some (.cells #[.int .i64 x, .int .i64 0] 33 (0, 0)) ∧ Below w.heap.size w wx)
    case h =>
      go_region_held3 (fun w' => w'.cell? ⟨pb, 20, none⟩ = some (.int .i64 0) ∧ w'.cell? ⟨pb, 18, none⟩ = some (.pointer (some ⟨a.mb, 0, none⟩)))
        (first | exact ⟨c20, c18⟩ | (constructor <;> (first | exact (World.cell?_setCell_far _ _ _ _ hne).trans c20 | exact (World.cell?_setCell_far _ _ _ _ hne).trans c18)))
        (first
          | (go_at_call 82; (with_reducible refine (GET.out _ ?_).mono ?_); exact drew_below _ _ rfl rfl rfl rfl; rintro e w3 ⟨rfl, k3, rfl⟩))
      all_goals exact ⟨rfl, (two_of (w1 := w1.drewN _) HC.out _).1, below_kept (B1.out.trans (show Below w.heap.size w1 (w1.drewN _) from ⟨rfl, rfl, rfl, Nat.le_refl _, fun _ _ => rfl⟩)) (Kept.setCell _ cb 0 _) (by simp; rw [← HCB.out]; exact Nat.le_refl _) (Nat.le_refl _)⟩
    case k =>
      rintro wx ⟨hx, hb⟩
      have HX := Lib.hid hx
      have BX := Lib.hid hb
      have hl := Lib.hid (And.intro (Array.getElem?_eq_some_iff.1 hx).1 HH.out.lt)
      have H2 := HH.out.below hb
      have d20 : wx.cell? ⟨pb, 20, none⟩ = some (.int .i64 P.me) := H2.at 20
      rw [HE.out] at d20
      have d19 := H2.c19
      have z0 : wx.cell? ⟨cb, 0, none⟩ = some (.int .i64 x) := by simp only [World.cell?, hx]; rfl
      have z1 : wx.cell? ⟨cb, 1, none⟩ = some (.int .i64 0) := by simp only [World.cell?, hx]; rfl
      have fz0 : wx.frozen? ⟨cb, 0, none⟩ = false := by simp only [World.frozen?, hx]; rfl
      have fz1 : wx.frozen? ⟨cb, 1, none⟩ = false := by simp only [World.frozen?, hx]; rfl
      have USE2 := Lib.hid (fun wy (hy : Below wx.heap.size wx wy) => USE.out wy (BX.out.trans (hy.mono BX.out.size)))
      clear hx hb H2
      go_upto_region 2 with (fail)
      apply meetF (R := fun wy => wy.heap[cb]? = some (.cells #[.int .i64 x, .int .i64 y] 33 (0, 0)) ∧ ∀ w3, Kept [cb] wy w3 → PLeft w pb a R w3)
      case h =>
        go_region_held3 (fun w' => w'.cell? ⟨pb, 20, none⟩ = some (.int .i64 0) ∧ w'.cell? ⟨pb, 19, none⟩ = some (.pointer (some ⟨a.ob, 0, none⟩)))
          (first | exact ⟨d20, d19⟩ | exact ⟨e20, e19⟩ | (constructor <;> (first | exact (World.cell?_setCell_far _ _ _ _ hne).trans e20 | exact (World.cell?_setCell_far _ _ _ _ hne).trans e19)))
          (first
            | (go_at_call 155; (with_reducible refine (USE2.out _ ?_).mono ?_); exact drew_below _ _ rfl rfl rfl rfl; rintro e w3 ⟨rfl, hd⟩; have e20 := hd.c 20 (.int .i64 0) (fun _ _ _ => by rw [← HE.out, ← ME.out]; rfl); have e19 := hd.c 19 (.pointer (some ⟨a.ob, 0, none⟩)) (fun a1 _ h5 => by rw [← h5]; rfl)
               have hc3 := hd.keeps (b := cb) HX.out (by rw [← HCB.out]; exact NEW.out)
               have y0 : w3.cell? ⟨cb, 0, none⟩ = some (.int .i64 x) := by simp only [World.cell?, hc3]; rfl
               have y1 : w3.cell? ⟨cb, 1, none⟩ = some (.int .i64 0) := by simp only [World.cell?, hc3]; rfl
               have fy0 : w3.frozen? ⟨cb, 0, none⟩ = false := by simp only [World.frozen?, hc3]; rfl
               have fy1 : w3.frozen? ⟨cb, 1, none⟩ = false := by simp only [World.frozen?, hc3]; rfl))
        all_goals exact ⟨rfl, (two_of hc3 _).2, fun w9 h9 => hd.beside (BX.out.trans ((show Below wx.heap.size wx (wx.drewN _) from ⟨rfl, rfl, rfl, Nat.le_refl _, fun _ _ => rfl⟩).mono BX.out.size)) (by rw [← HCB.out]; exact Nat.le_refl _) hl.out.1 (by rw [← HCB.out]; exact NEW.out) ((Kept.setCell _ cb 1 _).trans h9 (by simp))⟩
      case k =>
        rintro wy ⟨hy, hd⟩
        have v0 : wy.cell? ⟨cb, 0, none⟩ = some (.int .i64 x) := by simp only [World.cell?, hy]; rfl
        have v1 : wy.cell? ⟨cb, 1, none⟩ = some (.int .i64 y) := by simp only [World.cell?, hy]; rfl
        have fv0 : wy.frozen? ⟨cb, 0, none⟩ = false := by simp only [World.frozen?, hy]; rfl
        have fv1 : wy.frozen? ⟨cb, 1, none⟩ = false := by simp only [World.frozen?, hy]; rfl
        have LD := Lib.hid hd
        clear hd
        have r1 := (two_of hy (.int .i64 x)).1
        have r2 := (two_of r1 (.int .i64 y)).2
        have s0 : ((wy.setCell ⟨cb, 0, none⟩ (.int .i64 x)).setCell ⟨cb, 1, none⟩ (.int .i64 y)).cell? ⟨cb, 0, none⟩ = some (.int .i64 x) := by simp only [World.cell?, r2]; rfl
        have s1 : ((wy.setCell ⟨cb, 0, none⟩ (.int .i64 x)).setCell ⟨cb, 1, none⟩ (.int .i64 y)).cell? ⟨cb, 1, none⟩ = some (.int .i64 y) := by simp only [World.cell?, r2]; rfl
        have LE := Lib.hid (LD.out _ ((Kept.setCell wy cb 0 (.int .i64 x)).trans (Kept.setCell _ cb 1 (.int .i64 y)) (by simp)))
        clear r1 r2 hy
        go_wp2_with fail
        exact bodyPost_ret (v := .agg #[.int .i64 x, .int .i64 y]) (by simp [results, Tryz.results130, go_sem, s0, s1]) rfl ⟨rfl, LE.out⟩
  · rw [if_neg (by omega)]
    rw [e] at c20
    have ew : IntKind.i64.wrap (1 - 1) = 0 := by decide
    have ew2 : IntKind.i64.wrap 0 = 0 := by decide
    have q1 : (0 : Int) ≤ 0 := by decide
    have q2 : (0 : Int) < 2 := by decide
    have HE := Lib.hid e
    clear e
    go_enter Tryz.func130, Tryz.ntmps130
    go_upto_region 1 with (fail)
    rw [HW.out]
    try rw [HCB.out]
    apply meetF (R := fun wx => wx.heap[cb]? = some (.cells #[.int .i64 0, .int .i64 x] 33 (0, 0)) ∧ Below w.heap.size w wx)
    case h =>
      go_region_held3 (fun w' => w'.cell? ⟨pb, 20, none⟩ = some (.int .i64 1) ∧ w'.cell? ⟨pb, 18, none⟩ = some (.pointer (some ⟨a.mb, 0, none⟩)))
        (first | exact ⟨c20, c18⟩ | (constructor <;> (first | exact (World.cell?_setCell_far _ _ _ _ hne).trans c20 | exact (World.cell?_setCell_far _ _ _ _ hne).trans c18)))
        (first
          | (go_at_call 82; (with_reducible refine (GET.out _ ?_).mono ?_); exact drew_below _ _ rfl rfl rfl rfl; rintro e w3 ⟨rfl, k3, rfl⟩))
      all_goals exact ⟨rfl, (two_of (w1 := w1.drewN _) HC.out _).2, below_kept (B1.out.trans (show Below w.heap.size w1 (w1.drewN _) from ⟨rfl, rfl, rfl, Nat.le_refl _, fun _ _ => rfl⟩)) (Kept.setCell _ cb 1 _) (by simp; rw [← HCB.out]; exact Nat.le_refl _) (Nat.le_refl _)⟩
    case k =>
      rintro wx ⟨hx, hb⟩
      have HX := Lib.hid hx
      have BX := Lib.hid hb
      have hl := Lib.hid (And.intro (Array.getElem?_eq_some_iff.1 hx).1 HH.out.lt)
      have H2 := HH.out.below hb
      have d20 : wx.cell? ⟨pb, 20, none⟩ = some (.int .i64 P.me) := H2.at 20
      rw [HE.out] at d20
      have d19 := H2.c19
      have z0 : wx.cell? ⟨cb, 0, none⟩ = some (.int .i64 0) := by simp only [World.cell?, hx]; rfl
      have z1 : wx.cell? ⟨cb, 1, none⟩ = some (.int .i64 x) := by simp only [World.cell?, hx]; rfl
      have fz0 : wx.frozen? ⟨cb, 0, none⟩ = false := by simp only [World.frozen?, hx]; rfl
      have fz1 : wx.frozen? ⟨cb, 1, none⟩ = false := by simp only [World.frozen?, hx]; rfl
      have USE2 := Lib.hid (fun wy (hy : Below wx.heap.size wx wy) => USE.out wy (BX.out.trans (hy.mono BX.out.size)))
      clear hx hb H2
      go_upto_region 2 with (fail)
      apply meetF (R := fun wy => wy.heap[cb]? = some (.cells #[.int .i64 y, .int .i64 x] 33 (0, 0)) ∧ ∀ w3, Kept [cb] wy w3 → PLeft w pb a R w3)
      case h =>
        go_region_held3 (fun w' => w'.cell? ⟨pb, 20, none⟩ = some (.int .i64 1) ∧ w'.cell? ⟨pb, 19, none⟩ = some (.pointer (some ⟨a.ob, 0, none⟩)))
          (first | exact ⟨d20, d19⟩ | exact ⟨e20, e19⟩ | (constructor <;> (first | exact (World.cell?_setCell_far _ _ _ _ hne).trans e20 | exact (World.cell?_setCell_far _ _ _ _ hne).trans e19)))
          (first
            | (go_at_call 155; (with_reducible refine (USE2.out _ ?_).mono ?_); exact drew_below _ _ rfl rfl rfl rfl; rintro e w3 ⟨rfl, hd⟩; have e20 := hd.c 20 (.int .i64 1) (fun _ _ _ => by rw [← HE.out, ← ME.out]; rfl); have e19 := hd.c 19 (.pointer (some ⟨a.ob, 0, none⟩)) (fun a1 _ h5 => by rw [← h5]; rfl)
               have hc3 := hd.keeps (b := cb) HX.out (by rw [← HCB.out]; exact NEW.out)
               have y0 : w3.cell? ⟨cb, 0, none⟩ = some (.int .i64 0) := by simp only [World.cell?, hc3]; rfl
               have y1 : w3.cell? ⟨cb, 1, none⟩ = some (.int .i64 x) := by simp only [World.cell?, hc3]; rfl
               have fy0 : w3.frozen? ⟨cb, 0, none⟩ = false := by simp only [World.frozen?, hc3]; rfl
               have fy1 : w3.frozen? ⟨cb, 1, none⟩ = false := by simp only [World.frozen?, hc3]; rfl))
        all_goals exact ⟨rfl, (two_of hc3 _).1, fun w9 h9 => hd.beside (BX.out.trans ((show Below wx.heap.size wx (wx.drewN _) from ⟨rfl, rfl, rfl, Nat.le_refl _, fun _ _ => rfl⟩).mono BX.out.size)) (by rw [← HCB.out]; exact Nat.le_refl _) hl.out.1 (by rw [← HCB.out]; exact NEW.out) ((Kept.setCell _ cb 0 _).trans h9 (by simp))⟩
      case k =>
        rintro wy ⟨hy, hd⟩
        have v0 : wy.cell? ⟨cb, 0, none⟩ = some (.int .i64 y) := by simp only [World.cell?, hy]; rfl
        have v1 : wy.cell? ⟨cb, 1, none⟩ = some (.int .i64 x) := by simp only [World.cell?, hy]; rfl
        have fv0 : wy.frozen? ⟨cb, 0, none⟩ = false := by simp only [World.frozen?, hy]; rfl
        have fv1 : wy.frozen? ⟨cb, 1, none⟩ = false := by simp only [World.frozen?, hy]; rfl
        have LD := Lib.hid hd
        clear hd
        have r1 := (two_of hy (.int .i64 y)).1
        have r2 := (two_of r1 (.int .i64 x)).2
        have s0 : ((wy.setCell ⟨cb, 0, none⟩ (.int .i64 y)).setCell ⟨cb, 1, none⟩ (.int .i64 x)).cell? ⟨cb, 0, none⟩ = some (.int .i64 y) := by simp only [World.cell?, r2]; rfl
        have s1 : ((wy.setCell ⟨cb, 0, none⟩ (.int .i64 y)).setCell ⟨cb, 1, none⟩ (.int .i64 x)).cell? ⟨cb, 1, none⟩ = some (.int .i64 x) := by simp only [World.cell?, r2]; rfl
        have LE := Lib.hid (LD.out _ ((Kept.setCell wy cb 0 (.int .i64 y)).trans (Kept.setCell _ cb 1 (.int .i64 x)) (by simp)))
        clear r1 r2 hy
        go_wp2_with fail
        exact bodyPost_ret (v := .agg #[.int .i64 y, .int .i64 x]) (by simp [results, Tryz.results130, go_sem, s0, s1]) rfl ⟨rfl, LE.out⟩
end
end

section
open Go.RowKit Go.WideShapes
set_option linter.unusedSimpArgs false
set_option linter.unusedVariables false

theorem info98 : (Tryz.prog.info? 98).map (fun i => (i.zero, i.size, i.bytes)) = some (some (.agg #[.int .i64 0, .int .i64 0, .int .i64 0, .int .i64 0]), 4, 32) := by kernel_rfl

/-- Requests: a kind, a frame, the inputs. -/
structure Rq where
  kind : Int
  frame : Int
  x : Int
  y : Int
def rqCells : List Rq → List Value
  | [] => []
  | r :: l => .int .i64 r.kind :: .int .i64 r.frame :: .int .i64 r.x :: .int .i64 r.y :: rqCells l
theorem rqCells_append (a b : List Rq) : rqCells (a ++ b) = rqCells a ++ rqCells b := by
  induction a with
  | nil => rfl
  | cons x a ih => simp [rqCells, ih]

/-- What a step leaves: a row of requests, and the side. -/
def AdvB (w : World) (pb : Nat) (a : Ptr) (fp : List Nat) (P' : Side) (l : List Rq) (e : Ending) (w' : World) : Prop :=
  ∃ g o cap a', e = .returned (.slice (some ⟨g, o, none⟩) l.length cap) ∧ RowAt w' 98 4 g o cap l.length (rqCells l) ∧ PAt w' pb a' P' ∧ Kept ((a.fps pb).flatten ++ fp) w w' ∧ (∀ x ∈ (a'.fps pb).flatten, x ∈ (a.fps pb).flatten ∨ w.heap.size ≤ x) ∧ a'.mb = a.mb ∧ a'.ob = a.ob ∧ (g ∈ fp ∨ w.heap.size ≤ g) ∧ g ∉ (a'.fps pb).flatten

theorem src_rq (w : World) (f x y : Int) : Src Tryz.prog 4 63 (.slice (some ⟨w.heap.size, 0, none⟩) 2 2) 2 (rqCells [⟨2, f, x, y⟩, ⟨3, f, 0, 0⟩]) (w.alloc (.cells #[.int .i64 2, .int .i64 f, .int .i64 x, .int .i64 y, .int .i64 3, .int .i64 f, .int .i64 0, .int .i64 0] 98)) :=
  Src.ofSlice _ Tryz.underlying63 _ 2 2 _ rfl (fun j u hj => by
    rw [add_plain, World.cell?_alloc_new]
    match j, hj with
    | 0, hj => cases hj; rfl
    | 1, hj => cases hj; rfl
    | 2, hj => cases hj; rfl
    | 3, hj => cases hj; rfl
    | 4, hj => cases hj; rfl
    | 5, hj => cases hj; rfl
    | 6, hj => cases hj; rfl
    | 7, hj => cases hj; rfl
    | j + 8, hj => cases hj) (fun u hu => by simp [rqCells] at hu; rcases hu with rfl | rfl | rfl | rfl | rfl | rfl | rfl <;> rfl)

section
variable {w w0 w1 : World} {pb : Nat} {a : Ptr} {P P1 : Side}

def Side.adv (P : Side) (f : Int) : List Rq := [⟨2, f, (P.bothV f).1, (P.bothV f).2⟩, ⟨3, f, 0, 0⟩]

set_option maxRecDepth 100000 in
set_option maxHeartbeats 6400000 in
theorem advance_any (h : PAt w pb a P) (hm : P.mine.fine) (ho : P.other.fine) (hgn : P.gn < 1000000) (hme : P.me = 0 ∨ P.me = 1) (f : Int) (hf : 0 ≤ f ∧ f ≤ 2000000000)
    (fp : List Nat) (sv : Value) (l : List Rq) (hr : RowN w 98 4 fp sv l.length (rqCells l)) (hl : l.length ≤ 1000000) (hfp : ∀ x ∈ fp, x < w.heap.size ∧ x ∉ (a.fps pb).flatten) :
    Calls Tryz.prog 79 #[.pointer (some ⟨pb, 0, none⟩), sv, .int .i64 f] w (AdvB w pb a fp (P.used f) (l ++ P.adv f)) := by
  have BO := Lib.hid (both_any h hm ho hgn hme f hf)
  unfold Side.adv
  obtain ⟨x, hx⟩ : ∃ x, (P.bothV f).1 = x := ⟨_, rfl⟩
  obtain ⟨y, hy⟩ : ∃ x, (P.bothV f).2 = x := ⟨_, rfl⟩
  rw [hx, hy] at BO ⊢
  obtain ⟨R, hR⟩ : ∃ R, P.used f = R := ⟨_, rfl⟩
  rw [hR] at BO ⊢
  have H := Lib.hid h
  have RR := Lib.hid hr
  have FP := Lib.hid hfp
  have HL := Lib.hid hl
  clear h hm ho hgn hme hx hy hR hr hfp hl
  go_enter Tryz.func79, Tryz.ntmps79
  go_wp2_with fail
  refine BO.out.mono ?_
  rintro e w1 ⟨rfl, hd⟩
  have L1 : Hid (PLeft w pb a R w1) := Lib.hid hd
  clear hd
  obtain ⟨W, hW⟩ : ∃ W, W = w1.alloc (.cells #[.int .i64 2, .int .i64 f, .int .i64 x, .int .i64 y, .int .i64 3, .int .i64 f, .int .i64 0, .int .i64 0] 98) := ⟨_, rfl⟩
  have BW : Below w1.heap.size w1 W := by rw [hW]; exact (Below.refl _ _).alloc (Nat.le_refl _) _
  have SW : Hid (W.heap.size = w1.heap.size + 1) := Lib.hid (by rw [hW]; exact size_alloc1 _ _)
  have ROW : Hid (RowN W 98 4 fp sv l.length (rqCells l)) := Lib.hid (by
    obtain ⟨a1, h1, h2, h3, h4, h5⟩ := L1.out
    exact (RR.out.kept h2 (fun x hx => (FP.out x hx).2)).kept (Kept.of_below (fp := []) BW) (by simp))
  have sp := src_rq w1 f x y
  rw [← hW] at sp
  have HW := Lib.hid hW
  have FIN : Hid (∀ w2 g1 o1 cap1, RowAt w2 98 4 g1 o1 cap1 (l.length + 2) (rqCells l ++ rqCells [⟨2, f, x, y⟩, ⟨3, f, 0, 0⟩]) → Kept fp W w2 → (g1 ∈ fp ∨ g1 = W.heap.size) → AdvB w pb a fp R (l ++ [⟨2, f, x, y⟩, ⟨3, f, 0, 0⟩]) (.returned (.slice (some ⟨g1, o1, none⟩) (l.length + 2) cap1)) w2) := Lib.hid (fun w2 g1 o1 cap1 hr hk hg => by
    obtain ⟨a1, h1, h2, h3, h4, h5⟩ := L1.out
    have hd : ∀ x ∈ (a1.fps pb).flatten, x ∉ fp := fun x hx hf => by
      rcases h3 x hx with h | h
      · exact (FP.out x hf).2 h
      · have := (FP.out x hf).1; omega
    have hlen : (l ++ [(⟨2, f, x, y⟩ : Rq), ⟨3, f, 0, 0⟩]).length = l.length + 2 := by simp
    have s1 := h2.size
    refine ⟨g1, o1, cap1, a1, by rw [hlen], by rw [hlen, rqCells_append]; exact hr, (h1.below BW).kept hk (fun l' hl' x hx => hd x (List.mem_flatten.2 ⟨l', hl', hx⟩)), ?_, h3, h4, h5, ?_, ?_⟩
    · exact (((h2.mono (fp' := (a.fps pb).flatten ++ fp) (fun x hx => .inl (by simp [hx]))).trans (Kept.of_below (fp := []) BW) (by simp)).trans hk (fun x hx => .inl (by simp [hx])))
    · rcases hg with hg | hg
      · exact .inl hg
      · rw [SW.out] at hg; exact .inr (by omega)
    · intro hm
      rcases hg with hg | hg
      · exact hd g1 hm hg
      · rw [SW.out] at hg
        obtain ⟨l', hl', hx⟩ := List.mem_flatten.1 hm
        have := h1.small l' hl' g1 hx
        omega)
  clear BW hW
  go_wp2_with (first
    | (at_builtin; (try rw [← HW.out]); refine wpList_append_rown rfl _ _ 63 63 rfl 98 (.agg #[.int .i64 0, .int .i64 0, .int .i64 0, .int .i64 0]) 4 32 Tryz.underlying63 info98 rfl l.length (rqCells l) rfl ROW.out _ rfl 2 _ sp (by omega) (by have := HL.out; simp [maxLen]; omega) (by have := HL.out; omega) ?_; intro g1 o1 cap1 w2 hr1 hk1 hg1)
    | fail)
  go_ret
  exact FIN.out w2 g1 o1 cap1 hr1 hk1 hg1
end
end

section
open Go.RowKit Go.WideShapes
set_option linter.unusedSimpArgs false
set_option linter.unusedVariables false
attribute [local go_sem] max2_int min2_int max_two min_two

/-- What nobody asks for any more is forgotten. -/
def Side.forget (P : Side) : Side :=
  { P with other := P.other.fgt P.confirmed, mine := P.mine.fgt (if P.phase = 2 then mn P.confirmed P.acked else P.confirmed) }
theorem mn_le (x y : Int) : mn x y ≤ x ∧ mn x y ≤ y := by unfold mn; split <;> omega
theorem confirmed_le (P : Side) : P.confirmed ≤ P.frame := by
  unfold Side.confirmed
  have a1 := mn_le P.frame P.other.last
  have a2 := mn_le P.frame (P.other.wrong - 1)
  have a3 := mn_le (mn P.frame P.other.last) (P.other.wrong - 1)
  (repeat' split) <;> omega

section
variable {w w0 w1 : World} {pb : Nat} {a : Ptr} {P P1 : Side}

theorem PLeft.oforget (h : PLeft w pb a P1 w1) (ho : P1.other.ok) (f : Int) (hf : f ≤ 9223372036854775807) : Calls Tryz.prog 132 #[.pointer (some ⟨a.ob, 0, none⟩), .int .i64 f] w1 (fun e w2 => e = .returned (.tuple #[]) ∧ PLeft w pb a { P1 with other := P1.other.fgt f } w2) :=
  h.step (fun a1 h1 _ h5 _ => by rw [← h5]; exact oforget_any h1 ho f hf)
theorem PLeft.mforget (h : PLeft w pb a P1 w1) (ho : P1.mine.ok) (f : Int) (hf : f ≤ 9223372036854775807) : Calls Tryz.prog 132 #[.pointer (some ⟨a.mb, 0, none⟩), .int .i64 f] w1 (fun e w2 => e = .returned (.tuple #[]) ∧ PLeft w pb a { P1 with mine := P1.mine.fgt f } w2) :=
  h.step (fun a1 h1 h4 _ _ => by rw [← h4]; exact mforget_any h1 ho f hf)
theorem PLeft.mput (h : PLeft w pb a P1 w1) (ho : P1.mine.ok) (f x : Int) (he : P1.mine.err f x = none) : Calls Tryz.prog 78 #[.pointer (some ⟨a.mb, 0, none⟩), .int .i64 f, .int .i64 x] w1 (fun e w2 => e = .returned .nilIface ∧ PLeft w pb a { P1 with mine := P1.mine.put f x } w2) :=
  h.step (fun a1 h1 h4 _ _ => by rw [← h4]; exact mput_any h1 ho f x he)

theorem again_none (h : PAt w pb a P) (hw : P.other.wrong = 0) : Calls Tryz.prog 80 #[.pointer (some ⟨pb, 0, none⟩)] w (fun e w' => e = .returned (.slice none 0 0) ∧ w = w') := by
  have c19 := h.c19
  have OW := owrong_any h
  rw [hw] at OW
  have W := Lib.hid OW
  clear h hw OW
  go_enter Tryz.func80, Tryz.ntmps80
  go_wp2_with fail
  refine W.out.mono ?_
  rintro e w1 ⟨rfl, rfl⟩
  go_wp2_with fail
  go_ret
  exact ⟨rfl, rfl⟩

set_option maxRecDepth 100000 in
set_option maxHeartbeats 3200000 in
theorem forget_any (h : PAt w pb a P) (hm : P.mine.fine) (ho : P.other.fine) (hw : 0 ≤ P.other.wrong ∧ P.other.wrong ≤ 4000000000) (hfr : P.frame ≤ 4000000000) : Calls Tryz.prog 81 #[.pointer (some ⟨pb, 0, none⟩)] w (PDone w pb a P.forget (.tuple #[])) := by
  have CO := Lib.hid (confirmed_any h ho.1 hw.2 hw.1)
  have hn : P.confirmed ≤ 9223372036854775807 := by have := confirmed_le P; omega
  have L0 := Lib.hid (PLeft.refl h)
  obtain ⟨R, hR⟩ : ∃ R, P.forget = R := ⟨_, rfl⟩
  rw [hR]
  unfold Side.forget at hR
  obtain ⟨n, hcn⟩ : ∃ n, P.confirmed = n := ⟨_, rfl⟩
  rw [hcn] at CO hR hn
  have OF := Lib.hid (fun k => (L0.out.drewN k).oforget ho.1 n hn)
  have MF := Lib.hid (fun (m : Int) (hmm : m ≤ 9223372036854775807) w2 (L : PLeft w pb a { P with other := P.other.fgt n } w2) => L.mforget hm.1 m hmm)
  clear h hm ho hw hfr hcn
  by_cases p2 : P.phase = 2
  · rw [if_pos p2] at hR
    unfold mn at hR
    obtain ⟨m, hm⟩ : ∃ m, (if P.acked < n then P.acked else n) = m := ⟨_, rfl⟩
    have hmn : m ≤ 9223372036854775807 := by rw [← hm]; split <;> omega
    rw [hm] at hR
    have HR := Lib.hid hR
    have HP := Lib.hid p2
    have HM := Lib.hid hmn
    clear hR p2 hmn
    go_enter Tryz.func81, Tryz.ntmps81
    go_wp2_with fail
    refine CO.out.mono ?_
    rintro e w1 ⟨rfl, k, rfl⟩
    have c19 := (L0.out.drewN k).c 19 (.pointer (some ⟨a.ob, 0, none⟩)) (fun a1 _ h5 => by rw [← h5]; rfl)
    go_wp2_with fail
    refine (OF.out k).mono ?_
    rintro e w2 ⟨rfl, hd⟩
    have L2 := Lib.hid hd
    clear hd
    have c14 := L2.out.c 14 (.int .i64 2) (fun _ _ _ => by rw [← HP.out]; rfl)
    have c24 := L2.out.c 24 (.int .i64 P.acked) (fun _ _ _ => rfl)
    have c18 := L2.out.c 18 (.pointer (some ⟨a.mb, 0, none⟩)) (fun a1 h4 _ => by rw [← h4]; rfl)
    go_wp2_with fail
    all_goals refine (MF.out _ (by first | exact HM.out | omega) _ L2.out).mono ?_
    all_goals rintro e w3 ⟨rfl, hd⟩
    all_goals have L3 := Lib.hid hd
    all_goals clear hd
    all_goals go_wp2_with fail
    all_goals go_end0
    all_goals rw [← HR.out]
    all_goals exact ⟨rfl, L3.out⟩
  · rw [if_neg p2] at hR
    have HR := Lib.hid hR
    have t2 : (P.phase == 2) = false := by simpa using p2
    have HN := Lib.hid hn
    clear hR p2 hn
    go_enter Tryz.func81, Tryz.ntmps81
    go_wp2_with fail
    refine CO.out.mono ?_
    rintro e w1 ⟨rfl, k, rfl⟩
    have c19 := (L0.out.drewN k).c 19 (.pointer (some ⟨a.ob, 0, none⟩)) (fun a1 _ h5 => by rw [← h5]; rfl)
    go_wp2_with fail
    refine (OF.out k).mono ?_
    rintro e w2 ⟨rfl, hd⟩
    have L2 := Lib.hid hd
    clear hd
    have c14 := L2.out.c 14 (.int .i64 P.phase) (fun _ _ _ => rfl)
    have c18 := L2.out.c 18 (.pointer (some ⟨a.mb, 0, none⟩)) (fun a1 h4 _ => by rw [← h4]; rfl)
    go_wp2_with fail
    refine (MF.out n HN.out _ L2.out).mono ?_
    rintro e w3 ⟨rfl, hd⟩
    have L3 := Lib.hid hd
    clear hd
    go_wp2_with fail
    go_end0
    rw [← HR.out]
    exact ⟨rfl, L3.out⟩

/-- What a row of calls on a side leaves beside a row of requests. -/
def PRow (w : World) (pb : Nat) (a : Ptr) (P' : Side) (g o cap : Nat) (l : List Rq) (w' : World) : Prop :=
  ∃ a', PAt w' pb a' P' ∧ Kept (a.fps pb).flatten w w' ∧ (∀ x ∈ (a'.fps pb).flatten, x ∈ (a.fps pb).flatten ∨ w.heap.size ≤ x) ∧ a'.mb = a.mb ∧ a'.ob = a.ob ∧ g ∉ (a'.fps pb).flatten ∧ w.heap.size ≤ g ∧ RowAt w' 98 4 g o cap l.length (rqCells l)
theorem PRow.left {g o cap : Nat} {l : List Rq} (h : PRow w pb a P g o cap l w1) : PLeft w pb a P w1 := by
  obtain ⟨a1, h1, h2, h3, h4, h5, _⟩ := h
  exact ⟨a1, h1, h2, h3, h4, h5⟩
theorem PRow.step {P2 : Side} {g o cap : Nat} {l : List Rq} {f : FuncId} {args : Array Value} {v : Value} (h : PRow w pb a P1 g o cap l w1) (hc : ∀ a1, PAt w1 pb a1 P1 → a1.mb = a.mb → a1.ob = a.ob → (∀ w0, Far w0 w pb a → Far w0 w1 pb a1) → Calls Tryz.prog f args w1 (PDone w1 pb a1 P2 v)) :
    Calls Tryz.prog f args w1 fun e w2 => e = .returned v ∧ PRow w pb a P2 g o cap l w2 := by
  obtain ⟨a1, h1, h2, h3, h4, h5, h6, h7, h8⟩ := h
  have s := h2.size
  have hlt := h8.lt
  refine (hc a1 h1 h4 h5 (fun w0 hf => hf.left h2 h3)).mono ?_
  rintro e w2 ⟨rfl, a2, k1, k2, k3, k4, k5⟩
  refine ⟨rfl, a2, k1, h2.trans k2 h3, fun x hx => ?_, k4.trans h4, k5.trans h5, fun hm => ?_, h7, h8.kept k2 h6⟩
  · rcases k3 x hx with h | h
    · exact h3 x h
    · exact .inr (by omega)
  · rcases k3 g hm with h | h
    · exact h6 h
    · omega
theorem PRow.set {g o cap : Nat} {l : List Rq} (h : PRow w pb a P g o cap l w1) (i : Nat) (v : Value) {P' : Side} (hc : ∀ a1, (P.cells a1).setIfInBounds i v = P'.cells a1) (hm : P'.mine = P.mine) (ho : P'.other = P.other) (h1 : P'.out = P.out) (h2 : P'.ev = P.ev) (h3 : P'.own = P.own) (h4 : P'.ownV = P.ownV) (h5 : P'.their = P.their) (h6 : P'.theirV = P.theirV) (h7 : P'.gn = P.gn) (h8 : P'.on = P.on) (h9 : P'.tn = P.tn) : PRow w pb a P' g o cap l (w1.setCell ⟨pb, i, none⟩ v) := by
  obtain ⟨a1, k1, k2, k3, k4, k5, k6, k7, k8⟩ := h
  refine ⟨a1, k1.setCell i v (hc a1) hm ho h1 h2 h3 h4 h5 h6 h7 h8 h9, k2.trans (Kept.setCell w1 pb i v) (fun x hx => ?_), k3, k4, k5, k6, k7, k8.kept (Kept.setCell w1 pb i v) (by simp; rintro rfl; exact k6 (pb_mem _ _))⟩
  simp at hx
  subst hx
  exact k3 _ (pb_mem _ _)

theorem PRow.start {P2 : Side} {l : List Rq} {a1 : Ptr} {e : Ending} {w2 : World} (k2 : Kept (a.fps pb).flatten w w1) (k3 : ∀ x ∈ (a1.fps pb).flatten, x ∈ (a.fps pb).flatten ∨ w.heap.size ≤ x) (k4 : a1.mb = a.mb) (k5 : a1.ob = a.ob) (hA : AdvB w1 pb a1 [] P2 l e w2) : ∃ g o cap, e = .returned (.slice (some ⟨g, o, none⟩) l.length cap) ∧ PRow w pb a P2 g o cap l w2 := by
  obtain ⟨g, o, cap, a2, rfl, h1, h2, h3, h4, h5, h6, h7, h8⟩ := hA
  have s := k2.size
  refine ⟨g, o, cap, rfl, a2, h2, k2.trans h3 (fun x hx => by rw [List.append_nil] at hx; exact k3 x hx), fun x hx => ?_, h5.trans k4, h6.trans k5, h8, ?_, h1⟩
  · rcases h4 x hx with h | h
    · exact k3 x h
    · exact .inr (by omega)
  · rcases h7 with h | h
    · cases h
    · omega
theorem put_fine {q : Que} (h : q.fine) {f x : Int} (he : q.err f x = none) : (q.put f x).fine := by
  obtain ⟨⟨h1, h2, h3⟩, h4⟩ := h
  unfold Que.err at he
  split at he <;> try cases he
  split at he <;> try cases he
  split at he <;> try cases he
  split at he <;> try cases he
  split at he <;> try cases he
  rename_i hx hc hf1 hf2 hf3
  unfold Que.last at hf1 hf2
  refine ⟨⟨h1, ?_, ?_⟩, fun y hy => ?_⟩
  · show q.first + ((q.xs ++ [x]).length : Int) ≤ _
    rw [List.length_append]
    simp
    omega
  · show (q.xs ++ [x]).length ≤ _
    rw [List.length_append]
    simp
    omega
  · have hy' : y ∈ q.xs ++ [x] := hy
    rcases List.mem_append.1 hy' with h | h
    · exact h4 y h
    · simp at h; omega
theorem use_fine {q : Que} (h : q.fine) (f : Int) : (q.use f).fine ∧ (q.use f).wrong = q.wrong ∧ (q.use f).last = q.last := by
  unfold Que.use
  split <;> exact ⟨h, rfl, rfl⟩
theorem send_keep (P : Side) (p : Par) : (P.send p).mine = P.mine ∧ (P.send p).other = P.other ∧ (P.send p).frame = P.frame ∧ (P.send p).phase = P.phase := by
  unfold Side.send
  split <;> exact ⟨rfl, rfl, rfl, rfl⟩
theorem inputs_keep (P : Side) : P.sendInputs.mine = P.mine ∧ P.sendInputs.other = P.other ∧ P.sendInputs.frame = P.frame ∧ P.sendInputs.phase = P.phase := by
  unfold Side.sendInputs
  split
  · exact ⟨rfl, rfl, rfl, rfl⟩
  · exact send_keep _ _

/-- A play, where no guess was wrong. -/
def Side.play (P : Side) (x : Int) : Side :=
  (if P.phase = 2 then ({ ({ P with mine := P.mine.put (P.frame + 1 + P.o.delay) x } : Side).used (P.frame + 1) with frame := P.frame + 1 } : Side).sendInputs else ({ ({ P with mine := P.mine.put (P.frame + 1 + P.o.delay) x } : Side).used (P.frame + 1) with frame := P.frame + 1 } : Side)).forget
def Side.playR (P : Side) (x : Int) : List Rq := ({ P with mine := P.mine.put (P.frame + 1 + P.o.delay) x } : Side).adv (P.frame + 1)

set_option maxRecDepth 100000 in
set_option maxHeartbeats 6400000 in
theorem play_any {A : Nat → Addr} (h : PAt w pb a P) (hf : Far w0 w pb a) (hG : s_Glob w0 A) (hs : P.small) (hph : P.phase = 2 ∨ P.phase = 3) (x : Int) (hx : 0 ≤ x ∧ x ≤ 255) (hroom : P.phase = 2 → P.frame + 1 - P.other.last ≤ P.o.window) (hput : P.mine.err (P.frame + 1 + P.o.delay) x = none) (hw : P.other.wrong = 0)
    (hfr : 0 ≤ P.frame ∧ P.frame ≤ 1000000000) (hgn : P.gn < 1000000) (hme : P.me = 0 ∨ P.me = 1) (hdl : 0 ≤ P.o.delay ∧ P.o.delay ≤ 6) :
    Calls Tryz.prog 26 #[.pointer (some ⟨pb, 0, none⟩), .int .i64 x] w (fun e w' => ∃ g o cap, e = .returned (.tuple #[.slice (some ⟨g, o, none⟩) 2 cap, .nilIface]) ∧ PRow w pb a (P.play x) g o cap (P.playR x) w') := by
  have L0 := Lib.hid (PLeft.refl h)
  have H := Lib.hid h
  have FF := Lib.hid hf
  have GG := Lib.hid hG
  have HS := Lib.hid hs
  have c14 : w.cell? ⟨pb, 14, none⟩ = some (.int .i64 P.phase) := h.at 14
  have c15 : w.cell? ⟨pb, 15, none⟩ = some (.int .i64 P.frame) := h.at 15
  have c8 : w.cell? ⟨pb, 8, none⟩ = some (.int .i64 P.o.window) := h.at 8
  have c9 : w.cell? ⟨pb, 9, none⟩ = some (.int .i64 P.o.delay) := h.at 9
  have c18 := h.c18
  have c19 := h.c19
  have WI := Lib.hid (fun w => pwithin_any x 0 255 w)
  have hol := hs.other.last
  have OL := Lib.hid (fun k => L0.out.olast hs.other.1 k)
  have PF := Lib.hid (put_fine hs.mine hput)
  have UF := Lib.hid (use_fine hs.other (P.frame + 1))
  have PUT := Lib.hid (fun wx (hb : Below w.heap.size w wx) => (L0.out.below hb).mput hs.mine.1 _ x hput)
  obtain ⟨P1, hP1⟩ : ∃ P1 : Side, { P with mine := P.mine.put (P.frame + 1 + P.o.delay) x } = P1 := ⟨_, rfl⟩
  have E1 : Hid ((P1.phase = P.phase ∧ P1.frame = P.frame ∧ P1.other = P.other ∧ P1.gn = P.gn ∧ P1.me = P.me ∧ P1.out = P.out ∧ P1.acked = P.acked) ∧ P1.mine.fine) := Lib.hid (by subst hP1; exact ⟨⟨rfl, rfl, rfl, rfl, rfl, rfl, rfl⟩, PF.out⟩)
  obtain ⟨RQ, hRQ⟩ : ∃ RQ, P.playR x = RQ := ⟨_, rfl⟩
  obtain ⟨R, hR⟩ : ∃ R, P.play x = R := ⟨_, rfl⟩
  rw [hRQ, hR]
  unfold Side.playR at hRQ
  unfold Side.play at hR
  rw [hP1] at hRQ hR PUT
  have HR := Lib.hid hR
  have HRQ := Lib.hid hRQ
  have HLQ : Hid (RQ.length = 2) := Lib.hid (by rw [← hRQ]; rfl)
  have FR := Lib.hid (And.intro hfr (And.intro hgn hme))
  have HW := Lib.hid hw
  have e1 : IntKind.i64.wrap (P.frame + 1) = P.frame + 1 := IntWalk.i64_in _ (by omega)
  have e2 : IntKind.i64.wrap (P.frame + 1 - P.other.last) = P.frame + 1 - P.other.last := IntWalk.i64_in _ (by omega)
  have e3 : IntKind.i64.wrap (P.frame + 1 + P.o.delay) = P.frame + 1 + P.o.delay := IntWalk.i64_in _ (by omega)
  have q1 : decide (0 ≤ x) = true := by simpa using hx.1
  have q2 : decide (x ≤ 255) = true := by simpa using hx.2
  have ADV := Lib.hid (fun w2 a2 (h2 : PAt w2 pb a2 P1) => advance_any h2 E1.out.2 (by rw [E1.out.1.2.2.1]; exact HS.out.other) (by rw [E1.out.1.2.2.2.1]; exact FR.out.2.1) (by rw [E1.out.1.2.2.2.2.1]; exact FR.out.2.2) (P.frame + 1) (by have := FR.out.1; omega) [] (.slice none 0 0) [] (.inl ⟨rfl, rfl, rfl⟩) (by simp) (by simp))
  have AG := Lib.hid (fun w2 a2 (h2 : PAt w2 pb a2 P1) => again_none h2 (by rw [E1.out.1.2.2.1]; exact HW.out))
  rcases hph with p2 | p2
  · rw [p2] at c14
    have q3 : decide (P.o.window < P.frame + 1 - P.other.last) = false := by have := hroom p2; simp; omega
    have HP := Lib.hid p2
    clear p2 hroom hw hs hfr hgn hme hdl hx hput hol hP1 hR hRQ h hf hG
    go_enter Tryz.func26, Tryz.ntmps26
    go_wp2_with fail
    refine (WI.out _).mono ?_
    rintro e w1 ⟨rfl, rfl⟩
    go_wp2_with fail
    go_quiet ((go_at_call 51; exact Calls.quiet_of (OL.out _)))
    go_wp2_with fail
    have v18 : (w.drewN nq).cell? ⟨pb, 18, none⟩ = some (.pointer (some ⟨a.mb, 0, none⟩)) := c18
    have v9 : (w.drewN nq).cell? ⟨pb, 9, none⟩ = some (.int .i64 P.o.delay) := c9
    have BV : Below w.heap.size w (w.drewN nq) := ⟨rfl, rfl, rfl, Nat.le_refl _, fun _ _ => rfl⟩
    generalize w.drewN nq = wv at v18 v9 BV ⊢
    have BVH := Lib.hid BV
    clear BV c18 c9
    go_still_tail 12, (by kernel_rfl)
    go_wp2_with fail
    refine (PUT.out _ (by exact BVH.out.trans ((drew_below wv wv.drew rfl rfl rfl rfl).mono BVH.out.size))).mono ?_
    rintro e w1 ⟨rfl, hd⟩
    obtain ⟨a1, h1, k2, k3, k4, k5⟩ := hd
    have H1 := Lib.hid h1
    have KK := Lib.hid (And.intro k2 (And.intro k3 (And.intro k4 k5)))
    clear h1 k2 k3 k4 k5
    go_wp2_with fail
    refine (AG.out _ _ H1.out).mono ?_
    rintro e w2 ⟨rfl, rfl⟩
    go_wp2_with fail
    refine (ADV.out _ _ H1.out).mono ?_
    rintro e w2 hA
    obtain ⟨g, o, cap, rfl, hp⟩ := PRow.start KK.out.1 KK.out.2.1 KK.out.2.2.1 KK.out.2.2.2 hA
    have R2 : Hid (PRow w pb a (P1.used (P.frame + 1)) g o cap RQ w2) := Lib.hid (by rw [← HRQ.out]; exact hp)
    clear hp hA
    have f15 := R2.out.left.f 15
    have d15 := R2.out.left.c 15 (.int .i64 P.frame) (fun _ _ _ => by rw [← E1.out.1.2.1]; rfl)
    have R3 := Lib.hid (R2.out.set 15 (.int .i64 (P.frame + 1)) (P' := { P1.used (P.frame + 1) with frame := P.frame + 1 }) (fun _ => rfl) rfl rfl rfl rfl rfl rfl rfl rfl rfl rfl rfl)
    have d14 := R3.out.left.c 14 (.int .i64 2) (fun _ _ _ => by rw [← HP.out, ← E1.out.1.1]; rfl)
    go_wp2_with fail
    refine (R3.out.step (fun a2 h2 _ _ hfar => sendInputs_any h2 (hfar w0 FF.out) GG.out (by show P1.out.length ≤ _; rw [E1.out.1.2.2.2.2.2.1]; exact HS.out.out) E1.out.2 (by show (P1.other.use _).fine; rw [E1.out.1.2.2.1]; exact UF.out.1) (by show 0 ≤ P1.acked ∧ P1.acked ≤ _; rw [E1.out.1.2.2.2.2.2.2]; exact HS.out.acked))).mono ?_
    rintro e w3 ⟨rfl, hp⟩
    have R4 := Lib.hid hp
    clear hp
    go_wp2_with fail
    refine (R4.out.step (fun a2 h2 _ _ _ => forget_any h2 (by rw [(inputs_keep _).1]; exact E1.out.2) (by rw [(inputs_keep _).2.1]; show (P1.other.use _).fine; rw [E1.out.1.2.2.1]; exact UF.out.1) (by rw [(inputs_keep _).2.1]; show 0 ≤ (P1.other.use (P.frame + 1)).wrong ∧ (P1.other.use (P.frame + 1)).wrong ≤ 4000000000; rw [E1.out.1.2.2.1, UF.out.2.1, HW.out]; omega) (by rw [(inputs_keep _).2.2.1]; show P.frame + 1 ≤ _; have := FR.out.1; omega))).mono ?_
    rintro e w4 ⟨rfl, hp⟩
    have R5 := Lib.hid hp
    clear hp
    go_wp2_with fail
    go_ret2
    refine ⟨g, o, cap, rfl, ?_⟩
    rw [← HR.out, if_pos HP.out]
    exact R5.out
  · rw [p2] at c14
    have HP := Lib.hid p2
    clear p2 hroom hw hs hfr hgn hme hdl hx hput hol hP1 hR hRQ h hf hG
    go_enter Tryz.func26, Tryz.ntmps26
    go_wp2_with fail
    refine (WI.out _).mono ?_
    rintro e w1 ⟨rfl, rfl⟩
    go_wp2_with fail
    go_quiet (fail)
    go_wp2_with fail
    have v18 : (w.drewN nq).cell? ⟨pb, 18, none⟩ = some (.pointer (some ⟨a.mb, 0, none⟩)) := c18
    have v9 : (w.drewN nq).cell? ⟨pb, 9, none⟩ = some (.int .i64 P.o.delay) := c9
    have BV : Below w.heap.size w (w.drewN nq) := ⟨rfl, rfl, rfl, Nat.le_refl _, fun _ _ => rfl⟩
    generalize w.drewN nq = wv at v18 v9 BV ⊢
    have BVH := Lib.hid BV
    clear BV c18 c9
    go_still_tail 12, (by kernel_rfl)
    go_wp2_with fail
    refine (PUT.out _ (by exact BVH.out.trans ((drew_below wv wv.drew rfl rfl rfl rfl).mono BVH.out.size))).mono ?_
    rintro e w1 ⟨rfl, hd⟩
    obtain ⟨a1, h1, k2, k3, k4, k5⟩ := hd
    have H1 := Lib.hid h1
    have KK := Lib.hid (And.intro k2 (And.intro k3 (And.intro k4 k5)))
    clear h1 k2 k3 k4 k5
    go_wp2_with fail
    refine (AG.out _ _ H1.out).mono ?_
    rintro e w2 ⟨rfl, rfl⟩
    go_wp2_with fail
    refine (ADV.out _ _ H1.out).mono ?_
    rintro e w2 hA
    obtain ⟨g, o, cap, rfl, hp⟩ := PRow.start KK.out.1 KK.out.2.1 KK.out.2.2.1 KK.out.2.2.2 hA
    have R2 : Hid (PRow w pb a (P1.used (P.frame + 1)) g o cap RQ w2) := Lib.hid (by rw [← HRQ.out]; exact hp)
    clear hp hA
    have f15 := R2.out.left.f 15
    have d15 := R2.out.left.c 15 (.int .i64 P.frame) (fun _ _ _ => by rw [← E1.out.1.2.1]; rfl)
    have R3 := Lib.hid (R2.out.set 15 (.int .i64 (P.frame + 1)) (P' := { P1.used (P.frame + 1) with frame := P.frame + 1 }) (fun _ => rfl) rfl rfl rfl rfl rfl rfl rfl rfl rfl rfl rfl)
    have d14 := R3.out.left.c 14 (.int .i64 3) (fun _ _ _ => by rw [← HP.out, ← E1.out.1.1]; rfl)
    go_wp2_with fail
    refine (R3.out.step (fun a2 h2 _ _ _ => forget_any h2 E1.out.2 (by show (P1.other.use _).fine; rw [E1.out.1.2.2.1]; exact UF.out.1) (by show 0 ≤ (P1.other.use (P.frame + 1)).wrong ∧ (P1.other.use (P.frame + 1)).wrong ≤ 4000000000; rw [E1.out.1.2.2.1, UF.out.2.1, HW.out]; omega) (by show P.frame + 1 ≤ _; have := FR.out.1; omega))).mono ?_
    rintro e w4 ⟨rfl, hp⟩
    have R5 := Lib.hid hp
    clear hp
    go_wp2_with fail
    go_ret2
    refine ⟨g, o, cap, rfl, ?_⟩
    rw [← HR.out, if_neg (by rw [HP.out]; decide)]
    exact R5.out
end
end

end Go.Proofs.YtpidjmgapiekaaaGreatDoor
