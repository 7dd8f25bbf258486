/- This text holds the two queues side by side, over the loaded program: what each call does to the pair. -/
import Derived.Test.YtkpbjahjiajodaaDoorQX1
namespace Go.Proofs.YtkpbjahjiajodaaDoor
open Go.RowKit Go.WideShapes
set_option linter.unusedSimpArgs false

/-- The program's queue holds q1, the reference's q2 with the guesses G; both are the call's own. -/
def XC2 (w0 : World) (qb m rb N : Nat) (q1 q2 : Que) (G : List (Int × Int)) (w : World) : Prop :=
  ∃ g o cap fp sv gv, QAt w qb m g o cap N q1 ∧ RqAt w rb fp sv gv q2 G ∧ Below w0.heap.size w0 w ∧ (w0.heap.size ≤ qb ∧ w0.heap.size ≤ m ∧ w0.heap.size ≤ g ∧ w0.heap.size ≤ rb ∧ ∀ x ∈ fp, w0.heap.size ≤ x) ∧ ∀ x ∈ rb :: fp, x ≠ qb ∧ x ≠ m ∧ x ≠ g

section
variable {w0 w w' : World} {qb m rb N : Nat} {q1 q2 : Que} {G : List (Int × Int)} {A : Nat → Addr}

theorem XC2.out (h : XC2 w0 qb m rb N q1 q2 G w) : Below w0.heap.size w0 w := by obtain ⟨_, _, _, _, _, _, _, _, h, _⟩ := h; exact h
theorem XC2.rlt (h : XC2 w0 qb m rb N q1 q2 G w) : rb < w.heap.size := by obtain ⟨_, _, _, _, _, _, _, h, _⟩ := h; exact h.lt
theorem XC2.below (h : XC2 w0 qb m rb N q1 q2 G w) (hb : Below w.heap.size w w') : XC2 w0 qb m rb N q1 q2 G w' := by
  obtain ⟨g, o, cap, fp, sv, gv, h1, h2, h3, h4, h5⟩ := h
  exact ⟨g, o, cap, fp, sv, gv, h1.below hb, h2.below hb, h3.trans (hb.mono h3.size), h4, h5⟩
theorem XC2.drewN (h : XC2 w0 qb m rb N q1 q2 G w) (k : Nat) : XC2 w0 qb m rb N q1 q2 G (w.drewN k) := h.below ⟨rfl, rfl, rfl, Nat.le_refl _, fun _ _ => rfl⟩
theorem XC2.mono {N' : Nat} (h : XC2 w0 qb m rb N q1 q2 G w) (hN : N ≤ N') : XC2 w0 qb m rb N' q1 q2 G w := by
  obtain ⟨g, o, cap, fp, sv, gv, h1, h2⟩ := h
  exact ⟨g, o, cap, fp, sv, gv, h1.mono hN, h2⟩
theorem XC2.prog {N' g o cap : Nat} {fp : List Nat} {sv gv : Value} {q1' : Que} (h1 : QAt w qb m g o cap N q1) (h2 : RqAt w rb fp sv gv q2 G) (h3 : Below w0.heap.size w0 w) (h4 : w0.heap.size ≤ qb ∧ w0.heap.size ≤ m ∧ w0.heap.size ≤ g ∧ w0.heap.size ≤ rb ∧ ∀ x ∈ fp, w0.heap.size ≤ x) (h5 : ∀ x ∈ rb :: fp, x ≠ qb ∧ x ≠ m ∧ x ≠ g)
    {g' o' cap' : Nat} (h : QAt w' qb m g' o' cap' N' q1') (hk : Kept [qb, m, g] w w') (hg : g' = g ∨ w.heap.size ≤ g') : XC2 w0 qb m rb N' q1' q2 G w' := by
  have hs := h3.size
  refine ⟨g', o', cap', fp, sv, gv, h, h2.kept hk ?_ (fun x hx => ?_), below_kept h3 hk (fun x hx => ?_) (Nat.le_refl _), ⟨h4.1, h4.2.1, ?_, h4.2.2.2⟩, fun x hx => ?_⟩
  · have := h5 rb (by simp)
    simpa using this
  · have := h5 x (by simp [hx])
    simpa using this
  · simp at hx
    rcases hx with rfl | rfl | rfl
    · exact h4.1
    · exact h4.2.1
    · exact h4.2.2.1
  · rcases hg with rfl | hg
    · exact h4.2.2.1
    · omega
  · have hd := h5 x hx
    refine ⟨hd.1, hd.2.1, ?_⟩
    rcases hg with rfl | hg
    · exact hd.2.2
    · have : x < w.heap.size := by
        simp at hx
        rcases hx with rfl | hx
        · exact h2.lt
        · exact h2.small x hx
      omega
theorem XC2.ref {q2' : Que} {G' : List (Int × Int)} {fp : List Nat} {g o cap : Nat} {v : Value} {e : Ending} (h1 : QAt w qb m g o cap N q1) (hl : rb < w.heap.size) (h3 : Below w0.heap.size w0 w) (h4 : w0.heap.size ≤ qb ∧ w0.heap.size ≤ m ∧ w0.heap.size ≤ g ∧ w0.heap.size ≤ rb ∧ ∀ x ∈ fp, w0.heap.size ≤ x) (h5 : ∀ x ∈ rb :: fp, x ≠ qb ∧ x ≠ m ∧ x ≠ g)
    (hd : RqDone w rb fp q2' G' v e w') : e = .returned v ∧ XC2 w0 qb m rb N q1 q2' G' w' ∧ Kept [rb] w w' := by
  obtain ⟨he, fp', sv', gv', hr, hk, hf⟩ := hd
  have hs := h3.size
  have h5r := h5 rb (by simp)
  have hm := h1.map.lt
  have hg := h1.row.lt
  have hq := h1.lt
  refine ⟨he, ⟨g, o, cap, fp', sv', gv', h1.kept hk (by simp; exact fun e => h5r.1 e.symm) (by simp; exact fun e => h5r.2.1 e.symm) (by simp; exact fun e => h5r.2.2 e.symm), hr, below_kept h3 hk (fun x hx => by simp at hx; subst hx; exact h4.2.2.2.1) (Nat.le_refl _), ⟨h4.1, h4.2.1, h4.2.2.1, h4.2.2.2.1, fun x hx => ?_⟩, fun x hx => ?_⟩, hk⟩
  · rcases hf x hx with h | h
    · exact h4.2.2.2.2 x h
    · omega
  · rw [List.mem_cons] at hx
    rcases hx with rfl | hx
    · exact h5r
    · rcases hf x hx with h | h
      · exact h5 x (by simp [h])
      · exact ⟨by omega, by omega, by omega⟩

/-- An answer of the queue's that has its number. -/
def NumQ (w : World) (A : Nat → Addr) (rb : Nat) (v : Value) : Option Nat → Prop
  | none => v = .nilIface
  | some j => (j = 0 ∨ j = 2 ∨ j = 3 ∨ j = 4) ∧ Wraps w v (A j) ∧ ∀ b, v = .iface 126 (.pointer (some ⟨b, 0, none⟩)) → b ≠ rb
theorem qNum_of {j : Nat} (h : j = 0 ∨ j = 2 ∨ j = 3 ∨ j = 4) : (1 ≤ qNum (some j) ∧ qNum (some j) ≤ 9) ∧ ofNum9 (qNum (some j)) = j := by
  rcases h with rfl | rfl | rfl | rfl <;> exact ⟨by decide, rfl⟩
theorem numq_any {v : Value} {err : Option Nat} (h : NumQ w A rb v err) (hA : Apart 9 w A) : Calls Tryd.prog 43 #[v] w fun e w' => e = .returned (.int .i64 (qNum err)) ∧ w = w' := by
  match err, h with
  | none, h => rw [show v = .nilIface from h]; exact num_of_nil w
  | some j, ⟨hj, hw, _⟩ =>
    obtain ⟨h1, h2⟩ := qNum_of hj
    exact number_wraps9 (qNum (some j)) 9 A v w h1 hA (Nat.le_refl _) (by rw [h2]; exact hw)
theorem NumQ.keptR {v : Value} {err : Option Nat} (h : NumQ w A rb v err) (hk : Kept [rb] w w') : NumQ w' A rb v err := by
  match err, h with
  | none, h => exact h
  | some j, ⟨h1, h2, h3⟩ => exact ⟨h1, h2.kept hk (fun b hb => by have := h3 b hb; simpa using this), h3⟩
theorem NumQ.below {v : Value} {err : Option Nat} (h : NumQ w A rb v err) (hb : Below w.heap.size w w') : NumQ w' A rb v err := by
  match err, h with
  | none, h => exact h
  | some j, ⟨h1, h2, h3⟩ => exact ⟨h1, h2.below hb, h3⟩
theorem NumQ.of_refused {e : Ending} {j : Nat} (hj : j = 0 ∨ j = 2 ∨ j = 3 ∨ j = 4) (hr : rb < w.heap.size) (h : Refused w (A j) e w') : ∃ v, e = .returned v ∧ NumQ w' A rb v (some j) ∧ Below w.heap.size w w' := by
  obtain ⟨v, he, hw, hb, b, hv, hs⟩ := h
  refine ⟨v, he, ⟨hj, hw, fun b' hb' => ?_⟩, hb⟩
  rw [hv] at hb'
  cases hb'
  omega

/-- The acts' blocks are as they were. -/
def FrameA (w w' : World) : Prop := ∀ (b : Nat) (C : Array Value), w.heap[b]? = some (Obj.cells C 84 (0, 0)) → w'.heap[b]? = w.heap[b]?
theorem FrameA.of_below (hb : Below w.heap.size w w') : FrameA w w' := fun b _ h => hb.block b (Array.getElem?_eq_some_iff.1 h).1
theorem FrameA.of_kept {g o cap : Nat} (h1 : QAt w qb m g o cap N q1) (hk : Kept [qb, m, g] w w') : FrameA w w' := fun b C h => hk.block b (Array.getElem?_eq_some_iff.1 h).1 (by
  simp only [List.mem_cons, List.not_mem_nil, or_false]
  rintro (rfl | rfl | rfl)
  · have := h.symm.trans h1.cell; simp at this
  · obtain ⟨D, ⟨es, clock, hb, _⟩, _⟩ := h1.map
    have := h.symm.trans hb; simp at this
  · obtain ⟨_, _, _, cur, hb, _⟩ := h1.row
    have := h.symm.trans hb; simp at this)
def ActQ (w : World) (b : Nat) (kd n x : Int) (nx : Bool) : Prop := w.heap[b]? = some (.cells #[.int .i64 kd, .int .i64 n, .int .i64 x, .bool nx] 84 (0, 0))
theorem ActQ.frame {b : Nat} {kd n x : Int} {nx : Bool} (h : ActQ w b kd n x nx) (hf : FrameA w w') : ActQ w' b kd n x nx := (hf b _ h).trans h
theorem ActQ.at1 {b : Nat} {kd n x : Int} {nx : Bool} (h : ActQ w b kd n x nx) : w.cell? ⟨b, 1, none⟩ = some (.int .i64 n) := by simp [World.cell?, show w.heap[b]? = _ from h]
theorem ActQ.at0 {b : Nat} {kd n x : Int} {nx : Bool} (h : ActQ w b kd n x nx) : w.cell? ⟨b, 0, none⟩ = some (.int .i64 kd) := by simp [World.cell?, show w.heap[b]? = _ from h]
theorem ActQ.at2 {b : Nat} {kd n x : Int} {nx : Bool} (h : ActQ w b kd n x nx) : w.cell? ⟨b, 2, none⟩ = some (.int .i64 x) := by simp [World.cell?, show w.heap[b]? = _ from h]
theorem ActQ.at3 {b : Nat} {kd n x : Int} {nx : Bool} (h : ActQ w b kd n x nx) : w.cell? ⟨b, 3, none⟩ = some (.bool nx) := by simp [World.cell?, show w.heap[b]? = _ from h]

/-! Put -/
theorem err_of {q : Que} {f x : Int} {j : Nat} (h : q.err f x = some j) : j = 0 ∨ j = 2 ∨ j = 3 ∨ j = 4 := by
  unfold Que.err at h
  split at h
  · cases h; simp
  split at h
  · cases h; simp
  split at h
  · cases h; simp
  split at h
  · cases h; simp
  split at h
  · cases h; simp
  · cases h
theorem xput_any (h : XC2 w0 qb m rb N q1 q2 G w) (hG : Glob w A) (hok : q1.ok) (f x : Int) :
    Calls Tryd.prog 14 #[.pointer (some ⟨qb, 0, none⟩), .int .i64 f, .int .i64 x] w fun e w' => ∃ v, e = .returned v ∧ NumQ w' A rb v (q1.err f x) ∧ XC2 w0 qb m rb N (q1.putQ f x) q2 G w' ∧ FrameA w w' := by
  have hl := h.rlt
  have h' := h
  obtain ⟨g, o, cap, fp, sv, gv, h1, h2, h3, h4, h5⟩ := h
  unfold Que.putQ
  cases he : q1.err f x with
  | none =>
    rw [if_pos rfl]
    refine (put_ok h1 hok f x he).mono ?_
    rintro e w1 ⟨rfl, g', o', cap', hq, hk, hg⟩
    exact ⟨_, rfl, rfl, XC2.prog h1 h2 h3 h4 h5 hq hk hg, FrameA.of_kept h1 hk⟩
  | some j =>
    rw [if_neg (by simp)]
    have hj := err_of he
    refine (put_err h1 hok f x j (A j) he (hG j (by omega))).mono ?_
    intro e w1 hr
    obtain ⟨v, rfl, hn, hb⟩ := NumQ.of_refused hj hl hr
    exact ⟨v, rfl, hn, h'.below hb, FrameA.of_below hb⟩
theorem xrput_any {k : Nat} (h : XC2 w0 qb m rb N q1 q2 G w) (hg : QGood q2 G k) (hk : k ≤ 1000000) (f x : Int) :
    Calls Tryd.prog 47 #[.pointer (some ⟨rb, 0, none⟩), .int .i64 f, .int .i64 x] w fun e w' => e = .returned (.int .i64 (qNum (q2.err f x))) ∧ XC2 w0 qb m rb N q1 (q2.putQ f x) G w' ∧ Kept [rb] w w' := by
  have h' := h
  obtain ⟨g, o, cap, fp, sv, gv, h1, h2, h3, h4, h5⟩ := h
  cases he : q2.err f x with
  | none =>
    refine (rqput_ok h2 hg.1 (by have := hg.2.2.2.2.1; omega) f x he).mono ?_
    rw [put_refs hg he]
    intro e w1 hd
    exact XC2.ref h1 h2.lt h3 h4 h5 hd
  | some j =>
    refine (rqput_err h2 hg.1 f x j he).mono ?_
    rintro e w1 ⟨rfl, k', rfl⟩
    have : q2.putQ f x = q2 := by unfold Que.putQ; rw [he, if_neg (by simp)]
    rw [this]
    exact ⟨rfl, h'.drewN k', Kept.drewN _ w k'⟩

/-! Use -/
theorem xuse_any {k : Nat} (h : XC2 w0 qb m rb N q1 q2 G w) (hg : QGood q1 G k) (hN : N < 1000000) (f : Int) (hf : (Lit.int .i64 f).wf = true) :
    Calls Tryd.prog 18 #[.pointer (some ⟨qb, 0, none⟩), .int .i64 f] w fun e w' => e = .returned (.tuple #[.int .i64 (q1.get f).1, .bool (q1.get f).2]) ∧ XC2 w0 qb m rb (N + 1) (q1.use f) q2 G w' ∧ ∃ g, Kept [qb, m, g] w w' ∧ w0.heap.size ≤ g := by
  obtain ⟨g, o, cap, fp, sv, gv, h1, h2, h3, h4, h5⟩ := h
  refine (use_any h1 hg.1 hN f hf (hg.get f)).mono ?_
  rintro e w1 ⟨rfl, hq, hk⟩
  have hk' := hk.mono (fp' := [qb, m, g]) (by simp)
  exact ⟨rfl, XC2.prog h1 h2 h3 h4 h5 hq hk' (.inl rfl), g, hk', h4.2.2.1⟩
theorem xruse_any {k : Nat} (h : XC2 w0 qb m rb N q1 q2 G w) (hg : QGood q2 G k) (hk : k ≤ 1000000) (f : Int) :
    Calls Tryd.prog 48 #[.pointer (some ⟨rb, 0, none⟩), .int .i64 f] w fun e w' => e = .returned (.tuple #[.int .i64 (q2.get f).1, .bool (q2.get f).2]) ∧ XC2 w0 qb m rb N q1 (q2.use f) (useG q2 G f) w' ∧ Kept [rb] w w' := by
  obtain ⟨g, o, cap, fp, sv, gv, h1, h2, h3, h4, h5⟩ := h
  refine (rquse_any h2 hg.1 (by have := hg.2.2.2.2.1; omega) f).mono ?_
  intro e w1 hd
  exact XC2.ref h1 h2.lt h3 h4 h5 hd

/-! Right -/
theorem xright_any (h : XC2 w0 qb m rb N q1 q2 G w) :
    Calls Tryd.prog 19 #[.pointer (some ⟨qb, 0, none⟩)] w fun e w' => e = .returned (.tuple #[]) ∧ XC2 w0 qb m rb N q1.right q2 G w' ∧ ∃ g, Kept [qb, m, g] w w' ∧ w0.heap.size ≤ g := by
  obtain ⟨g, o, cap, fp, sv, gv, h1, h2, h3, h4, h5⟩ := h
  refine (right_any h1).mono ?_
  rintro e w1 ⟨rfl, hq, hk⟩
  have hk' := hk.mono (fp' := [qb, m, g]) (by simp)
  exact ⟨rfl, XC2.prog h1 h2 h3 h4 h5 (hq.mono (Nat.zero_le _)) hk' (.inl rfl), g, hk', h4.2.2.1⟩
theorem xrright_any (h : XC2 w0 qb m rb N q1 q2 G w) :
    Calls Tryd.prog 49 #[.pointer (some ⟨rb, 0, none⟩)] w fun e w' => e = .returned (.tuple #[]) ∧ XC2 w0 qb m rb N q1 q2.right [] w' ∧ Kept [rb] w w' := by
  obtain ⟨g, o, cap, fp, sv, gv, h1, h2, h3, h4, h5⟩ := h
  refine (rqright_any h2).mono ?_
  intro e w1 hd
  exact XC2.ref h1 h2.lt h3 h4 h5 hd

/-! Forget -/
theorem forget_zero (q : Que) : q.forget 0 = q := by
  unfold Que.forget
  simp
theorem xforget_any {k : Nat} (h : XC2 w0 qb m rb N q1 q2 G w) (hg : QGood q1 G k) (f : Int) (hf : (Lit.int .i64 f).wf = true) :
    Calls Tryd.prog 20 #[.pointer (some ⟨qb, 0, none⟩), .int .i64 f] w fun e w' => e = .returned (.tuple #[]) ∧ XC2 w0 qb m rb N (q1.forget (q1.forgot f)) q2 G w' ∧ ∃ g, Kept [qb, m, g] w w' ∧ w0.heap.size ≤ g := by
  obtain ⟨g, o, cap, fp, sv, gv, h1, h2, h3, h4, h5⟩ := h
  have hf2 : f ≤ 9223372036854775807 := by
    have : IntKind.i64.min ≤ f ∧ f ≤ IntKind.i64.max := by simpa [Lit.wf] using hf
    exact this.2
  have fin : ∀ k, Calls Tryd.prog 20 #[.pointer (some ⟨qb, 0, none⟩), .int .i64 f] w (DoneF w qb m g N (q1.forget k)) → Calls Tryd.prog 20 #[.pointer (some ⟨qb, 0, none⟩), .int .i64 f] w fun e w' => e = .returned (.tuple #[]) ∧ XC2 w0 qb m rb N (q1.forget k) q2 G w' ∧ ∃ g, Kept [qb, m, g] w w' ∧ w0.heap.size ≤ g := fun k hc => by
    refine hc.mono ?_
    rintro e w1 ⟨rfl, o', cap', hq, hk⟩
    have hk' := hk.mono (fp' := [qb, m, g]) (by simp)
    exact ⟨rfl, XC2.prog h1 h2 h3 h4 h5 hq hk' (.inl rfl), g, hk', h4.2.2.1⟩
  by_cases hc : f ≤ q1.first ∨ q1.xs.length = 0
  · have e0 : q1.forgot f = 0 := by unfold Que.forgot; omega
    rw [e0]
    refine fin 0 ?_
    rw [forget_zero]
    exact forget_none h1 f hc
  · refine fin _ (forget_some h1 hg.1 f (by omega) hf2 (by omega) (q1.forgot f) ?_)
    unfold Que.forgot
    split <;> omega
theorem xrforget_any {k : Nat} (h : XC2 w0 qb m rb N q1 q2 G w) (hg : QGood q2 G k) (f : Int) :
    Calls Tryd.prog 51 #[.pointer (some ⟨rb, 0, none⟩), .int .i64 f] w fun e w' => e = .returned (.tuple #[]) ∧ XC2 w0 qb m rb N q1 (q2.forget (q2.forgot f)) G w' ∧ Kept [rb] w w' := by
  obtain ⟨g, o, cap, fp, sv, gv, h1, h2, h3, h4, h5⟩ := h
  refine (rqforget_any h2 hg.1 f).mono ?_
  intro e w1 hd
  exact XC2.ref h1 h2.lt h3 h4 h5 hd

/-! Close -/
theorem closeErr_of {q : Que} {f : Int} {j : Nat} (h : q.closeErr f = some j) : j = 0 ∨ j = 2 ∨ j = 3 ∨ j = 4 := by
  unfold Que.closeErr at h
  split at h
  · cases h; simp
  split at h
  · cases h; simp
  · cases h
theorem xclose_any {k : Nat} (h : XC2 w0 qb m rb N q1 q2 G w) (hG : Glob w A) (hg : QGood q1 G k) (f : Int) :
    Calls Tryd.prog 36 #[.pointer (some ⟨qb, 0, none⟩), .int .i64 f] w fun e w' => ∃ v, e = .returned v ∧ NumQ w' A rb v (q1.closeErr f) ∧ XC2 w0 qb m rb N (q1.closeQ f G) q2 G w' ∧ ∃ g, Kept [qb, m, g] w w' ∧ w0.heap.size ≤ g := by
  have hl := h.rlt
  have h' := h
  obtain ⟨g, o, cap, fp, sv, gv, h1, h2, h3, h4, h5⟩ := h
  unfold Que.closeQ
  by_cases hc : q1.closed = true
  · have he : q1.closeErr f = some 2 := by unfold Que.closeErr; rw [if_pos hc]
    rw [he, if_neg (by simp)]
    refine (close_closed h1 f hc (A 2) (hG 2 (by omega))).mono ?_
    intro e w1 hr
    obtain ⟨v, rfl, hn, hb⟩ := NumQ.of_refused (.inr (.inl rfl)) hl hr
    exact ⟨v, rfl, hn, h'.below hb, g, Kept.of_below hb, h4.2.2.1⟩
  · have hc' : q1.closed = false := by simpa using hc
    by_cases hr : f < q1.first - 1 ∨ q1.last < f
    · have he : q1.closeErr f = some 0 := by unfold Que.closeErr; rw [if_neg hc, if_pos hr]
      rw [he, if_neg (by simp)]
      refine (close_arg h1 hg.1 f hc' hr (A 0) (hG 0 (by omega))).mono ?_
      intro e w1 hr
      obtain ⟨v, rfl, hn, hb⟩ := NumQ.of_refused (.inl rfl) hl hr
      exact ⟨v, rfl, hn, h'.below hb, g, Kept.of_below hb, h4.2.2.1⟩
    · have he : q1.closeErr f = none := by unfold Que.closeErr; rw [if_neg hc, if_neg hr]
      rw [he, if_pos rfl]
      refine (close_ok h1 hg.1 f hc' (f - q1.first + 1).toNat (by omega) (by omega)).mono ?_
      rintro e w1 ⟨rfl, v, hv, hq, hk⟩
      rw [close_refs hg hv] at hq
      have hk' := hk.mono (fp' := [qb, m, g]) (by simp)
      exact ⟨_, rfl, rfl, XC2.prog h1 h2 h3 h4 h5 hq hk' (.inl rfl), g, hk', h4.2.2.1⟩
theorem xrclose_any {k : Nat} (h : XC2 w0 qb m rb N q1 q2 G w) (hg : QGood q2 G k) (hk : k ≤ 1000000) (f : Int) :
    Calls Tryd.prog 50 #[.pointer (some ⟨rb, 0, none⟩), .int .i64 f] w fun e w' => e = .returned (.int .i64 (qNum (q2.closeErr f))) ∧ XC2 w0 qb m rb N q1 (q2.closeQ f G) G w' ∧ Kept [rb] w w' := by
  have h' := h
  obtain ⟨g, o, cap, fp, sv, gv, h1, h2, h3, h4, h5⟩ := h
  unfold Que.closeQ
  cases he : q2.closeErr f with
  | none =>
    rw [if_pos rfl]
    unfold Que.closeErr at he
    split at he <;> try cases he
    rename_i hc
    split at he <;> try cases he
    rename_i hr
    refine (rqclose_ok h2 hg.1 (by have := hg.2.2.2.2.1; omega) (by simpa using hc) f (f - q2.first + 1).toNat (by omega) (by omega)).mono ?_
    intro e w1 hd
    exact XC2.ref h1 h2.lt h3 h4 h5 hd
  | some j =>
    rw [if_neg (by simp)]
    unfold Que.closeErr at he
    refine (rqclose_err h2 hg.1 f ?_).mono ?_
    · split at he
      · exact .inl (by assumption)
      · split at he
        · exact .inr (by assumption)
        · cases he
    · rintro e w1 ⟨rfl, k', rfl⟩
      refine ⟨?_, h'.drewN k', Kept.drewN _ w k'⟩
      split at he
      · rename_i hc; cases he; rw [if_pos hc]; rfl
      · rename_i hc
        split at he
        · cases he; rw [if_neg hc]; rfl
        · cases he

/-! What only reads -/
theorem xget_any (h : XC2 w0 qb m rb N q1 q2 G w) (hok : q1.ok) (f : Int) : Calls Tryd.prog 17 #[.pointer (some ⟨qb, 0, none⟩), .int .i64 f] w (Reads w (.tuple #[.int .i64 (q1.get f).1, .bool (q1.get f).2])) := by
  obtain ⟨g, o, cap, fp, sv, gv, h1, h2, h3, h4, h5⟩ := h
  exact get_any h1 hok f
theorem xrget_any (h : XC2 w0 qb m rb N q1 q2 G w) (hok : q2.ok) (f : Int) : Calls Tryd.prog 52 #[.pointer (some ⟨rb, 0, none⟩), .int .i64 f] w (Reads w (.tuple #[.int .i64 (q2.get f).1, .bool (q2.get f).2])) := by
  obtain ⟨g, o, cap, fp, sv, gv, h1, h2, h3, h4, h5⟩ := h
  exact rqget_any h2 hok f
theorem xwrong_any (h : XC2 w0 qb m rb N q1 q2 G w) : Calls Tryd.prog 16 #[.pointer (some ⟨qb, 0, none⟩)] w (fun e w' => e = .returned (.int .i64 q1.wrong) ∧ w = w') := by
  obtain ⟨g, o, cap, fp, sv, gv, h1, _⟩ := h
  exact wrong_any h1
theorem xlast_any (h : XC2 w0 qb m rb N q1 q2 G w) (hok : q1.ok) : Calls Tryd.prog 15 #[.pointer (some ⟨qb, 0, none⟩)] w (fun e w' => e = .returned (.int .i64 q1.last) ∧ Below w.heap.size w w') := by
  obtain ⟨g, o, cap, fp, sv, gv, h1, _⟩ := h
  exact (last_any h1 hok).mono fun e w' ⟨he, k, hw⟩ => ⟨he, by rw [hw]; exact ⟨rfl, rfl, rfl, Nat.le_refl _, fun _ _ => rfl⟩⟩
theorem xrlast_any (h : XC2 w0 qb m rb N q1 q2 G w) (hok : q2.ok) : Calls Tryd.prog 46 #[.pointer (some ⟨rb, 0, none⟩)] w (fun e w' => e = .returned (.int .i64 q2.last) ∧ Below w.heap.size w w') := by
  obtain ⟨g, o, cap, fp, sv, gv, h1, h2, _⟩ := h
  exact (rqlast_any h2 hok).mono fun e w' ⟨he, k, hw⟩ => ⟨he, by rw [hw]; exact ⟨rfl, rfl, rfl, Nat.le_refl _, fun _ _ => rfl⟩⟩
theorem xfirst_any (h : XC2 w0 qb m rb N q1 q2 G w) : Calls Tryd.prog 21 #[.pointer (some ⟨qb, 0, none⟩)] w (fun e w' => e = .returned (.int .i64 q1.first) ∧ w = w') := by
  obtain ⟨g, o, cap, fp, sv, gv, h1, _⟩ := h
  exact first_any h1
theorem xlen_any (h : XC2 w0 qb m rb N q1 q2 G w) : Calls Tryd.prog 22 #[.pointer (some ⟨qb, 0, none⟩)] w (fun e w' => e = .returned (.int .i64 q1.xs.length) ∧ w = w') := by
  obtain ⟨g, o, cap, fp, sv, gv, h1, _⟩ := h
  exact len_any h1
theorem xclosed_any (h : XC2 w0 qb m rb N q1 q2 G w) : Calls Tryd.prog 37 #[.pointer (some ⟨qb, 0, none⟩)] w (Reads w (.tuple #[.int .i64 q1.fin, .bool q1.closed])) := by
  obtain ⟨g, o, cap, fp, sv, gv, h1, _⟩ := h
  exact closed_any h1
theorem xlist_any (h : XC2 w0 qb m rb N q1 q2 G w) (hok : q1.ok) (f : Int) (hf : f ≤ 9223372036854775807) : Calls Tryd.prog 23 #[.pointer (some ⟨qb, 0, none⟩), .int .i64 f] w (Cloned w ((q1.xs.drop (f - q1.first).toNat).map (Value.int .i64))) := by
  obtain ⟨g, o, cap, fp, sv, gv, h1, _⟩ := h
  obtain ⟨k, hk⟩ : ∃ k : Nat, (k : Int) = if (q1.xs.length : Int) < (if f < q1.first then q1.first else f) - q1.first then (q1.xs.length : Int) else (if f < q1.first then q1.first else f) - q1.first := by
    refine ⟨(if (q1.xs.length : Int) < (if f < q1.first then q1.first else f) - q1.first then (q1.xs.length : Int) else (if f < q1.first then q1.first else f) - q1.first).toNat, ?_⟩
    split <;> split <;> omega
  have := list_any h1 hok f hf k hk
  have e : q1.xs.drop k = q1.xs.drop (f - q1.first).toNat := by
    by_cases hl : q1.xs.length ≤ (f - q1.first).toNat
    · rw [List.drop_eq_nil_of_le hl, List.drop_eq_nil_of_le]
      split at hk <;> split at hk <;> omega
    · congr 1
      split at hk <;> split at hk <;> omega
  rw [← List.map_drop, e] at this
  exact this
theorem xrlist_any (h : XC2 w0 qb m rb N q1 q2 G w) (hok : q2.ok) (f : Int) : Calls Tryd.prog 54 #[.pointer (some ⟨rb, 0, none⟩), .int .i64 f] w (Cloned w ((q2.xs.drop (f - q2.first).toNat).map (Value.int .i64))) := by
  obtain ⟨g, o, cap, fp, sv, gv, h1, h2, _⟩ := h
  exact rqlist_any h2 hok f
end

end Go.Proofs.YtkpbjahjiajodaaDoor
