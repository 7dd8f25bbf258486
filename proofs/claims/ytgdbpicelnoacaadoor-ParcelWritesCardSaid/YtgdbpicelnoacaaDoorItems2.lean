/- This text proves what the strand's laws do with an item, over the loaded program: they get it. -/
import Derived.Test.YtgdbpicelnoacaaDoorItems
namespace Go.Proofs.YtgdbpicelnoacaaDoor
open Go.RowKit Go.WideShapes

/-- What a reader gives where an item is asked for. -/
def Rdr.get (R : Rdr) (i : It) : Rdr × Int × List UInt8 × List Bool :=
  if i.kind = 1 then (R.byte.1, R.byte.2, [], []) else if i.kind = 2 then (R.count.1, R.count.2, [], []) else if i.kind = 3 then (R.num.1, R.num.2, [], []) else
  if i.kind = 4 then ((R.text i.n).1, 0, (R.text i.n).2, []) else if i.kind = 5 then (R.bits.1, R.bits.2, [], []) else if i.kind = 6 then ((R.flags i.n).1, 0, [], (R.flags i.n).2) else (R, 0, [], [])
def GotI (w : World) (k : Int) (p : Int × List UInt8 × List Bool) (e : Ending) (w' : World) : Prop := ∃ g : It, e = .returned g.v ∧ g.kind = k ∧ g.n = p.1 ∧ g.text.data.toList = p.2.1 ∧ g.fl = p.2.2 ∧ g.text.size ≤ maxLen ∧ Cells w' g.X (g.fl.map Value.bool) ∧ (∀ a, g.X = some a → w.heap.size ≤ a.block)

/-- The world in which get asks the reader. -/
def getW (w : World) (kind n : Int) (text : ByteArray) (X : Option Addr) (l c : Nat) : World :=
  ((w.alloc (.cells #[.int .i64 kind, .int .i64 n, .string text, .slice X l c] 30)).alloc (.cells #[.int .i64 0, .int .i64 0, .string ⟨#[]⟩, .slice none 0 0] 30)).alloc (.cells #[.int .i64 kind, .int .i64 0, .string ⟨#[]⟩, .slice none 0 0] 30)
theorem size_alloc1 (w : World) (o : Obj) : (w.alloc o).heap.size = w.heap.size + 1 := by
  show (w.heap.push _).size = _
  exact Array.size_push _
theorem getW_below (w : World) (kind n : Int) (text : ByteArray) (X : Option Addr) (l c : Nat) : Below w.heap.size w (getW w kind n text X l c) :=
  (((Below.refl w.heap.size w).alloc (Nat.le_refl _) _).alloc (by rw [size_alloc1]; omega) _).alloc (by rw [size_alloc1, size_alloc1]; omega) _
theorem getW_size (w : World) (kind n : Int) (text : ByteArray) (X : Option Addr) (l c : Nat) : (getW w kind n text X l c).heap.size = w.heap.size + 3 := by
  unfold getW; rw [size_alloc1, size_alloc1, size_alloc1]
theorem alloc_old (w : World) (o : Obj) (b : Nat) (h : b < w.heap.size) : (w.alloc o).heap[b]? = w.heap[b]? := ((Below.refl w.heap.size w).alloc (Nat.le_refl _) o).block b h
theorem getW_at0 (w : World) (kind n : Int) (text : ByteArray) (X : Option Addr) (l c : Nat) : (getW w kind n text X l c).heap[w.heap.size]? = some (.cells #[.int .i64 kind, .int .i64 n, .string text, .slice X l c] 30 (0, 0)) := by
  unfold getW
  rw [alloc_old _ _ _ (by rw [size_alloc1, size_alloc1]; omega), alloc_old _ _ _ (by rw [size_alloc1]; omega), heap_alloc_new]
theorem getW_at1 (w : World) (kind n : Int) (text : ByteArray) (X : Option Addr) (l c : Nat) : (getW w kind n text X l c).heap[w.heap.size + 1]? = some (.cells #[.int .i64 0, .int .i64 0, .string ⟨#[]⟩, .slice none 0 0] 30 (0, 0)) := by
  unfold getW
  rw [alloc_old _ _ _ (by rw [size_alloc1, size_alloc1]; omega)]
  have h := size_alloc1 w (.cells #[.int .i64 kind, .int .i64 n, .string text, .slice X l c] 30)
  rw [← h, heap_alloc_new]
theorem getW_at2 (w : World) (kind n : Int) (text : ByteArray) (X : Option Addr) (l c : Nat) : (getW w kind n text X l c).heap[w.heap.size + 2]? = some (.cells #[.int .i64 kind, .int .i64 0, .string ⟨#[]⟩, .slice none 0 0] 30 (0, 0)) := by
  unfold getW
  have h := size_alloc1 (w.alloc (.cells #[.int .i64 kind, .int .i64 n, .string text, .slice X l c] 30)) (.cells #[.int .i64 0, .int .i64 0, .string ⟨#[]⟩, .slice none 0 0] 30)
  have h2 : w.heap.size + 2 = ((w.alloc (.cells #[.int .i64 kind, .int .i64 n, .string text, .slice X l c] 30)).alloc (.cells #[.int .i64 0, .int .i64 0, .string ⟨#[]⟩, .slice none 0 0] 30)).heap.size := by rw [h, size_alloc1]
  rw [h2, heap_alloc_new]

/-- What get finds in its own blocks once the reader has answered. -/
structure GetF (w1 : World) (b : Nat) (kind : Int) : Prop where
  g0 : w1.cell? ⟨b + 1 + 1, 0, none⟩ = some (.int .i64 kind)
  g1 : w1.cell? ⟨b + 1 + 1, 1, none⟩ = some (.int .i64 0)
  g2 : w1.cell? ⟨b + 1 + 1, 2, none⟩ = some (.string ⟨#[]⟩)
  g3 : w1.cell? ⟨b + 1 + 1, 3, none⟩ = some (.slice none 0 0)
  e0 : w1.cell? ⟨b + 1, 0, none⟩ = some (.int .i64 0)
  e1 : w1.cell? ⟨b + 1, 1, none⟩ = some (.int .i64 0)
  e2 : w1.cell? ⟨b + 1, 2, none⟩ = some (.string ⟨#[]⟩)
  e3 : w1.cell? ⟨b + 1, 3, none⟩ = some (.slice none 0 0)
  fg1 : w1.frozen? ⟨b + 1 + 1, 1, none⟩ = false
  fg2 : w1.frozen? ⟨b + 1 + 1, 2, none⟩ = false
  fg3 : w1.frozen? ⟨b + 1 + 1, 3, none⟩ = false
  fe0 : w1.frozen? ⟨b + 1, 0, none⟩ = false
  fe1 : w1.frozen? ⟨b + 1, 1, none⟩ = false
  fe2 : w1.frozen? ⟨b + 1, 2, none⟩ = false
  fe3 : w1.frozen? ⟨b + 1, 3, none⟩ = false
theorem getF {w w1 : World} {rb : Nat} {kind n : Int} {text : ByteArray} {X : Option Addr} {l c : Nat} (hlt : rb < w.heap.size) (hk2 : Kept [rb] (getW w kind n text X l c) w1) : GetF w1 w.heap.size kind := by
  have hb1 := (hk2.block (w.heap.size + 1) (by rw [getW_size]; omega) (by simp; omega)).trans (getW_at1 ..)
  have hb2 := (hk2.block (w.heap.size + 1 + 1) (by rw [getW_size]; omega) (by simp; omega)).trans (getW_at2 ..)
  constructor <;> simp [World.cell?, World.frozen?, hb1, hb2]
/-- What get leaves. -/
theorem get_left {w w1 w2 : World} {rb : Nat} {R1 : Rdr} {kind n : Int} {text : ByteArray} {X : Option Addr} {l c : Nat} (hr : RdAt w1 rb R1) (hlt : rb < w.heap.size) (hk : Kept [rb] (getW w kind n text X l c) w1) (hk2 : Kept [w.heap.size + 1 + 1, w.heap.size + 1] w1 w2) : RLeft w rb R1 w2 :=
  ⟨hr.kept hk2 (by simp; omega), ((Kept.of_below (getW_below ..)).trans hk (by simp)).trans hk2 (by simp; omega)⟩

theorem Cells.kept {w w' : World} {fp : List Nat} {A : Option Addr} {cs : List Value} (h : Cells w A cs) (hk : Kept fp w w') (hA : ∀ b o, A = some ⟨b, o, none⟩ → b ∉ fp) : Cells w' A cs := fun i v hi => by
  obtain ⟨b, o, hb, hc⟩ := h i v hi
  exact ⟨b, o, hb, hk.cell hc (hA _ _ hb)⟩

section
variable {w : World} {rb : Nat} {R : Rdr}

set_option maxRecDepth 100000 in
set_option maxHeartbeats 3200000 in
theorem get_any (h : RdAt w rb R) (i : It) (hi : i.ok w) :
    Calls Tryd.prog 24 #[.pointer (some ⟨rb, 0, none⟩), i.v] w fun e w' => GotI w i.kind (R.get i).2 e w' ∧ RLeft w rb (R.get i).1 w' := by
  obtain ⟨kind, n, text, fl, X, c⟩ := i
  obtain ⟨hk, hn, ht, hf, hC⟩ := hi
  dsimp only at hk hn ht hf hC
  unfold Rdr.get It.v
  dsimp only
  have hlt := h.lt
  have hbw := getW_below w kind n text X fl.length c
  by_cases k1 : kind = 1
  · subst k1
    rw [if_pos rfl]
    have T := Lib.hid (rbyte_any (h.below hbw))
    generalize R.byte = p at *
    obtain ⟨R1, b⟩ := p
    dsimp only at *
    have B := Lib.hid hbw
    unfold getW at T
    clear hC hk hn ht hf hbw h
    go_enter Tryd.func24, Tryd.ntmps24
    go_wp2_with fail
    refine T.out.mono ?_
    rintro e w1 ⟨rfl, hr1, hk1⟩
    have hk2 : Kept [rb] (getW w 1 n text X fl.length c) w1 := hk1
    obtain ⟨g0, g1, g2, g3, e0, e1, e2, e3, fg1, fg2, fg3, fe0, fe1, fe2, fe3⟩ := getF hlt hk2
    have RL := Lib.hid (And.intro hr1 hk2)
    clear hr1 hk1 hk2
    go_wp2_with fail
    refine bodyPost_ret (v := .agg #[.int .i64 1, .int .i64 (b : Int), .string ⟨#[]⟩, .slice none 0 0]) (by simp [results, Tryd.results24, go_sem, e0, e1, e2, e3]) rfl ⟨⟨⟨1, (b : Int), ⟨#[]⟩, [], none, 0⟩, rfl, rfl, rfl, rfl, rfl, Nat.zero_le _, Cells.nil _ _, by simp⟩, get_left RL.out.1 hlt RL.out.2 ?_⟩
    exact (((((Kept.setCell _ (w.heap.size + 1 + 1) 1 _).mono (by simp)).trans (Kept.setCell _ (w.heap.size + 1) 0 _) (by simp)).trans (Kept.setCell _ (w.heap.size + 1) 1 _) (by simp)).trans (Kept.setCell _ (w.heap.size + 1) 2 _) (by simp)).trans (Kept.setCell _ (w.heap.size + 1) 3 _) (by simp)
  rw [if_neg k1]
  by_cases k2 : kind = 2
  · subst k2
    rw [if_pos rfl]
    have T := Lib.hid (rcount_any (h.below hbw))
    generalize R.count = p at *
    obtain ⟨R1, b⟩ := p
    dsimp only at *
    have B := Lib.hid hbw
    unfold getW at T
    clear hC hk hn ht hf hbw h k1
    go_enter Tryd.func24, Tryd.ntmps24
    go_wp2_with fail
    refine T.out.mono ?_
    rintro e w1 ⟨rfl, hr1, hk1⟩
    have hk2 : Kept [rb] (getW w 2 n text X fl.length c) w1 := hk1
    obtain ⟨g0, g1, g2, g3, e0, e1, e2, e3, fg1, fg2, fg3, fe0, fe1, fe2, fe3⟩ := getF hlt hk2
    have RL := Lib.hid (And.intro hr1 hk2)
    clear hr1 hk1 hk2
    go_wp2_with fail
    refine bodyPost_ret (v := .agg #[.int .i64 2, .int .i64 (b : Int), .string ⟨#[]⟩, .slice none 0 0]) (by simp [results, Tryd.results24, go_sem, e0, e1, e2, e3]) rfl ⟨⟨⟨2, (b : Int), ⟨#[]⟩, [], none, 0⟩, rfl, rfl, rfl, rfl, rfl, Nat.zero_le _, Cells.nil _ _, by simp⟩, get_left RL.out.1 hlt RL.out.2 ?_⟩
    exact (((((Kept.setCell _ (w.heap.size + 1 + 1) 1 _).mono (by simp)).trans (Kept.setCell _ (w.heap.size + 1) 0 _) (by simp)).trans (Kept.setCell _ (w.heap.size + 1) 1 _) (by simp)).trans (Kept.setCell _ (w.heap.size + 1) 2 _) (by simp)).trans (Kept.setCell _ (w.heap.size + 1) 3 _) (by simp)
  rw [if_neg k2]
  by_cases k3 : kind = 3
  · subst k3
    rw [if_pos rfl]
    have T := Lib.hid (rnum_any (h.below hbw))
    generalize R.num = p at *
    obtain ⟨R1, b⟩ := p
    dsimp only at *
    have B := Lib.hid hbw
    unfold getW at T
    clear hC hk hn ht hf hbw h k1 k2
    go_enter Tryd.func24, Tryd.ntmps24
    go_wp2_with fail
    refine T.out.mono ?_
    rintro e w1 ⟨rfl, hr1, hk1⟩
    have hk2 : Kept [rb] (getW w 3 n text X fl.length c) w1 := hk1
    obtain ⟨g0, g1, g2, g3, e0, e1, e2, e3, fg1, fg2, fg3, fe0, fe1, fe2, fe3⟩ := getF hlt hk2
    have RL := Lib.hid (And.intro hr1 hk2)
    clear hr1 hk1 hk2
    go_wp2_with fail
    refine bodyPost_ret (v := .agg #[.int .i64 3, .int .i64 b, .string ⟨#[]⟩, .slice none 0 0]) (by simp [results, Tryd.results24, go_sem, e0, e1, e2, e3]) rfl ⟨⟨⟨3, b, ⟨#[]⟩, [], none, 0⟩, rfl, rfl, rfl, rfl, rfl, Nat.zero_le _, Cells.nil _ _, by simp⟩, get_left RL.out.1 hlt RL.out.2 ?_⟩
    exact (((((Kept.setCell _ (w.heap.size + 1 + 1) 1 _).mono (by simp)).trans (Kept.setCell _ (w.heap.size + 1) 0 _) (by simp)).trans (Kept.setCell _ (w.heap.size + 1) 1 _) (by simp)).trans (Kept.setCell _ (w.heap.size + 1) 2 _) (by simp)).trans (Kept.setCell _ (w.heap.size + 1) 3 _) (by simp)
  rw [if_neg k3]
  by_cases k4 : kind = 4
  · subst k4
    rw [if_pos rfl]
    have T := Lib.hid (rtext_any (h.below hbw) n hn.1 hn.2)
    generalize R.text n = p at *
    obtain ⟨R1, b⟩ := p
    dsimp only at *
    have B := Lib.hid hbw
    unfold getW at T
    clear hC hk hn ht hf hbw h k1 k2 k3
    go_enter Tryd.func24, Tryd.ntmps24
    go_wp2_with fail
    refine T.out.mono ?_
    rintro e w1 ⟨⟨X1, rfl, hx1, hx2⟩, hr1, hk1⟩
    have hk2 : Kept [rb] (getW w 4 n text X fl.length c) w1 := hk1
    obtain ⟨g0, g1, g2, g3, e0, e1, e2, e3, fg1, fg2, fg3, fe0, fe1, fe2, fe3⟩ := getF hlt hk2
    have RL := Lib.hid (And.intro hr1 hk2)
    clear hr1 hk1 hk2
    have XX := Lib.hid (And.intro hx1 hx2)
    clear hx1 hx2
    go_wp2_with fail
    refine bodyPost_ret (v := .agg #[.int .i64 4, .int .i64 0, .string X1, .slice none 0 0]) (by simp [results, Tryd.results24, go_sem, e0, e1, e2, e3]) rfl ⟨⟨⟨4, 0, X1, [], none, 0⟩, rfl, rfl, rfl, XX.out.1, rfl, XX.out.2, Cells.nil _ _, by simp⟩, get_left RL.out.1 hlt RL.out.2 ?_⟩
    exact (((((Kept.setCell _ (w.heap.size + 1 + 1) 2 _).mono (by simp)).trans (Kept.setCell _ (w.heap.size + 1) 0 _) (by simp)).trans (Kept.setCell _ (w.heap.size + 1) 1 _) (by simp)).trans (Kept.setCell _ (w.heap.size + 1) 2 _) (by simp)).trans (Kept.setCell _ (w.heap.size + 1) 3 _) (by simp)
  rw [if_neg k4]
  by_cases k5 : kind = 5
  · subst k5
    rw [if_pos rfl]
    have T := Lib.hid (rbits_any (h.below hbw))
    have hle : R.bits.2 ≤ 4294967295 := R.number_le 4294967295
    generalize R.bits = p at *
    obtain ⟨R1, b⟩ := p
    dsimp only at *
    have hw5 : IntKind.i64.wrap (b : Int) = (b : Int) := IntWalk.i64_in _ (by omega)
    have B := Lib.hid hbw
    unfold getW at T
    clear hC hk hn ht hf hbw h k1 k2 k3 k4 hle
    go_enter Tryd.func24, Tryd.ntmps24
    go_wp2_with fail
    refine T.out.mono ?_
    rintro e w1 ⟨rfl, hr1, hk1⟩
    have hk2 : Kept [rb] (getW w 5 n text X fl.length c) w1 := hk1
    obtain ⟨g0, g1, g2, g3, e0, e1, e2, e3, fg1, fg2, fg3, fe0, fe1, fe2, fe3⟩ := getF hlt hk2
    have RL := Lib.hid (And.intro hr1 hk2)
    clear hr1 hk1 hk2
    go_wp2_with fail
    refine bodyPost_ret (v := .agg #[.int .i64 5, .int .i64 (b : Int), .string ⟨#[]⟩, .slice none 0 0]) (by simp [results, Tryd.results24, go_sem, e0, e1, e2, e3]) rfl ⟨⟨⟨5, (b : Int), ⟨#[]⟩, [], none, 0⟩, rfl, rfl, rfl, rfl, rfl, Nat.zero_le _, Cells.nil _ _, by simp⟩, get_left RL.out.1 hlt RL.out.2 ?_⟩
    exact (((((Kept.setCell _ (w.heap.size + 1 + 1) 1 _).mono (by simp)).trans (Kept.setCell _ (w.heap.size + 1) 0 _) (by simp)).trans (Kept.setCell _ (w.heap.size + 1) 1 _) (by simp)).trans (Kept.setCell _ (w.heap.size + 1) 2 _) (by simp)).trans (Kept.setCell _ (w.heap.size + 1) 3 _) (by simp)
  rw [if_neg k5]
  by_cases k6 : kind = 6
  · subst k6
    rw [if_pos rfl]
    have T := Lib.hid (rflags_any (h.below hbw) n hn.1 hn.2)
    generalize R.flags n = p at *
    obtain ⟨R1, b⟩ := p
    dsimp only at *
    have B := Lib.hid hbw
    unfold getW at T
    clear hC hk hn ht hf hbw h k1 k2 k3 k4 k5
    go_enter Tryd.func24, Tryd.ntmps24
    go_wp2_with fail
    refine T.out.mono ?_
    rintro e w1 ⟨⟨X1, c1, rfl, hx1, hx2⟩, hr1, hk1⟩
    have hk2 : Kept [rb] (getW w 6 n text X fl.length c) w1 := hk1
    obtain ⟨g0, g1, g2, g3, e0, e1, e2, e3, fg1, fg2, fg3, fe0, fe1, fe2, fe3⟩ := getF hlt hk2
    have RL := Lib.hid (And.intro hr1 hk2)
    clear hr1 hk1 hk2
    have XX := Lib.hid (And.intro hx1 (show ∀ a, X1 = some a → (getW w 6 n text X fl.length c).heap.size ≤ a.block ∧ a.block < w1.heap.size from hx2))
    clear hx1 hx2
    go_wp2_with fail
    have hK := (((((Kept.setCell w1 (w.heap.size + 1 + 1) 3 (.slice X1 b.length c1)).mono (fp' := [w.heap.size + 1 + 1, w.heap.size + 1]) (by simp)).trans (Kept.setCell _ (w.heap.size + 1) 0 (.int .i64 6)) (by simp)).trans (Kept.setCell _ (w.heap.size + 1) 1 (.int .i64 0)) (by simp)).trans (Kept.setCell _ (w.heap.size + 1) 2 (.string ⟨#[]⟩)) (by simp)).trans (Kept.setCell _ (w.heap.size + 1) 3 (.slice X1 b.length c1)) (by simp)
    refine bodyPost_ret (v := .agg #[.int .i64 6, .int .i64 0, .string ⟨#[]⟩, .slice X1 b.length c1]) (by simp [results, Tryd.results24, go_sem, e0, e1, e2, e3]) rfl ⟨⟨⟨6, 0, ⟨#[]⟩, b, X1, c1⟩, rfl, rfl, rfl, rfl, rfl, Nat.zero_le _, ?_, fun a ha => by have := (XX.out.2 a ha).1; rw [getW_size] at this; omega⟩, get_left RL.out.1 hlt RL.out.2 hK⟩
    exact XX.out.1.kept hK (fun x o hx => by have := (XX.out.2 _ hx).1; rw [getW_size] at this; dsimp only at this; simp; omega)
  rw [if_neg k6]
  have hb3 : Below w.heap.size w (((w.alloc (.cells #[.int .i64 kind, .int .i64 n, .string text, .slice X fl.length c] 30)).alloc (.cells #[.int .i64 kind, .int .i64 0, .string ⟨#[]⟩, .slice none 0 0] 30)).alloc (.cells #[.int .i64 kind, .int .i64 0, .string ⟨#[]⟩, .slice none 0 0] 30)) :=
    (((Below.refl w.heap.size w).alloc (Nat.le_refl _) _).alloc (by rw [size_alloc1]; omega) _).alloc (by rw [size_alloc1, size_alloc1]; omega) _
  have RL := Lib.hid (And.intro (h.below hb3) (Kept.of_below (fp := [rb]) hb3))
  clear hC hk hn ht hf hbw h hb3
  go_enter Tryd.func24, Tryd.ntmps24
  go_wp2_with fail
  exact bodyPost_ret (v := .agg #[.int .i64 kind, .int .i64 0, .string ⟨#[]⟩, .slice none 0 0]) (by simp [results, Tryd.results24, go_sem]) rfl ⟨⟨⟨kind, 0, ⟨#[]⟩, [], none, 0⟩, rfl, rfl, rfl, rfl, rfl, Nat.zero_le _, Cells.nil _ _, by simp⟩, RL.out⟩
end

end Go.Proofs.YtgdbpicelnoacaaDoor
