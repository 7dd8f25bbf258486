/- This text holds the queue and the reference's queue side by side: what an act does to both, in plain words. -/
import Derived.Test.YtkpbjahjiajodaaDoorRQ7
import Derived.Test.YtkpbjahjiajodaaDoorQN
import Derived.Test.YtkpbjahjiajodaaDoorOpen
namespace Go.Proofs.YtkpbjahjiajodaaDoor
open Go.RowKit Go.WideShapes
set_option linter.unusedSimpArgs false

/-- An act of the queue's law. -/
structure QAct where
  kind : Int
  n : Int
  x : Int
  next : Bool

/-- A row of acts that came in. -/
def QActs (w : World) (A : Option Addr) (l : List QAct) : Prop := ∀ i x, l[i]? = some x → ∃ b o, A = some ⟨b, o, none⟩ ∧
  w.cell? ⟨b, o + i * 4, none⟩ = some (.int .i64 x.kind) ∧ w.cell? ⟨b, o + i * 4 + 1, none⟩ = some (.int .i64 x.n) ∧ w.cell? ⟨b, o + i * 4 + 2, none⟩ = some (.int .i64 x.x) ∧ w.cell? ⟨b, o + i * 4 + 3, none⟩ = some (.bool x.next)

theorem QActs.below {w w' : World} {A : Option Addr} {l : List QAct} (h : QActs w A l) (hb : Below w.heap.size w w') : QActs w' A l := fun i x hi => by
  obtain ⟨b, o, e, h0, h1, h2, h3⟩ := h i x hi
  have hl := World.block_lt_of_cell? w _ h0
  exact ⟨b, o, e, (hb.cell (p := ⟨b, o + i * 4, none⟩) hl).trans h0, (hb.cell (p := ⟨b, o + i * 4 + 1, none⟩) hl).trans h1, (hb.cell (p := ⟨b, o + i * 4 + 2, none⟩) hl).trans h2, (hb.cell (p := ⟨b, o + i * 4 + 3, none⟩) hl).trans h3⟩

theorem open_qacts {H : Type} {enc : TypeId × Value → H} {W : World} {a : Option Addr} {len cap : Nat} (h : ReadsV enc Tryd.prog W 80 [.slice a len cap]) : ∃ l : List QAct, len = l.length ∧ (l.length ≤ cap ∧ cap ≤ maxLen ∧ QActs W a l ∧ ∀ x ∈ l, (Lit.int .i64 x.n).wf = true ∧ (Lit.int .i64 x.x).wf = true) := by
  have hc : Tryd.prog.cellsOf 84 = 4 := by kernel_rfl
  have c3 : Tryd.prog.cellsOf 3 = 1 := by kernel_rfl
  have c4 : Tryd.prog.cellsOf 4 = 1 := by kernel_rfl
  obtain ⟨h1, h2, he⟩ := open_elems Tryd.underlying80 (by rw [hc]; omega) h
  obtain ⟨l, hl, hr⟩ := list_of len (fun i (x : QAct) => (∃ b o, a = some ⟨b, o, none⟩ ∧
      W.cell? ⟨b, o + i * 4, none⟩ = some (.int .i64 x.kind) ∧ W.cell? ⟨b, o + i * 4 + 1, none⟩ = some (.int .i64 x.n) ∧ W.cell? ⟨b, o + i * 4 + 2, none⟩ = some (.int .i64 x.x) ∧ W.cell? ⟨b, o + i * 4 + 3, none⟩ = some (.bool x.next)) ∧
      ((Lit.int .i64 x.n).wf = true ∧ (Lit.int .i64 x.x).wf = true)) (by
    intro i hi
    obtain ⟨cs, hcl, ⟨b, o, ha, hcell⟩, hrd⟩ := he i hi
    rw [hc] at hcl hcell
    match cs, hcl with
    | [v0, v1, v2, v3], _ =>
      have r0 : ReadsV enc Tryd.prog W 3 [v0] := reads_at Tryd.underlying84 hrd 0 rfl rfl rfl c3
      have r1 : ReadsV enc Tryd.prog W 3 [v1] := reads_at Tryd.underlying84 hrd 1 rfl rfl rfl c3
      have r2 : ReadsV enc Tryd.prog W 3 [v2] := reads_at Tryd.underlying84 hrd 2 rfl rfl rfl c3
      have r3 : ReadsV enc Tryd.prog W 4 [v3] := reads_at Tryd.underlying84 hrd 3 rfl rfl rfl c4
      obtain ⟨x0, e0, _⟩ := reads_int Tryd.underlying3 r0
      obtain ⟨x1, e1, g1⟩ := reads_int Tryd.underlying3 r1
      obtain ⟨x2, e2, g2⟩ := reads_int Tryd.underlying3 r2
      obtain ⟨x3, e3⟩ := reads_bool Tryd.underlying4 r3
      simp at e0 e1 e2 e3
      subst e0 e1 e2 e3
      exact ⟨⟨x0, x1, x2, x3⟩, ⟨b, o, ha, hcell 0 _ rfl, hcell 1 _ rfl, hcell 2 _ rfl, hcell 3 _ rfl⟩, g1, g2⟩)
  refine ⟨l, hl.symm, by omega, h2, fun i x hx => (hr i x hx).1, fun x hx => ?_⟩
  obtain ⟨i, hi, rfl⟩ := List.getElem_of_mem hx
  exact (hr i _ (List.getElem?_eq_getElem hi)).2

/-- The guesses of the two agree; all numbers are small. -/
def QGood (q : Que) (G : List (Int × Int)) (k : Nat) : Prop := q.ok ∧ (∀ f, q.g f = look G f) ∧ (G.map (·.1)).Nodup ∧ (∀ p ∈ G, 1 ≤ p.1 ∧ p.1 ≤ 1073741824) ∧ G.length ≤ k ∧ ∀ x ∈ q.xs, 0 ≤ x ∧ x ≤ 255

theorem QGood.get {q : Que} {G : List (Int × Int)} {k : Nat} (h : QGood q G k) (f : Int) : (Lit.int .i64 (q.get f).1).wf = true := by
  have hx : ∀ i, 0 ≤ q.xs.getD i 0 ∧ q.xs.getD i 0 ≤ 255 := fun i => by
    by_cases hi : i < q.xs.length
    · rw [List.getD, List.getElem?_eq_getElem hi]; exact h.2.2.2.2.2 _ (List.getElem_mem hi)
    · rw [List.getD, List.getElem?_eq_none (by omega)]; decide
  have hw : ∀ n : Int, 0 ≤ n ∧ n ≤ 255 → (Lit.int .i64 n).wf = true := fun n hn => by
    have : IntKind.i64.min ≤ n ∧ n ≤ IntKind.i64.max := by
      show -9223372036854775808 ≤ n ∧ n ≤ 9223372036854775807
      omega
    simpa [Lit.wf] using this
  unfold Que.get
  split
  · exact hw 0 (by omega)
  · split
    · exact hw _ (hx _)
    · split
      · exact hw 0 (by omega)
      · exact hw _ (hx _)

theorem QGood.mono {q : Que} {G : List (Int × Int)} {k : Nat} (h : QGood q G k) : QGood q G (k + 1) := ⟨h.1, h.2.1, h.2.2.1, h.2.2.2.1, by have := h.2.2.2.2.1; omega, h.2.2.2.2.2⟩

/-- Put, as an act. -/
def Que.putQ (q : Que) (f x : Int) : Que := if q.err f x = none then q.put f x else q
theorem QGood.put {q : Que} {G : List (Int × Int)} {k : Nat} (h : QGood q G k) (f x : Int) : QGood (q.putQ f x) G (k + 1) := by
  unfold Que.putQ
  by_cases he : q.err f x = none
  · rw [if_pos he]
    obtain ⟨⟨h1, h2, h3⟩, h4, h5, h6, h7, h8⟩ := h
    unfold Que.err at he
    split at he <;> try cases he
    rename_i e1
    split at he <;> try cases he
    rename_i e2
    split at he <;> try cases he
    rename_i e3
    split at he <;> try cases he
    rename_i e4
    split at he <;> try cases he
    rename_i e5
    refine ⟨⟨h1, ?_, ?_⟩, h4, h5, h6, by omega, fun y hy => ?_⟩
    · show q.first + ((q.xs ++ [x]).length : Int) ≤ _
      rw [List.length_append]
      unfold Que.last at e3 e4
      simp only [List.length_cons, List.length_nil]
      omega
    · show (q.xs ++ [x]).length ≤ 256
      rw [List.length_append]
      simp only [List.length_cons, List.length_nil]
      omega
    · have hy' : y ∈ q.xs ++ [x] := hy
      rw [List.mem_append, List.mem_singleton] at hy'
      rcases hy' with hy' | rfl
      · exact h8 y hy'
      · omega
  · rw [if_neg he]; exact h.mono
theorem put_refs {q : Que} {G : List (Int × Int)} {k : Nat} (h : QGood q G k) {f x : Int} (he : q.err f x = none) : ({ q with xs := q.xs ++ [x], wrong := putW f x G q.wrong } : Que) = q.putQ f x := by
  unfold Que.putQ
  rw [if_pos he]
  unfold Que.put
  rw [putW_look f x G q.wrong h.2.2.1, ← h.2.1 f]

/-- Use, as an act. -/
theorem look_append (a b : List (Int × Int)) (f : Int) : look (a ++ b) f = (look a f).or (look b f) := by
  induction a with
  | nil => simp [look]
  | cons p r ih =>
    rw [List.cons_append, look_cons, look_cons, ih]
    by_cases h : p.1 = f
    · simp [h]
    · simp [h]
theorem look_filter (G : List (Int × Int)) (f j : Int) : look (G.filter (fun p => p.1 != f)) j = if j = f then none else look G j := by
  induction G with
  | nil => simp [look]
  | cons p r ih =>
    rw [List.filter_cons]
    by_cases h : p.1 = f
    · rw [if_neg (by simp [h]), ih, look_cons]
      by_cases hj : j = f
      · rw [if_pos hj, if_pos hj]
      · rw [if_neg hj, if_neg hj, if_neg (fun e => hj (by rw [← e, h]))]
    · rw [if_pos (by simpa using h), look_cons, look_cons, ih]
      by_cases hp : p.1 = j
      · rw [if_pos hp, if_pos hp, if_neg (fun e => h (by rw [hp, e]))]
      · rw [if_neg hp, if_neg hp]
theorem QGood.use {q : Que} {G : List (Int × Int)} {k : Nat} (h : QGood q G k) (f : Int) : QGood (q.use f) (useG q G f) (k + 1) := by
  unfold Que.use useG
  by_cases hc : (q.get f).2 = false ∧ q.first ≤ f ∧ f ≤ 1073741824
  · rw [if_pos hc, if_pos hc]
    obtain ⟨h1, h4, h5, h6, h7, h8⟩ := h
    refine ⟨h1, fun j => ?_, ?_, ?_, ?_, h8⟩
    · show (if j = f then some (q.get f).1 else q.g j) = _
      rw [look_append, look_filter]
      by_cases hj : j = f
      · rw [if_pos hj, if_pos hj]
        subst hj
        simp [look]
      · rw [if_neg hj, if_neg hj, h4 j]
        have : look [(f, (q.get f).1)] j = none := by rw [look_cons, if_neg (fun e => hj e.symm)]; rfl
        rw [this]
        cases look G j <;> rfl
    · rw [List.map_append, List.nodup_append]
      refine ⟨(h5.sublist ((List.filter_sublist).map _)), by simp, ?_⟩
      intro a ha b hb
      simp at hb
      subst hb
      rw [List.mem_map] at ha
      obtain ⟨p, hp, rfl⟩ := ha
      rw [List.mem_filter] at hp
      simpa using hp.2
    · intro p hp
      rw [List.mem_append] at hp
      rcases hp with hp | hp
      · exact h6 p (List.mem_filter.1 hp).1
      · simp at hp
        subst hp
        have := h1.1
        exact ⟨by omega, hc.2.2⟩
    · rw [List.length_append]
      have := List.length_filter_le (fun p : Int × Int => p.1 != f) G
      simp only [List.length_cons, List.length_nil]
      omega
  · rw [if_neg hc, if_neg hc]; exact h.mono
theorem QGood.right {q : Que} {G : List (Int × Int)} {k : Nat} (h : QGood q G k) : QGood q.right [] (k + 1) := ⟨h.1, fun _ => rfl, by simp, by simp, by simp, h.2.2.2.2.2⟩
theorem QGood.forget {q : Que} {G : List (Int × Int)} {k : Nat} (h : QGood q G k) (f : Int) : QGood (q.forget (q.forgot f)) G (k + 1) := by
  obtain ⟨⟨h1, h2, h3⟩, h4, h5, h6, h7, h8⟩ := h
  have hk : q.forgot f ≤ q.xs.length := by unfold Que.forgot; omega
  refine ⟨⟨?_, ?_, ?_⟩, h4, h5, h6, by omega, fun y hy => h8 y (List.mem_of_mem_drop hy)⟩
  · show 1 ≤ q.first + _
    omega
  · show q.first + (q.forgot f : Int) + ((q.xs.drop (q.forgot f)).length : Int) ≤ _
    rw [List.length_drop]
    omega
  · show (q.xs.drop (q.forgot f)).length ≤ _
    rw [List.length_drop]
    omega
theorem QGood.new (d : Nat) (hd : d ≤ 6) : QGood (Que.new d) [] 0 := by
  refine ⟨⟨show (1 : Int) ≤ 1 by omega, ?_, ?_⟩, fun _ => rfl, by simp, by simp, by simp, fun y hy => ?_⟩
  · show (1 : Int) + ((List.replicate d (0 : Int)).length : Int) ≤ _
    rw [List.length_replicate]; omega
  · show (List.replicate d (0 : Int)).length ≤ _
    rw [List.length_replicate]; omega
  · have := List.eq_of_mem_replicate (show y ∈ List.replicate d (0 : Int) from hy)
    omega

/-- Which refusal Close gives. -/
def Que.closeErr (q : Que) (f : Int) : Option Nat := if q.closed = true then some 2 else if f < q.first - 1 ∨ q.last < f then some 0 else none
def Que.closeQ (q : Que) (f : Int) (G : List (Int × Int)) : Que := if q.closeErr f = none then { q with xs := q.xs.take (f - q.first + 1).toNat, wrong := closeW f q G, closed := true, fin := f } else q
theorem QGood.close {q : Que} {G : List (Int × Int)} {k : Nat} (h : QGood q G k) (f : Int) : QGood (q.closeQ f G) G (k + 1) := by
  unfold Que.closeQ
  split
  · obtain ⟨⟨h1, h2, h3⟩, h4, h5, h6, h7, h8⟩ := h
    have hl := List.length_take_le (f - q.first + 1).toNat q.xs
    refine ⟨⟨h1, ?_, ?_⟩, h4, h5, h6, by omega, fun y hy => h8 y (List.mem_of_mem_take hy)⟩
    · show q.first + ((q.xs.take (f - q.first + 1).toNat).length : Int) ≤ _
      have : (q.xs.take (f - q.first + 1).toNat).length ≤ q.xs.length := by rw [List.length_take]; omega
      omega
    · show (q.xs.take (f - q.first + 1).toNat).length ≤ _
      rw [List.length_take]; omega
  · exact h.mono

/-- The least frame, one that comes first. -/
theorem Least.pre {v b f : Int} {P P' : Int → Prop} (h : Least v (blamed b f) P) (hf : 0 < f) (e : ∀ x, P' x ↔ x = f ∨ P x) : Least v b P' := by
  obtain ⟨h1, h2, h3⟩ := h
  have hb : blamed b f = f ∧ (b = 0 ∨ f < b) ∨ blamed b f = b ∧ b ≠ 0 ∧ b ≤ f := by
    unfold blamed
    split
    · exact .inl ⟨rfl, by assumption⟩
    · right; refine ⟨rfl, ?_, ?_⟩ <;> omega
  have hv := h3 (by omega)
  refine ⟨?_, fun x hx => ?_, fun h0 => ?_⟩
  · rcases h1 with h1 | h1
    · rcases hb with ⟨hb, _⟩ | ⟨hb, _⟩
      · right; rw [e]; left; omega
      · left; omega
    · right; rw [e]; exact .inr h1
  · rw [e] at hx
    rcases hx with rfl | hx
    · exact ⟨hv.1, by omega⟩
    · exact h2 x hx
  · exact ⟨hv.1, by omega⟩
theorem Least.comp {a b w0 : Int} {P Q R : Int → Prop} (h : Least a w0 P) (k : Least b a Q) (e : ∀ x, R x ↔ P x ∨ Q x) : Least b w0 R := by
  obtain ⟨h1, h2, h3⟩ := h
  obtain ⟨k1, k2, k3⟩ := k
  refine ⟨?_, fun x hx => ?_, fun h0 => ?_⟩
  · rcases k1 with rfl | k1
    · rcases h1 with h1 | h1
      · exact .inl h1
      · right; rw [e]; exact .inl h1
    · right; rw [e]; exact .inr k1
  · rw [e] at hx
    rcases hx with hx | hx
    · obtain ⟨c1, c2⟩ := h2 x hx
      obtain ⟨d1, d2⟩ := k3 c1
      exact ⟨d1, by omega⟩
    · exact k2 x hx
  · obtain ⟨c1, c2⟩ := h3 h0
    obtain ⟨d1, d2⟩ := k3 c1
    exact ⟨d1, by omega⟩
theorem Least.last {b w0 : Int} {P : Int → Prop} (h : Least b 0 P) : Least (if b ≠ 0 ∧ (w0 = 0 ∨ b < w0) then b else w0) w0 P := by
  obtain ⟨h1, h2, _⟩ := h
  by_cases c : b ≠ 0 ∧ (w0 = 0 ∨ b < w0)
  · rw [if_pos c]
    refine ⟨?_, h2, fun h0 => ⟨c.1, by omega⟩⟩
    rcases h1 with h1 | h1
    · exact absurd h1 c.1
    · exact .inr h1
  · rw [if_neg c]
    refine ⟨.inl rfl, fun x hx => ?_, fun h0 => ⟨h0, Int.le_refl _⟩⟩
    obtain ⟨c1, c2⟩ := h2 x hx
    by_cases hw : w0 = 0
    · exact absurd ⟨c1, .inl hw⟩ c
    · have : ¬ b < w0 := fun hb => c ⟨c1, .inr hb⟩
      exact ⟨hw, by omega⟩
theorem closeG_least (f : Int) (G : List (Int × Int)) (b : Int) (hp : ∀ p ∈ G, 1 ≤ p.1) : Least (closeG f G b) b (fun x => ∃ p ∈ G, p.1 = x ∧ f < x ∧ p.2 ≠ 0) := by
  induction G generalizing b with
  | nil => exact Least.start (fun x => by simp)
  | cons p r ih =>
    have ih' := fun b => ih b (fun p hp' => hp p (by simp [hp']))
    have h1 := hp p (by simp)
    unfold closeG
    by_cases c : f < p.1 ∧ p.2 ≠ 0
    · have e : (if f < p.1 ∧ p.2 ≠ 0 ∧ (b = 0 ∨ p.1 < b) then p.1 else b) = blamed b p.1 := by
        unfold blamed
        by_cases d : b = 0 ∨ p.1 < b
        · rw [if_pos d, if_pos ⟨c.1, c.2, d⟩]
        · rw [if_neg d, if_neg (fun x => d x.2.2)]
      rw [e]
      refine (ih' _).pre (by omega) (fun x => ?_)
      constructor
      · rintro ⟨p', hp', h⟩
        rw [List.mem_cons] at hp'
        rcases hp' with rfl | hp'
        · exact .inl h.1.symm
        · exact .inr ⟨p', hp', h⟩
      · rintro (rfl | ⟨p', hp', h⟩)
        · exact ⟨p, by simp, rfl, c.1, c.2⟩
        · exact ⟨p', by simp [hp'], h⟩
    · rw [if_neg (fun x => c ⟨x.1, x.2.1⟩)]
      refine (ih' _).same (fun x => ?_)
      constructor
      · rintro ⟨p', hp', h⟩
        rw [List.mem_cons] at hp'
        rcases hp' with rfl | hp'
        · exact absurd ⟨by rw [h.1]; exact h.2.1, h.2.2⟩ c
        · exact ⟨p', hp', h⟩
      · rintro ⟨p', hp', h⟩
        exact ⟨p', by simp [hp'], h⟩
theorem closeL_least (f : Int) (l : List Int) (a b : Int) (ha : 1 ≤ a) : Least (closeL f l a b) b (fun x => ∃ i : Nat, i < l.length ∧ x = a + i ∧ f < x ∧ l.getD i 0 ≠ 0) := by
  induction l generalizing a b with
  | nil => exact Least.start (fun x => by simp)
  | cons y r ih =>
    have ih' := fun b => ih (a + 1) b (by omega)
    have key : ∀ x, (∃ i : Nat, i < (y :: r).length ∧ x = a + i ∧ f < x ∧ (y :: r).getD i 0 ≠ 0) ↔ (x = a ∧ f < a ∧ y ≠ 0) ∨ ∃ i : Nat, i < r.length ∧ x = a + 1 + i ∧ f < x ∧ r.getD i 0 ≠ 0 := fun x => by
      constructor
      · rintro ⟨i, hi, hx, hf, hy⟩
        match i, hi, hx, hy with
        | 0, hi, hx, hy => left; simp at hx hy; subst hx; exact ⟨rfl, hf, hy⟩
        | i + 1, hi, hx, hy => right; exact ⟨i, by simpa using hi, by omega, hf, by simpa using hy⟩
      · rintro (⟨rfl, hf, hy⟩ | ⟨i, hi, hx, hf, hy⟩)
        · exact ⟨0, by simp, by simp, hf, by simpa using hy⟩
        · exact ⟨i + 1, by simpa using hi, by omega, hf, by simpa using hy⟩
    unfold closeL
    by_cases c : f < a ∧ y ≠ 0
    · have e : (if f < a ∧ y ≠ 0 ∧ (b = 0 ∨ a < b) then a else b) = blamed b a := by
        unfold blamed
        by_cases d : b = 0 ∨ a < b
        · rw [if_pos d, if_pos ⟨c.1, c.2, d⟩]
        · rw [if_neg d, if_neg (fun x => d x.2.2)]
      rw [e]
      refine (ih' _).pre (by omega) (fun x => ?_)
      rw [key]
      constructor
      · rintro (h | h)
        · exact .inl h.1
        · exact .inr h
      · rintro (h | h)
        · exact .inl ⟨h, c.1, c.2⟩
        · exact .inr h
    · rw [if_neg (fun x => c ⟨x.1, x.2.1⟩)]
      refine (ih' _).same (fun x => ?_)
      rw [key]
      constructor
      · rintro (h | h)
        · exact absurd ⟨h.2.1, h.2.2⟩ c
        · exact h
      · exact fun h => .inr h
theorem look_mem {G : List (Int × Int)} (hn : (G.map (·.1)).Nodup) (f n : Int) : look G f = some n ↔ (f, n) ∈ G := by
  induction G with
  | nil => simp [look]
  | cons p r ih =>
    rw [List.map_cons, List.nodup_cons] at hn
    rw [look_cons, List.mem_cons]
    by_cases h : p.1 = f
    · rw [if_pos h]
      constructor
      · intro e
        left
        cases e
        rw [← h]
      · rintro (e | e)
        · rw [← e]
        · exact absurd (List.mem_map.2 ⟨_, e, h.symm⟩) hn.1
    · rw [if_neg h, ih hn.2]
      constructor
      · exact fun e => .inr e
      · rintro (e | e)
        · exact absurd (by rw [← e]) h
        · exact e
theorem close_refs {q : Que} {G : List (Int × Int)} {k : Nat} (h : QGood q G k) {f v : Int} (hv : Least v q.wrong (fun x => InMap q.g f (fun _ => false) x ∨ InRow q.first q.xs f (q.last + 1) x)) : v = closeW f q G := by
  obtain ⟨⟨h1, h2, h3⟩, h4, h5, h6, h7, h8⟩ := h
  refine hv.eq ?_
  unfold closeW
  refine Least.last ((closeG_least f G 0 (fun p hp => (h6 p hp).1)).comp (closeL_least f q.xs q.first _ h1) (fun x => ?_))
  constructor
  · rintro (⟨c1, c2, _, _⟩ | ⟨c1, c2, i, c3, c4, c5⟩)
    · left
      rw [h4] at c2
      cases hl : look G x with
      | none => rw [hl] at c2; exact absurd rfl c2
      | some n =>
        rw [hl] at c2
        exact ⟨(x, n), (look_mem h5 x n).1 hl, rfl, c1, c2⟩
    · right
      exact ⟨i, c4, c3, c1, c5⟩
  · rintro (⟨p, hp, c1, c2, c3⟩ | ⟨i, c1, c2, c3, c4⟩)
    · left
      subst c1
      have hl := (look_mem h5 p.1 p.2).2 hp
      refine ⟨c2, by rw [h4, hl]; exact c3, ?_, rfl⟩
      have hb := h6 p hp
      have : IntKind.i64.min ≤ p.1 ∧ p.1 ≤ IntKind.i64.max := by
        show -9223372036854775808 ≤ p.1 ∧ p.1 ≤ 9223372036854775807
        omega
      simpa [Lit.wf] using this
    · right
      exact ⟨c3, by unfold Que.last; omega, i, c2, c1, c4⟩

end Go.Proofs.YtkpbjahjiajodaaDoor
