/- This text opens the acts of the line's laws, and says in plain words what a row of acts does to a line. -/
import Derived.Test.YtkpbjahjiajodaaDoorOpen
import Derived.Test.YtkpbjahjiajodaaDoorLineI
namespace Go.Proofs.YtkpbjahjiajodaaDoor
open Go.RowKit Go.WideShapes

/-- An act. -/
structure ActE where
  kind : Int
  i : Int
  s : ByteArray
  at_ : Int
  by_ : UInt8

/-- A row of acts that came in. -/
def Acts (w : World) (A : Option Addr) (l : List ActE) : Prop := ∀ i x, l[i]? = some x → ∃ b o, A = some ⟨b, o, none⟩ ∧
  w.cell? ⟨b, o + i * 5, none⟩ = some (.int .i64 x.kind) ∧ w.cell? ⟨b, o + i * 5 + 1, none⟩ = some (.int .i64 x.i) ∧ w.cell? ⟨b, o + i * 5 + 2, none⟩ = some (.string x.s) ∧ w.cell? ⟨b, o + i * 5 + 3, none⟩ = some (.int .i64 x.at_) ∧ w.cell? ⟨b, o + i * 5 + 4, none⟩ = some (.int .u8 (x.by_.toNat : Int))

theorem Acts.below {w w' : World} {A : Option Addr} {l : List ActE} (h : Acts w A l) (hb : Below w.heap.size w w') : Acts w' A l := fun i x hi => by
  obtain ⟨b, o, e, h0, h1, h2, h3, h4⟩ := h i x hi
  have hl := World.block_lt_of_cell? w _ h0
  exact ⟨b, o, e, (hb.cell (p := ⟨b, o + i * 5, none⟩) hl).trans h0, (hb.cell (p := ⟨b, o + i * 5 + 1, none⟩) hl).trans h1, (hb.cell (p := ⟨b, o + i * 5 + 2, none⟩) hl).trans h2, (hb.cell (p := ⟨b, o + i * 5 + 3, none⟩) hl).trans h3, (hb.cell (p := ⟨b, o + i * 5 + 4, none⟩) hl).trans h4⟩

theorem open_acts {H : Type} {enc : TypeId × Value → H} {W : World} {a : Option Addr} {len cap : Nat} (h : ReadsV enc Tryd.prog W 41 [.slice a len cap]) : ∃ l : List ActE, len = l.length ∧ (l.length ≤ cap ∧ cap ≤ maxLen ∧ Acts W a l ∧ ∀ x ∈ l, (Lit.int .i64 x.i).wf = true ∧ (Lit.int .i64 x.at_).wf = true ∧ x.s.size ≤ maxLen) := by
  have hc : Tryd.prog.cellsOf 47 = 5 := by kernel_rfl
  have c3 : Tryd.prog.cellsOf 3 = 1 := by kernel_rfl
  have c5 : Tryd.prog.cellsOf 5 = 1 := by kernel_rfl
  have c9 : Tryd.prog.cellsOf 9 = 1 := by kernel_rfl
  obtain ⟨h1, h2, he⟩ := open_elems Tryd.underlying41 (by rw [hc]; omega) h
  obtain ⟨l, hl, hr⟩ := list_of len (fun i (x : ActE) => (∃ b o, a = some ⟨b, o, none⟩ ∧
      W.cell? ⟨b, o + i * 5, none⟩ = some (.int .i64 x.kind) ∧ W.cell? ⟨b, o + i * 5 + 1, none⟩ = some (.int .i64 x.i) ∧ W.cell? ⟨b, o + i * 5 + 2, none⟩ = some (.string x.s) ∧ W.cell? ⟨b, o + i * 5 + 3, none⟩ = some (.int .i64 x.at_) ∧ W.cell? ⟨b, o + i * 5 + 4, none⟩ = some (.int .u8 (x.by_.toNat : Int))) ∧
      ((Lit.int .i64 x.i).wf = true ∧ (Lit.int .i64 x.at_).wf = true ∧ x.s.size ≤ maxLen)) (by
    intro i hi
    obtain ⟨cs, hcl, ⟨b, o, ha, hcell⟩, hrd⟩ := he i hi
    rw [hc] at hcl hcell
    match cs, hcl with
    | [v0, v1, v2, v3, v4], _ =>
      have r0 : ReadsV enc Tryd.prog W 3 [v0] := reads_at Tryd.underlying47 hrd 0 rfl rfl rfl c3
      have r1 : ReadsV enc Tryd.prog W 3 [v1] := reads_at Tryd.underlying47 hrd 1 rfl rfl rfl c3
      have r2 : ReadsV enc Tryd.prog W 9 [v2] := reads_at Tryd.underlying47 hrd 2 rfl rfl rfl c9
      have r3 : ReadsV enc Tryd.prog W 3 [v3] := reads_at Tryd.underlying47 hrd 3 rfl rfl rfl c3
      have r4 : ReadsV enc Tryd.prog W 5 [v4] := reads_at Tryd.underlying47 hrd 4 rfl rfl rfl c5
      obtain ⟨x0, e0, _⟩ := reads_int Tryd.underlying3 r0
      obtain ⟨x1, e1, g1⟩ := reads_int Tryd.underlying3 r1
      obtain ⟨x2, e2, g2⟩ := reads_string Tryd.underlying9 r2
      obtain ⟨x3, e3, g3⟩ := reads_int Tryd.underlying3 r3
      obtain ⟨x4, e4, g4⟩ := reads_int Tryd.underlying5 r4
      simp at e0 e1 e2 e3 e4
      subst e0 e1 e2 e3 e4
      have hx4 : ((UInt8.ofNat x4.toNat).toNat : Int) = x4 := by
        have g : IntKind.u8.min ≤ x4 ∧ x4 ≤ IntKind.u8.max := by simpa [Lit.wf] using g4
        have g' : 0 ≤ x4 ∧ x4 ≤ 255 := g
        rw [UInt8.toNat_ofNat']; omega
      exact ⟨⟨x0, x1, x2, x3, UInt8.ofNat x4.toNat⟩, ⟨b, o, ha, hcell 0 _ rfl, hcell 1 _ rfl, hcell 2 _ rfl, hcell 3 _ rfl, by rw [hx4]; exact hcell 4 _ rfl⟩, g1, g3, g2⟩)
  refine ⟨l, hl.symm, by omega, h2, fun i x hx => (hr i x hx).1, fun x hx => ?_⟩
  obtain ⟨i, hi, rfl⟩ := List.getElem_of_mem hx
  exact (hr i _ (List.getElem?_eq_getElem hi)).2

/-- An act, played. -/
def Lin.step (L : Lin) (x : ActE) : Lin :=
  if x.kind = 1 then (L.send x.s).1 else if x.kind = 2 then (L.take x.i).1 else if x.kind = 3 then (L.drop x.i).1 else if x.kind = 4 then (L.double x.i).1 else if x.kind = 5 then (L.spoil x.i x.at_ x.by_).1 else L

/-- What holds behind k acts of a line of n places. -/
def CI (L : Lin) (n k : Nat) : Prop := L.most = n ∧ n ≤ 64 ∧ (L.ts.length : Int) = L.c0 + L.c4 - L.c2 - L.c3 ∧ L.ts.length ≤ n ∧ (0 ≤ L.c0 ∧ L.c0 ≤ k) ∧ (0 ≤ L.c1 ∧ L.c1 ≤ k) ∧ (0 ≤ L.c2 ∧ L.c2 ≤ k) ∧ (0 ≤ L.c3 ∧ L.c3 ≤ k) ∧ (0 ≤ L.c4 ∧ L.c4 ≤ k) ∧ (0 ≤ L.c5 ∧ L.c5 ≤ k) ∧ ∀ t ∈ L.ts, t.1.size ≤ 512

theorem CI.ok {L : Lin} {n k : Nat} (h : CI L n k) (hk : k ≤ 1000000) : L.ok := by
  obtain ⟨h1, h2, h3, h4, h5, h6, h7, h8, h9, h10, h11⟩ := h
  unfold Lin.ok
  omega
theorem CI.at {L : Lin} {n k : Nat} (h : CI L n k) (i : Int) : (L.at i).1.size ≤ 512 := by
  unfold Lin.at
  by_cases hi : i.toNat < L.ts.length
  · rw [List.getD, List.getElem?_eq_getElem hi]
    exact h.2.2.2.2.2.2.2.2.2.2 _ (List.getElem_mem hi)
  · rw [List.getD, List.getElem?_eq_none (by omega)]
    decide
theorem CI.mono {L : Lin} {n k : Nat} (h : CI L n k) : CI L n (k + 1) := by
  obtain ⟨h1, h2, h3, h4, h5, h6, h7, h8, h9, h10, h11⟩ := h
  refine ⟨h1, h2, h3, h4, ?_, ?_, ?_, ?_, ?_, ?_, h11⟩ <;> omega
theorem CI.new (n : Nat) (h : n ≤ 64) : CI (Lin.new n) n 0 := by
  refine ⟨rfl, h, ?_, ?_, ?_, ?_, ?_, ?_, ?_, ?_, ?_⟩ <;> simp [Lin.new]
theorem CI.add {L L' : Lin} {n k : Nat} (h : CI L n k) (h' : ¬ L.most ≤ L.ts.length → CI L' n (k + 1)) : CI (L.addR L').1 n (k + 1) := by
  unfold Lin.addR
  by_cases hf : L.most ≤ L.ts.length
  · rw [if_pos hf]
    obtain ⟨h1, h2, h3, h4, h5, h6, h7, h8, h9, h10, h11⟩ := h
    refine ⟨h1, h2, h3, h4, ?_, ?_, ?_, ?_, ?_, ?_, h11⟩ <;> simp only [Lin.full] <;> omega
  · rw [if_neg hf]
    exact h' hf
theorem CI.send {L : Lin} {n k : Nat} (h : CI L n k) (s : ByteArray) : CI (L.send s).1 n (k + 1) := by
  unfold Lin.send
  by_cases hs : 512 < s.size
  · rw [if_pos hs]; exact h.mono
  · rw [if_neg hs]
    refine h.add fun hf => ?_
    obtain ⟨h1, h2, h3, h4, h5, h6, h7, h8, h9, h10, h11⟩ := h
    refine ⟨h1, h2, ?_, ?_, ?_, ?_, ?_, ?_, ?_, ?_, fun t ht => ?_⟩
    all_goals simp only [Lin.push, List.length_append, List.length_cons, List.length_nil] at *
    all_goals try omega
    simp at ht
    rcases ht with ht | rfl
    · exact h11 t ht
    · simpa using hs
theorem CI.double {L : Lin} {n k : Nat} (h : CI L n k) (i : Int) : CI (L.double i).1 n (k + 1) := by
  unfold Lin.double
  by_cases hi : L.has i
  · rw [if_pos hi]
    have hat := h.at i
    refine h.add fun hf => ?_
    obtain ⟨h1, h2, h3, h4, h5, h6, h7, h8, h9, h10, h11⟩ := h
    refine ⟨h1, h2, ?_, ?_, ?_, ?_, ?_, ?_, ?_, ?_, fun t ht => ?_⟩
    all_goals simp only [Lin.push, List.length_append, List.length_cons, List.length_nil] at *
    all_goals try omega
    simp at ht
    rcases ht with ht | rfl
    · exact h11 t ht
    · exact hat
  · rw [if_neg hi]; exact h.mono
theorem cut_len {L : Lin} {i : Int} (hi : L.has i) : (L.cut i).ts.length + 1 = L.ts.length := by
  unfold Lin.has at hi
  unfold Lin.cut
  rw [List.length_eraseIdx, if_pos (by omega)]
  omega
theorem cut_mem {L : Lin} {i : Int} {t : ByteArray × ByteArray} (h : t ∈ (L.cut i).ts) : t ∈ L.ts := List.mem_of_mem_eraseIdx h
theorem CI.take {L : Lin} {n k : Nat} (h : CI L n k) (i : Int) : CI (L.take i).1 n (k + 1) := by
  unfold Lin.take
  by_cases hi : L.has i
  · rw [if_pos hi]
    have hl := cut_len hi
    obtain ⟨h1, h2, h3, h4, h5, h6, h7, h8, h9, h10, h11⟩ := h
    refine ⟨h1, h2, ?_, ?_, ?_, ?_, ?_, ?_, ?_, ?_, fun t ht => h11 t (cut_mem ht)⟩
    all_goals simp only [show (L.cut i).c0 = L.c0 from rfl, show (L.cut i).c1 = L.c1 from rfl, show (L.cut i).c3 = L.c3 from rfl, show (L.cut i).c4 = L.c4 from rfl, show (L.cut i).c5 = L.c5 from rfl]
    all_goals omega
  · rw [if_neg hi]; exact h.mono
theorem CI.drop {L : Lin} {n k : Nat} (h : CI L n k) (i : Int) : CI (L.drop i).1 n (k + 1) := by
  unfold Lin.drop
  by_cases hi : L.has i
  · rw [if_pos hi]
    have hl := cut_len hi
    obtain ⟨h1, h2, h3, h4, h5, h6, h7, h8, h9, h10, h11⟩ := h
    refine ⟨h1, h2, ?_, ?_, ?_, ?_, ?_, ?_, ?_, ?_, fun t ht => h11 t (cut_mem ht)⟩
    all_goals simp only [show (L.cut i).c0 = L.c0 from rfl, show (L.cut i).c1 = L.c1 from rfl, show (L.cut i).c2 = L.c2 from rfl, show (L.cut i).c4 = L.c4 from rfl, show (L.cut i).c5 = L.c5 from rfl]
    all_goals omega
  · rw [if_neg hi]; exact h.mono
theorem spoilS_size (s : ByteArray) (a : Nat) (b : UInt8) : (spoilS s a b).size = s.size := by
  show (s.data.toList.set a _).toArray.size = s.data.size
  rw [List.size_toArray, List.length_set, Array.length_toList]
theorem CI.spoil {L : Lin} {n k : Nat} (h : CI L n k) (i a : Int) (b : UInt8) : CI (L.spoil i a b).1 n (k + 1) := by
  unfold Lin.spoil
  by_cases hi : L.has i
  · rw [if_pos hi]
    by_cases hb : b = 0 ∨ a < 0 ∨ ((L.at i).1.size : Int) ≤ a
    · rw [if_pos hb]; exact h.mono
    · rw [if_neg hb]
      have hat := h.at i
      obtain ⟨h1, h2, h3, h4, h5, h6, h7, h8, h9, h10, h11⟩ := h
      refine ⟨h1, h2, ?_, ?_, ?_, ?_, ?_, ?_, ?_, ?_, fun t ht => ?_⟩
      all_goals simp only [Lin.put, List.length_set] at *
      all_goals try omega
      rcases List.mem_or_eq_of_mem_set ht with ht | rfl
      · exact h11 t ht
      · rw [spoilS_size]; exact hat
  · rw [if_neg hi]; exact h.mono

end Go.Proofs.YtkpbjahjiajodaaDoor
