/- This text says in plain words what the law LineKeeps counts: how many of each text are on their way. -/
import Derived.Test.YtkpbjahjiajodaaDoorLCounts
namespace Go.Proofs.YtkpbjahjiajodaaDoor
open Go.RowKit Go.WideShapes

/-- The m-th text. -/
def tx (m : Nat) : ByteArray := ⟨#[UInt8.ofNat m, UInt8.ofNat (m / 256)]⟩
theorem tx_size (m : Nat) : (tx m).size = 2 := rfl
theorem tx_inj {m n : Nat} (hm : m < 256) (hn : n < 256) (h : tx m = tx n) : m = n := by
  unfold tx at h
  simp at h
  have := congrArg UInt8.toNat h.1
  rw [UInt8.toNat_ofNat', UInt8.toNat_ofNat'] at this
  omega

/-- How many of the m-th text there are. -/
def cnt (ts : List (ByteArray × ByteArray)) (m : Nat) : Nat := ts.countP fun t => decide (t.1 = tx m)
theorem cnt_push (ts : List (ByteArray × ByteArray)) (m n : Nat) (hm : m < 256) (hn : n < 256) : cnt (ts ++ [(tx n, tx n)]) m = if m = n then cnt ts m + 1 else cnt ts m := by
  unfold cnt
  rw [List.countP_append]
  by_cases e : m = n
  · subst e; simp
  · have : tx n ≠ tx m := fun h => e (tx_inj hn hm h).symm
    simp [this, e]
theorem cnt_erase (ts : List (ByteArray × ByteArray)) (i m n : Nat) (hm : m < 256) (hn : n < 256) (h : ts[i]? = some (tx n, tx n)) : cnt (ts.eraseIdx i) m = if m = n then cnt ts m - 1 else cnt ts m := by
  unfold cnt
  obtain ⟨hi, he⟩ := List.getElem?_eq_some_iff.1 h
  have hs : ts = ts.take i ++ (tx n, tx n) :: ts.drop (i + 1) := by
    rw [← he, List.getElem_cons_drop, List.take_append_drop]
  rw [List.eraseIdx_eq_take_drop_succ]
  conv => rhs; rw [hs]
  simp only [List.countP_append, List.countP_cons]
  by_cases e : m = n
  · subst e; simp
  · have : tx n ≠ tx m := fun h => e (tx_inj hn hm h).symm
    simp [this, e]
theorem cnt_pos (ts : List (ByteArray × ByteArray)) (i n : Nat) (h : ts[i]? = some (tx n, tx n)) : 0 < cnt ts n := by
  unfold cnt
  rw [List.countP_pos_iff]
  exact ⟨_, List.mem_of_getElem? h, by simp⟩
theorem cnt_le (ts : List (ByteArray × ByteArray)) (n : Nat) : cnt ts n ≤ ts.length := List.countP_le_length

def thereL (ts : List (ByteArray × ByteArray)) : List Value := (List.range 201).map fun m => Value.int .i64 (cnt ts m : Nat)
theorem thereL_at (ts : List (ByteArray × ByteArray)) (m : Nat) (h : m < 201) : (thereL ts)[m]? = some (.int .i64 (cnt ts m : Nat)) := by simp [thereL, h]
theorem thereL_set (ts ts' : List (ByteArray × ByteArray)) (n : Nat) (v : Int) (hn : n < 201) (h1 : (cnt ts' n : Int) = v) (h2 : ∀ m, m < 201 → m ≠ n → cnt ts' m = cnt ts m) : (thereL ts).set n (.int .i64 v) = thereL ts' := by
  apply List.ext_getElem?
  intro i
  rw [List.getElem?_set]
  by_cases hi : i < 201
  · rw [thereL_at _ _ hi]
    by_cases e : n = i
    · subst e; rw [if_pos rfl, thereL_at _ _ hn, h1, if_pos (by simp [thereL, hn])]
    · rw [if_neg e, thereL_at _ _ hi, h2 i hi (fun h => e h.symm)]
  · have e1 : ∀ ts, (thereL ts)[i]? = none := by intro ts; simp [thereL]; omega
    rw [e1, e1, if_neg (by omega)]

/-- The array that counts, in a block of the call's own. -/
def There (w0 w : World) (tb : Nat) (ts : List (ByteArray × ByteArray)) : Prop := w0.heap.size ≤ tb ∧ w.heap[tb]? = some (.cells (thereL ts).toArray 45 (0, 0))
theorem There.frame {w0 w w' : World} {tb : Nat} {ts : List (ByteArray × ByteArray)} (h : There w0 w tb ts) (hf : FrameT w w') : There w0 w' tb ts :=
  ⟨h.1, (hf tb (Array.getElem?_eq_some_iff.1 h.2).1 (fun D hd => by have := h.2.symm.trans hd; simp at this) (fun D hd => by have := h.2.symm.trans hd; simp at this)).trans h.2⟩
theorem There.cell {w0 w : World} {tb : Nat} {ts : List (ByteArray × ByteArray)} (h : There w0 w tb ts) (m : Nat) (hm : m < 201) : w.cell? ⟨tb, m, none⟩ = some (.int .i64 (cnt ts m : Nat)) ∧ w.frozen? ⟨tb, m, none⟩ = false := by
  refine ⟨?_, by simp [World.frozen?, h.2]⟩
  simp only [World.cell?, h.2]
  simp [thereL_at _ _ hm]
theorem There.set {w0 w : World} {tb : Nat} {ts ts' : List (ByteArray × ByteArray)} (h : There w0 w tb ts) (n : Nat) (v : Int) (hn : n < 201) (h1 : (cnt ts' n : Int) = v) (h2 : ∀ m, m < 201 → m ≠ n → cnt ts' m = cnt ts m) : There w0 (w.setCell ⟨tb, n, none⟩ (.int .i64 v)) tb ts' := by
  refine ⟨h.1, ?_⟩
  rw [heap_setCell_of h.2, ← thereL_set ts ts' n v hn h1 h2]
  simp

/-- A store into the array leaves the line. -/
theorem LI.there {w0 w : World} {lb tb : Nat} {L : Lin} {ts : List (ByteArray × ByteArray)} (h : LI w0 lb L w) (ht : There w0 w tb ts) (n : Nat) (v : Value) : LI w0 lb L (w.setCell ⟨tb, n, none⟩ v) := by
  refine h.kept (Kept.setCell w tb n v) (by intro x hx; simp at hx; subst hx; exact ht.1) ?_ ?_
  · obtain ⟨_, ⟨gp, sv, h2, _⟩, _⟩ := h
    intro hm
    simp at hm
    have := h2.cell
    rw [hm, ht.2] at this
    simp at this
  · intro gp sv h2 x hx hm
    simp at hm
    subst hm
    obtain ⟨C, hC⟩ := h2.typ x hx
    rw [ht.2] at hC
    simp at hC

/-- What holds behind k acts: next is the number of the next text; all that are on their way were sent. -/
def KI (L : Lin) (next k : Nat) : Prop := CI L 64 k ∧ next ≤ k ∧ ∀ t ∈ L.ts, ∃ m, m < next ∧ t = (tx m, tx m)

theorem KI.full {L : Lin} {next k : Nat} (h : KI L next k) (hf : L.most ≤ L.ts.length) : L.send (tx next) = (L.full, some 4) ∧ KI L.full next (k + 1) := by
  have e : L.send (tx next) = (L.full, some 4) := by
    unfold Lin.send Lin.addR
    rw [if_neg (by rw [tx_size]; omega), if_pos hf]
  refine ⟨e, ?_, by have := h.2.1; omega, h.2.2⟩
  have := h.1.send (tx next)
  rw [e] at this
  exact this
theorem KI.push {L : Lin} {next k : Nat} (h : KI L next k) (hf : ¬ L.most ≤ L.ts.length) : ∃ L', L.send (tx next) = (L', none) ∧ KI L' (next + 1) (k + 1) ∧ L'.ts = L.ts ++ [(tx next, tx next)] := by
  have e : L.send (tx next) = ({ L.push (tx next, tx next) with c0 := L.c0 + 1 }, none) := by
    unfold Lin.send Lin.addR
    rw [if_neg (by rw [tx_size]; omega), if_neg hf]
  refine ⟨_, e, ⟨?_, by have := h.2.1; omega, fun t ht => ?_⟩, rfl⟩
  · have := h.1.send (tx next)
    rw [e] at this
    exact this
  · simp only [Lin.push, List.mem_append, List.mem_singleton] at ht
    rcases ht with ht | rfl
    · obtain ⟨m, hm, e⟩ := h.2.2 t ht
      exact ⟨m, by omega, e⟩
    · exact ⟨next, by omega, rfl⟩
theorem KI.at {L : Lin} {next k : Nat} (h : KI L next k) {i : Nat} (hi : i < L.ts.length) : ∃ m, m < next ∧ L.ts[i]? = some (tx m, tx m) := by
  obtain ⟨m, hm, e⟩ := h.2.2 _ (List.getElem_mem hi)
  exact ⟨m, hm, by rw [List.getElem?_eq_getElem hi, e]⟩
theorem KI.twice {L : Lin} {next k i m : Nat} (h : KI L next k) (hi : L.ts[i]? = some (tx m, tx m)) (hm : m < next) (hf : ¬ L.most ≤ L.ts.length) : ∃ L', L.double i = (L', none) ∧ KI L' next (k + 1) ∧ L'.ts = L.ts ++ [(tx m, tx m)] := by
  have hl := (List.getElem?_eq_some_iff.1 hi).1
  have hat : L.at i = (tx m, tx m) := by simp [Lin.at, List.getD, hi]
  have e : L.double i = ({ L.push (tx m, tx m) with c4 := L.c4 + 1 }, none) := by
    unfold Lin.double Lin.addR
    rw [if_pos (by unfold Lin.has; omega), if_neg hf, hat]
  refine ⟨_, e, ⟨?_, by have := h.2.1; omega, fun t ht => ?_⟩, rfl⟩
  · have := h.1.double (i : Int)
    rw [e] at this
    exact this
  · simp only [Lin.push, List.mem_append, List.mem_singleton] at ht
    rcases ht with ht | rfl
    · exact h.2.2 t ht
    · exact ⟨m, hm, rfl⟩
theorem KI.twiceFull {L : Lin} {next k i : Nat} (h : KI L next k) (hl : i < L.ts.length) (hf : L.most ≤ L.ts.length) : L.double i = (L.full, some 4) ∧ KI L.full next (k + 1) := by
  have e : L.double i = (L.full, some 4) := by
    unfold Lin.double Lin.addR
    rw [if_pos (by unfold Lin.has; omega), if_pos hf]
  refine ⟨e, ?_, by have := h.2.1; omega, h.2.2⟩
  have := h.1.double (i : Int)
  rw [e] at this
  exact this
theorem KI.cut {L : Lin} {next k i m : Nat} (h : KI L next k) (hi : L.ts[i]? = some (tx m, tx m)) : ∃ L', L.take i = (L', none) ∧ L.taken i = tx m ∧ KI L' next (k + 1) ∧ L'.ts = L.ts.eraseIdx i := by
  have hl := (List.getElem?_eq_some_iff.1 hi).1
  have hh : L.has i := by unfold Lin.has; omega
  have hat : L.at i = (tx m, tx m) := by simp [Lin.at, List.getD, hi]
  have e : L.take i = ({ L.cut i with c2 := L.c2 + 1 }, none) := by
    unfold Lin.take
    rw [if_pos hh]
  refine ⟨_, e, by unfold Lin.taken; rw [if_pos hh, hat], ⟨?_, by have := h.2.1; omega, fun t ht => h.2.2 t (cut_mem ht)⟩, by simp [Lin.cut]⟩
  have := h.1.take (i : Int)
  rw [e] at this
  exact this
theorem take_none {L : Lin} {i : Int} (hi : ¬ L.has i) : L.take i = (L, some 5) ∧ L.taken i = ByteArray.empty := by
  unfold Lin.take Lin.taken
  rw [if_neg hi, if_neg hi]
  exact ⟨rfl, rfl⟩
theorem KI.mono {L : Lin} {next k : Nat} (h : KI L next k) : KI L next (k + 1) := ⟨h.1.mono, by have := h.2.1; omega, h.2.2⟩
theorem KI.clean {L : Lin} {next k i : Nat} (h : KI L next k) (hi : i < L.ts.length) : L.clean i = true := by
  obtain ⟨m, hm, e⟩ := h.at hi
  have hat : L.at i = (tx m, tx m) := by simp [Lin.at, List.getD, e]
  unfold Lin.clean
  rw [hat]
  simp [Lin.has, hi]
theorem KI.new : KI (Lin.new 64) 0 0 := ⟨CI.new 64 (by decide), Nat.le_refl _, by simp [Lin.new]⟩

end Go.Proofs.YtkpbjahjiajodaaDoor
