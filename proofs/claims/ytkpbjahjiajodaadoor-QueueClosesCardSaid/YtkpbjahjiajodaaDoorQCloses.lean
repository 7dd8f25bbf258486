/- This text proves, over the loaded program, that the law QueueCloses returns true for every input. -/
import Derived.Test.YtkpbjahjiajodaaDoorQGets
import Derived.Test.YtkpbjahjiajodaaDoorQForgets
import Derived.Test.YtkpbjahjiajodaaDoorQueue4
namespace Go.Proofs.YtkpbjahjiajodaaDoor
open Go.RowKit Go.WideShapes

/-- The queue behind the puts and one use ahead. -/
def uq (l : List Int) (f : Int) : Que := { first := 1, xs := l.map qin, g := fun j => if j = f then some (lastv l l.length) else none, wrong := 0, closed := false, fin := 0 }
/-- The queue that is closed. -/
def cq (l : List Int) (f : Int) (k : Nat) (v : Int) : Que := { first := 1, xs := (l.map qin).take k, g := fun j => if j = f then some (lastv l l.length) else none, wrong := v, closed := true, fin := k }

theorem uq_len (l : List Int) (f : Int) : (uq l f).xs.length = l.length := by simp [uq]
theorem uq_last (l : List Int) (f : Int) : (uq l f).last = l.length := by unfold Que.last; rw [uq_len]; simp [uq]; omega
theorem uq_ok (l : List Int) (f : Int) (hl : l.length ≤ 60) : (uq l f).ok := by unfold Que.ok; rw [uq_len]; simp [uq]; omega
theorem uq_of (l : List Int) (f : Int) (h1 : (l.length : Int) < f) (h2 : f ≤ 1073741824) : (gq 0 l l.length).use f = uq l f := by
  have e := gq_get_behind 0 l f (by omega)
  rw [use_hit (by rw [e]) (by simp [gq]; omega) h2, e]
  simp [uq, gq]
theorem cq_len (l : List Int) (f : Int) (k : Nat) (v : Int) (h : k ≤ l.length) : (cq l f k v).xs.length = k := by simp [cq]; omega
theorem cq_last (l : List Int) (f : Int) (k : Nat) (v : Int) (h : k ≤ l.length) : (cq l f k v).last = k := by unfold Que.last; rw [cq_len _ _ _ _ h]; simp [cq]; omega
theorem cq_ok (l : List Int) (f : Int) (k : Nat) (v : Int) (h : k ≤ l.length) (hl : l.length ≤ 60) : (cq l f k v).ok := by unfold Que.ok; rw [cq_len _ _ _ _ h]; simp [cq]; omega
theorem cq_get (l : List Int) (f : Int) (k : Nat) (v : Int) (i : Nat) (h : k ≤ l.length) (h1 : 1 ≤ i) :
    (cq l f k v).get i = (if i ≤ k then qin (l.getD (i - 1) 0) else 0, true) := by
  unfold Que.get
  rw [cq_last _ _ _ _ h, if_neg (by simp [cq]; omega)]
  by_cases hi : i ≤ k
  · rw [if_pos (by omega), if_pos hi]
    congr 1
    have e : ((i : Int) - (cq l f k v).first).toNat = i - 1 := by simp [cq]
    rw [e]
    have h3 : i - 1 < l.length := by omega
    simp only [cq, List.getD, List.getElem?_take, List.getElem?_map]
    rw [if_pos (by omega)]
    simp [h3]
  · rw [if_neg (by omega), if_neg hi, if_pos (by simp [cq])]
theorem cq_err (l : List Int) (f : Int) (k : Nat) (v : Int) (x : Int) : (cq l f k v).err x 0 = some 2 := by
  unfold Que.err
  rw [if_neg (by omega), if_pos (by simp [cq])]

theorem lastv_rg (l : List Int) (k : Nat) : 0 ≤ lastv l k ∧ lastv l k < 256 := by
  unfold lastv
  split
  · omega
  · obtain ⟨v, hv, hv2⟩ := index_of (l.getD (k - 1) 0) 256 (by omega) (by omega)
    rw [show qin (l.getD (k - 1) 0) = (v : Int) from hv]; omega

/-- What the law wants, of the frames above i. -/
def Want (l : List Int) (i : Nat) (v : Int) : Prop :=
  (v = 0 ∧ ∀ j, i < j → j ≤ l.length → qin (l.getD (j - 1) 0) = 0) ∨ ∃ j : Nat, v = j ∧ i < j ∧ j ≤ l.length ∧ qin (l.getD (j - 1) 0) ≠ 0 ∧ ∀ j', i < j' → j' < j → qin (l.getD (j' - 1) 0) = 0

theorem Want.start (l : List Int) : Want l l.length 0 := .inl ⟨rfl, fun j h h' => by omega⟩
theorem Want.hit {l : List Int} {i : Nat} (hi : i + 1 ≤ l.length) (hx : qin (l.getD i 0) ≠ 0) : Want l i ((i + 1 : Nat) : Int) :=
  .inr ⟨i + 1, rfl, by omega, hi, by simpa using hx, fun j' h1 h2 => by omega⟩
theorem Want.miss {l : List Int} {i : Nat} {v : Int} (h : Want l (i + 1) v) (hx : qin (l.getD i 0) = 0) : Want l i v := by
  have key : ∀ j', i < j' → (i + 1 < j' → qin (l.getD (j' - 1) 0) = 0) → qin (l.getD (j' - 1) 0) = 0 := fun j' h1 h2 => by
    by_cases e : j' = i + 1
    · subst e; simpa using hx
    · exact h2 (by omega)
  rcases h with ⟨h1, h2⟩ | ⟨j, h1, h2, h3, h4, h5⟩
  · exact .inl ⟨h1, fun j a b => key j a (fun c => h2 j c b)⟩
  · exact .inr ⟨j, h1, by omega, h3, h4, fun j' a b => key j' a (fun c => h5 j' c b)⟩

theorem Want.least {l : List Int} {k : Nat} {v f : Int} (h : Want l k v) (hk : k ≤ l.length) (hf : (l.length : Int) < f) (hf2 : f ≤ 1073741824) :
    Least (if v = 0 ∧ lastv l l.length ≠ 0 then f else v) (uq l f).wrong (fun x => InMap (uq l f).g k (fun _ => false) x ∨ InRow (uq l f).first (uq l f).xs k ((uq l f).last + 1) x) := by
  rw [uq_last]
  have hM : ∀ x, InMap (uq l f).g k (fun _ => false) x ↔ x = f ∧ lastv l l.length ≠ 0 := by
    intro x
    unfold InMap
    constructor
    · rintro ⟨a1, a2, a3, _⟩
      by_cases e : x = f
      · subst e; exact ⟨rfl, by simpa [uq] using a2⟩
      · simp [uq, e] at a2
    · rintro ⟨rfl, a⟩
      exact ⟨by omega, by simpa [uq] using a, WalkArith.wf_i64 (by omega), rfl⟩
  have hR : ∀ x, InRow (uq l f).first (uq l f).xs k ((l.length : Int) + 1) x ↔ ∃ j : Nat, x = j ∧ k < j ∧ j ≤ l.length ∧ qin (l.getD (j - 1) 0) ≠ 0 := by
    intro x
    unfold InRow
    constructor
    · rintro ⟨a1, a2, i, a3, a4, a5⟩
      simp [uq] at a3 a4 a5
      refine ⟨i + 1, by omega, by omega, by omega, ?_⟩
      simpa [List.getD, a4] using a5
    · rintro ⟨j, rfl, b1, b2, b3⟩
      have h3 : j - 1 < l.length := by omega
      refine ⟨by omega, by omega, j - 1, by simp [uq]; omega, by simpa [uq] using h3, ?_⟩
      simpa [uq, List.getD, h3] using b3
  have hP : ∀ x, (InMap (uq l f).g k (fun _ => false) x ∨ InRow (uq l f).first (uq l f).xs k ((l.length : Int) + 1) x) ↔ ((x = f ∧ lastv l l.length ≠ 0) ∨ ∃ j : Nat, x = j ∧ k < j ∧ j ≤ l.length ∧ qin (l.getD (j - 1) 0) ≠ 0) := fun x => by rw [hM, hR]
  refine Least.same (P := fun x => (x = f ∧ lastv l l.length ≠ 0) ∨ ∃ j : Nat, x = j ∧ k < j ∧ j ≤ l.length ∧ qin (l.getD (j - 1) 0) ≠ 0) ?_ hP
  have e0 : (uq l f).wrong = 0 := rfl
  rw [e0]
  rcases h with ⟨rfl, h2⟩ | ⟨j, rfl, h2, h3, h4, h5⟩
  · by_cases e : lastv l l.length = 0
    · rw [if_neg (by simp [e])]
      refine ⟨.inl rfl, ?_, fun h => absurd rfl h⟩
      rintro x (⟨_, a⟩ | ⟨j, _, a1, a2, a3⟩)
      · exact absurd e a
      · exact absurd (h2 j a1 a2) a3
    · rw [if_pos ⟨rfl, e⟩]
      refine ⟨.inr (.inl ⟨rfl, e⟩), ?_, fun h => absurd rfl h⟩
      rintro x (⟨rfl, a⟩ | ⟨j, _, a1, a2, a3⟩)
      · omega
      · exact absurd (h2 j a1 a2) a3
  · rw [if_neg (by rintro ⟨a, _⟩; omega)]
    refine ⟨.inr (.inr ⟨j, rfl, h2, h3, h4⟩), ?_, fun h => absurd rfl h⟩
    rintro x (⟨rfl, a⟩ | ⟨i, rfl, a1, a2, a3⟩)
    · omega
    · refine ⟨by omega, ?_⟩
      by_cases hlt : i < j
      · exact absurd (h5 i a1 hlt) a3
      · omega

end Go.Proofs.YtkpbjahjiajodaaDoor
