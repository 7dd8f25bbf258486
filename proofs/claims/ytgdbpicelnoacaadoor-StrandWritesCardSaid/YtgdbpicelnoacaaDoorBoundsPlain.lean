/- This text says in plain words what a writer with a bound tells of items that can be put. No program. -/
import Derived.Test.YtgdbpicelnoacaaDoorBack
namespace Go.Proofs.YtgdbpicelnoacaaDoor

theorem Wri.item_enc {W : Wri} {i : It} {bs : List UInt8} (h : encI i = some bs) (hk : 1 ≤ i.kind ∧ i.kind ≤ 6) : W.item i = W.put bs := by
  unfold encI at h
  unfold Wri.item Wri.byte Wri.count
  have hks : i.kind = 1 ∨ i.kind = 2 ∨ i.kind = 3 ∨ i.kind = 4 ∨ i.kind = 5 ∨ i.kind = 6 := by omega
  rcases hks with k | k | k | k | k | k <;> simp only [k] at h ⊢ <;> simp at h ⊢
  · obtain ⟨h1, rfl⟩ := h
    rw [if_neg (by omega)]
  · obtain ⟨h1, rfl⟩ := h
    rw [if_neg (by omega)]
  all_goals rw [h]
theorem Wri.item_ref {W : Wri} {i : It} (h : encI i = none) : W.item i = W.refuse := by
  unfold encI at h
  unfold Wri.item Wri.byte Wri.count
  repeat' split at h
  all_goals first | cases h | skip
  · rename_i k hn; rw [if_pos k, if_pos hn]
  · rename_i k1 k hn; rw [if_neg k1, if_pos k, if_pos hn]
theorem Wri.put_bad {W : Wri} {j : Nat} (h : W.err = some j) (bs : List UInt8) : W.put bs = W := by
  unfold Wri.put; rw [if_neg (by rw [h]; simp)]
theorem Wri.refuse_bad {W : Wri} {j : Nat} (h : W.err = some j) : W.refuse = W := by
  unfold Wri.refuse; rw [if_neg (by rw [h]; simp)]
theorem Wri.item_bad {W : Wri} {j : Nat} (h : W.err = some j) (i : It) : W.item i = W := by
  unfold Wri.item Wri.byte Wri.count
  repeat' split
  all_goals first | rfl | exact Wri.put_bad h _ | exact Wri.refuse_bad h
theorem fold_bad : ∀ (l : List It) {W : Wri} {j : Nat}, W.err = some j → l.foldl Wri.item W = W
  | [], _, _, _ => rfl
  | i :: r, W, j, h => by rw [List.foldl_cons, Wri.item_bad h]; exact fold_bad r h

/-- What a bound makes of items that can be put. -/
theorem fold_bound : ∀ (l : List It) (W : Wri), W.err = none → (W.out.length : Int) ≤ W.most → (∀ x ∈ l, (encI x).isSome ∧ 1 ≤ x.kind ∧ x.kind ≤ 6) →
    (((W.out ++ encL l).length : Int) ≤ W.most ∧ l.foldl Wri.item W = { W with out := W.out ++ encL l }) ∨ (W.most < ((W.out ++ encL l).length : Int) ∧ (l.foldl Wri.item W).err = some 2)
  | [], W, h, h0, _ => .inl ⟨by simpa [encL] using h0, by simp [encL]⟩
  | i :: r, W, h, h0, hx => by
    obtain ⟨hi, hk⟩ := hx i (by simp)
    obtain ⟨bs, hbs⟩ := Option.isSome_iff_exists.1 hi
    have he : encL (i :: r) = bs ++ encL r := by simp [encL, hbs]
    rw [he, List.foldl_cons, Wri.item_enc hbs hk]
    unfold Wri.put
    rw [if_pos h]
    by_cases hl : (bs.length : Int) > W.most - W.out.length
    · rw [if_pos hl]
      refine .inr ⟨by simp only [List.length_append]; omega, ?_⟩
      rw [fold_bad r rfl]
    · rw [if_neg hl]
      rcases fold_bound r { W with out := W.out ++ bs } h (by simp only [List.length_append]; omega) (fun x hm => hx x (by simp [hm])) with ⟨h1, h2⟩ | ⟨h1, h2⟩
      · exact .inl ⟨by simpa using h1, by rw [h2]; simp⟩
      · exact .inr ⟨by simpa using h1, h2⟩

theorem enc_len {i : It} {bs : List UInt8} (h : encI i = some bs) (hn : In64 i.n) (ht : i.text.size ≤ 1000) (hf : i.fl.length ≤ 1000) : bs.length ≤ 1010 := by
  unfold encI at h
  have hl : i.text.data.toList.length = i.text.size := rfl
  obtain ⟨hn0, hn1⟩ := hn
  repeat' split at h
  all_goals first | cases h | skip
  · simp
  · have := groupsL_len10 i.n.toNat (by omega); omega
  · have := groupsL_len10 (zig i.n) (zig_lt i.n ⟨hn0, hn1⟩); omega
  · unfold textL
    have := groupsL_len10 i.text.size (by omega)
    rw [List.length_append, hl]; omega
  · have := groupsL_len10 (i.n % 4294967296).toNat (by omega); omega
  · rw [flagsL_len]; omega
  · simp

/-- A few items never are too long: what is wrong was wrong of itself. -/
theorem wfold_arg : ∀ (l : List It) (W : Wri), W.err = none → (W.out.length : Int) + 1010 * l.length ≤ W.most → (∀ x ∈ l, In64 x.n ∧ x.text.size ≤ 1000 ∧ x.fl.length ≤ 1000 ∧ 1 ≤ x.kind ∧ x.kind ≤ 6) →
    (l.foldl Wri.item W).err = none ∨ (l.foldl Wri.item W).err = some 1
  | [], W, h, _, _ => .inl h
  | i :: r, W, h, hl, hx => by
    obtain ⟨h1, h2, h3, h4⟩ := hx i (by simp)
    rw [List.foldl_cons]
    cases he : encI i with
    | none =>
      rw [Wri.item_ref he]
      have hr : W.refuse.err = some 1 := by unfold Wri.refuse; rw [if_pos h]
      exact .inr (by rw [fold_bad r hr, hr])
    | some bs =>
      have hb := enc_len he h1 h2 h3
      rw [List.length_cons] at hl
      rw [Wri.item_enc he h4]
      unfold Wri.put
      rw [if_pos h, if_neg (by omega)]
      exact wfold_arg r _ h (by simp only [List.length_append]; omega) (fun x hm => hx x (by simp [hm]))

end Go.Proofs.YtgdbpicelnoacaaDoor
