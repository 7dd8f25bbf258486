/- This text proves, over the loaded program, that the law TallyParts returns true for every input. -/
import Derived.Test.YtlgcobimaadclaaTally
namespace Go.Proofs.Ytlgcobimaadclaa
open Go.RowKit

def greatB (l : List ByteArray) : Bool := decide (60 < l.length) || l.any fun s => decide (4096 < s.size)

set_option maxHeartbeats 400000 in
theorem great_any (A : Option Addr) (c : Nat) (l : List ByteArray) (w : World) (hl : l.length ≤ maxLen) (hA : Cells w A (l.map Value.string)) :
    Calls Try.prog 15 #[.slice A l.length c] w fun e w' => e = .returned (.bool (greatB l)) ∧ w = w' := by
  unfold maxLen at hl
  by_cases h60 : 60 < l.length
  · have t1 : decide (60 < (l.length : Int)) = true := by simp; omega
    have HG := Lib.hid (show greatB l = true by simp [greatB, h60])
    go_enter Try.func15, Try.ntmps15
    go_wp2
    go_ret
    rw [HG.out]
    exact ⟨rfl, rfl⟩
  · have t1 : decide (60 < (l.length : Int)) = false := by simp; omega
    go_enter Try.func15, Try.ntmps15
    go_wp2
    go_loop [3] (fun i => ∃ k : Nat, k ≤ l.length ∧ i = .int .i64 k ∧ (l.take k).any (fun s => decide (4096 < s.size)) = false) (fun i => l.length - (intOf i).toNat)
    case atStart => exact ⟨0, Nat.zero_le _, rfl, by simp⟩
    case round =>
      obtain ⟨k, hk, rfl, hn⟩ := hrel
      have HN := Lib.hid hn
      clear hn
      by_cases hlt : k < l.length
      · obtain ⟨b, o, rfl, hc⟩ := hA k (.string l[k]) (by simp [hlt])
        have hi1 : (0 : Int) ≤ (k : Int) := by omega
        have hi2 : (k : Int) < (l.length : Int) := by omega
        clear hA
        by_cases hb : 4096 < l[k].size
        · have t2 : decide (4096 < (l[k].size : Int)) = true := by simp; omega
          have HG := Lib.hid (show greatB l = true by simp only [greatB, Bool.or_eq_true, List.any_eq_true]; exact .inr ⟨l[k], List.getElem_mem hlt, by simp [hb]⟩)
          go_wp2
          go_ret
          rw [HG.out]
          exact ⟨rfl, rfl⟩
        · have t2 : decide (4096 < (l[k].size : Int)) = false := by simp; omega
          have HK := Lib.hid (show (l.take (k + 1)).any (fun s => decide (4096 < s.size)) = false by rw [List.take_succ_eq_append_getElem hlt, List.any_append, HN.out]; simp; omega)
          go_wp2
          go_round
          case rel => exact ⟨k + 1, by omega, by go_num, HK.out⟩
          case measure => simp [intOf]; omega
      · have HG := Lib.hid (show greatB l = false by have h := HN.out; rw [List.take_of_length_le (by omega)] at h; simp [greatB, h, h60])
        go_wp2
        go_ret
        rw [HG.out]
        exact ⟨rfl, rfl⟩

def catL (l : List ByteArray) : ByteArray := l.foldl (· ++ ·) ⟨#[]⟩

theorem catL_take (l : List ByteArray) (k : Nat) (h : k < l.length) : catL (l.take (k + 1)) = catL (l.take k) ++ l[k] := by
  unfold catL
  rw [List.take_succ_eq_append_getElem h, List.foldl_append]
  rfl

theorem catL_data (s : Int) (l : List ByteArray) (k : Nat) (hk : k ≤ l.length) : addLs s (l.take k) = addL s (catL (l.take k)).data.toList := by
  induction k with
  | zero => rfl
  | succ k ih =>
    rw [addLs_take _ _ _ hk, catL_take _ _ hk, ih (by omega)]
    simp [addL_append]

theorem catL_size (l : List ByteArray) (k : Nat) (hk : k ≤ l.length) (h : ∀ s ∈ l, s.size ≤ 4096) : (catL (l.take k)).size ≤ 4096 * k := by
  induction k with
  | zero => simp [catL, ByteArray.size]
  | succ k ih =>
    rw [catL_take _ _ hk, ByteArray.size_append]
    have := h l[k] (List.getElem_mem hk)
    have := ih (by omega)
    omega


theorem of_any' (A : Option Addr) (c : Nat) (l : List ByteArray) (w : World) (S : Int) (hS : addLs 14695981039346656037 l = S) (hl : l.length ≤ maxLen) (hs : ∀ t ∈ l, t.size ≤ maxLen) (hA : Cells w A (l.map Value.string)) :
    Calls Try.prog 19 #[.slice A l.length c] w fun e w' => e = .returned (.int .u64 S) ∧ Below w.heap.size w w' := by
  subst hS
  exact of_any A c l w hl hs hA

theorem of_blk (t : ByteArray) (w : World) (T : TypeId) (g c : Nat) (S : Int) (hS : addL 14695981039346656037 t.data.toList = S) (hg : w.heap[g]? = some (.cells #[.string t] T (0, 0))) (ht : t.size ≤ maxLen) :
    Calls Try.prog 19 #[.slice (some ⟨g, 0, none⟩) 1 c] w fun e w' => e = .returned (.int .u64 S) ∧ Below w.heap.size w w' :=
  of_any' (some ⟨g, 0, none⟩) c [t] w S (by simpa [addLs] using hS) (by simp [maxLen]) (by simpa using ht) (cells_block hg)

theorem of_blk2 (t u : ByteArray) (w : World) (T : TypeId) (g c : Nat) (S : Int) (hS : addL 14695981039346656037 (t.data.toList ++ u.data.toList) = S) (hg : w.heap[g]? = some (.cells #[.string t, .string u] T (0, 0))) (ht : t.size ≤ maxLen) (hu : u.size ≤ maxLen) :
    Calls Try.prog 19 #[.slice (some ⟨g, 0, none⟩) 2 c] w fun e w' => e = .returned (.int .u64 S) ∧ Below w.heap.size w w' :=
  of_any' (some ⟨g, 0, none⟩) c [t, u] w S (by simpa [addLs, addL_append] using hS) (by simp [maxLen]) (by simp; exact ⟨ht, hu⟩) (cells_block hg)

theorem blk_two (w : World) (o o' : Obj) (k : Nat) (x : Obj) (h : (w.alloc o).heap[k]? = some x) : ((w.alloc o).alloc o').heap[k]? = some x :=
  (heap_alloc_old _ _ (Array.getElem?_eq_some_iff.1 h).1).trans h

theorem alloc_at (w : World) (o : Obj) (k : Nat) (hk : k = w.heap.size) : (w.alloc o).heap[k]? = some o := by
  subst hk
  exact heap_alloc_new w o

theorem blk_bel {w w' : World} {k B : Nat} {x : Obj} (hb : Below B w w') (hk : k < B) (h : w.heap[k]? = some x) : w'.heap[k]? = some x :=
  (hb.block k hk).trans h

theorem parted (s : ByteArray) (m : Nat) : (s.extract 0 m).data.toList ++ (s.extract m s.size).data.toList = s.data.toList := by
  have h : s.data.toList.length = s.size := rfl
  simp only [ByteArray.data_extract, Array.toList_extract, List.extract_eq_take_drop, List.drop_zero, Nat.sub_zero]
  rw [List.take_of_length_le (i := s.size - m) (by rw [List.length_drop, h]; omega), List.take_append_drop]

/-- What is kept while the last statement runs. -/
structure Inv (w : World) (g : Nat) (X : Int) (A : Option Addr) (cs : List Value) (w' : World) : Prop where mk ::
  isT : IsT w' g X
  cells : Cells w' A cs
  bel : Below w.heap.size w w'

theorem IsT.below {w w' : World} {g : Nat} {X : Int} (h : IsT w g X) (hb : Below w.heap.size w w') : IsT w' g X :=
  (hb.block g (Array.getElem?_eq_some_iff.1 (show w.heap[g]? = _ from h)).1).trans h

theorem Inv.below {w : World} {g : Nat} {X : Int} {A : Option Addr} {cs : List Value} {w1 w2 : World} (h : Inv w g X A cs w1) (hb : Below w1.heap.size w1 w2) : Inv w g X A cs w2 :=
  ⟨h.isT.below hb, h.cells.below hb, h.bel.trans (hb.mono h.bel.size)⟩
theorem Inv.alloc {w : World} {g : Nat} {X : Int} {A : Option Addr} {cs : List Value} {w1 : World} (h : Inv w g X A cs w1) (o : Obj) : Inv w g X A cs (w1.alloc o) :=
  h.below ((Below.refl _ _).alloc (Nat.le_refl _) _)
theorem Inv.drew {w : World} {g : Nat} {X : Int} {A : Option Addr} {cs : List Value} {w1 : World} (h : Inv w g X A cs w1) : Inv w g X A cs w1.drew :=
  h.below ((Below.refl _ _).drew)

set_option maxHeartbeats 1600000 in
theorem parts_walk (A : Option Addr) (c : Nat) (l : List ByteArray) (at_ : Int) (w : World) (h60 : l.length ≤ 60) (hs : ∀ s ∈ l, s.size ≤ 4096) (hA : Cells w A (l.map Value.string)) :
    Calls Try.prog 4 #[.slice A l.length c, .int .i64 at_] w fun e w' => e = .returned (.bool true) ∧ Below w.heap.size w w' := by
  have HG := Lib.hid (show greatB l = false by
    simp only [greatB, Bool.or_eq_false_iff, decide_eq_false_iff_not, List.any_eq_false, decide_eq_true_eq]
    exact ⟨by omega, fun s h => by have := hs s h; omega⟩)
  go_enter Try.func4, Try.ntmps4
  go_wp2_with fail
  refine (awake_any _).mono ?_
  rintro e w1 ⟨rfl, hb1⟩
  have B1 := Lib.hid hb1
  clear hb1
  go_wp2_with fail
  refine (great_any A c l w1 (by simp [maxLen]; omega) (hA.below B1.out)).mono ?_
  rintro e w2 ⟨rfl, rfl⟩
  rw [HG.out]
  go_wp2_with fail
  refine (new_any w1).mono ?_
  rintro e w3 ⟨rfl, rfl⟩
  have hg1 : w.heap.size ≤ w1.heap.size := B1.out.size
  have G := Lib.hid hg1
  obtain ⟨g, hg⟩ : ∃ g, g = w1.heap.size := ⟨_, rfl⟩
  rw [← hg]
  have E := Lib.hid hg
  clear hg
  go_wp2_with fail
  go_loopw [5, 7] (fun a i wr => ∃ k : Nat, k ≤ l.length ∧ i = .int .i64 k ∧ a = .string (catL (l.take k)) ∧ IsT wr g (addLs 14695981039346656037 (l.take k)) ∧ Below w.heap.size w wr) (fun _ i _ => l.length - (intOf i).toNat)
  case atStart => exact ⟨0, Nat.zero_le _, rfl, rfl, by rw [E.out]; simpa [addLs] using isT_new w1 _, B1.out.alloc G.out _⟩
  case round =>
    obtain ⟨k, hk, rfl, rfl, hT, hB⟩ := hrel
    by_cases hlt : k < l.length
    · obtain ⟨b, o, rfl, hc⟩ := (hA.below hB) k (.string l[k]) (by simp [hlt])
      have hi1 : (0 : Int) ≤ (k : Int) := by omega
      have hi2 : (k : Int) < (l.length : Int) := by omega
      have ht := hs l[k] (List.getElem_mem hlt)
      have hz := catL_size l k hk hs
      have T := Lib.hid hT
      have BB := Lib.hid hB
      clear hT hB hA hs
      go_wp2_with (go_at_call 17; refine (add_any _ _ _ _ T.out (by simp [maxLen]; omega)).mono ?_; rintro e w' ⟨rfl, hp⟩)
      go_roundw
      case rel => exact ⟨k + 1, by omega, by go_num, by rw [catL_take _ _ hlt], by rw [addLs_take _ _ _ hlt]; exact hp.1, below_grown BB.out hp.2 (by rw [E.out]; exact G.out)⟩
      case measure => simp [intOf]; omega
    · have e : l.take k = l := List.take_of_length_le (by omega)
      have hz := catL_size l k hk hs
      rw [e] at hT hz
      rw [e]
      obtain ⟨m, hm, hm2⟩ := index_of at_ ((catL l).size + 1) (by omega) (by omega)
      obtain ⟨S, hS⟩ : ∃ S, addLs 14695981039346656037 l = S := ⟨_, rfl⟩
      have H1 := Lib.hid hS
      have H2 := Lib.hid (show addL 14695981039346656037 (catL l).data.toList = S by have h := catL_data 14695981039346656037 l l.length (Nat.le_refl _); rw [List.take_length] at h; rw [← h]; exact hS)
      have H3 := Lib.hid (show addL 14695981039346656037 (((catL l).extract 0 m).data.toList ++ ((catL l).extract m (catL l).size).data.toList) = S by rw [parted]; exact H2.out)
      rw [hS] at hT
      clear hS
      have I := Inv.mk (w := w) hT (hA.below hB) hB
      clear hT hB hA
      have hm0 : (0 : Int) ≤ (m : Int) := by omega
      have hm3 : (m : Int) ≤ ((catL l).size : Int) := by omega
      go_wp2_with fail
      go_region_held3 (Inv w g S A (l.map Value.string)) ((repeat (first | assumption | apply Inv.drew | apply Inv.alloc | (apply Inv.below <;> assumption))))
        (first
          | (go_at_call 18; refine (sum_any g S _ ?_).mono ?_; (apply Inv.isT; assumption); rintro e w' ⟨rfl, rfl⟩)
          | (go_at_call_of 19 (Value.slice A l.length c); refine (of_any' A c l _ S H1.out ?_ ?_ ?_).mono ?_; (simp [maxLen]; omega); (intro t ht; have := hs t ht; simp [maxLen]; omega); (apply Inv.cells; assumption); rintro e w' ⟨rfl, hbel⟩)
          | (go_at_call 19; ((with_reducible refine (of_blk (catL l) _ 9 _ _ S H2.out ?_ ?_).mono ?_); (first | exact heap_alloc_new _ _ | exact blk_two _ _ _ _ _ (heap_alloc_new _ _) | (refine alloc_at _ _ _ ?_; focus (simp; done)) | (refine blk_two _ _ _ _ _ (alloc_at _ _ _ ?_); focus (simp; done)) | (refine blk_bel hbel ?_ (alloc_at _ _ _ ?_) <;> (first | (simp; done) | (simp; omega))) | (refine blk_bel hbel ?_ (blk_two _ _ _ _ _ (alloc_at _ _ _ ?_)) <;> (first | (simp; done) | (simp; omega)))); (simp [maxLen]; omega); rintro e w' ⟨rfl, hbel⟩))
          | (go_at_call 19; ((with_reducible refine (of_blk2 ((catL l).extract 0 m) ((catL l).extract m (catL l).size) _ 9 _ _ S H3.out ?_ ?_ ?_).mono ?_); (first | exact heap_alloc_new _ _ | exact blk_two _ _ _ _ _ (heap_alloc_new _ _) | (refine alloc_at _ _ _ ?_; focus (simp; done)) | (refine blk_two _ _ _ _ _ (alloc_at _ _ _ ?_); focus (simp; done)) | (refine blk_bel hbel ?_ (alloc_at _ _ _ ?_) <;> (first | (simp; done) | (simp; omega))) | (refine blk_bel hbel ?_ (blk_two _ _ _ _ _ (alloc_at _ _ _ ?_)) <;> (first | (simp; done) | (simp; omega)))); (simp [maxLen]; omega); (simp [maxLen]; omega); rintro e w' ⟨rfl, hbel⟩)))
      all_goals
        go_wp2
        go_ret
        refine ⟨rfl, ?_⟩
        (first | (apply Inv.bel; assumption) | trace_state)

set_option maxHeartbeats 400000 in
theorem parts_great (A : Option Addr) (c : Nat) (l : List ByteArray) (at_ : Int) (w : World) (hl : l.length ≤ maxLen) (hA : Cells w A (l.map Value.string)) (hg : greatB l = true) :
    Calls Try.prog 4 #[.slice A l.length c, .int .i64 at_] w fun e w' => e = .returned (.bool true) ∧ Below w.heap.size w w' := by
  have HG := Lib.hid hg
  clear hg
  go_enter Try.func4, Try.ntmps4
  go_wp2_with fail
  refine (awake_any _).mono ?_
  rintro e w1 ⟨rfl, hb1⟩
  have B1 := Lib.hid hb1
  clear hb1
  go_wp2_with fail
  refine (great_any A c l w1 hl (hA.below B1.out)).mono ?_
  rintro e w2 ⟨rfl, rfl⟩
  rw [HG.out]
  go_wp2
  go_ret
  exact ⟨rfl, B1.out⟩

theorem parts_any (w : World) (A : Option Addr) (c : Nat) (l : List ByteArray) (hl : l.length ≤ c ∧ c ≤ maxLen ∧ Cells w A (l.map Value.string) ∧ ∀ s ∈ l, s.size ≤ maxLen) (at_ : Int) (_ha : (Lit.int .i64 at_).wf = true) :
    Calls Try.prog 4 #[.slice A l.length c, .int .i64 at_] w fun e w' => e = .returned (.bool true) ∧ Below w.heap.size w w' := by
  cases hg : greatB l with
  | true => exact parts_great A c l at_ w (by omega) hl.2.2.1 hg
  | false =>
    simp only [greatB, Bool.or_eq_false_iff, decide_eq_false_iff_not, List.any_eq_false, decide_eq_true_eq] at hg
    exact parts_walk A c l at_ w (by omega) (fun s h => by have := hg.2 s h; omega) hl.2.2.1

end Go.Proofs.Ytlgcobimaadclaa
