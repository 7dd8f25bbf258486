/- This text proves, over the loaded program, that the law DiceShuffles returns true for every input. -/
import Derived.Test.YtlgcobimaadclaaDraws
import Derived.Deep.WholeRow
namespace Go.Proofs.Ytlgcobimaadclaa
open Go.RowKit
attribute [local go_sem] max2_int min2_int max_two min_two

/-- The cells of an array of 201 bools, all false. -/
def Zc : Array Value := ((List.replicate 201 false).map Value.bool).toArray
theorem zero45 (w : World) : (zeroValue 45).run Try.prog w = .ok (.agg Zc) w := by kernel_rfl
theorem info45 : (Try.prog.info? 45).map (·.size) = some Zc.size := by kernel_rfl

/-- A block of 201 bools. -/
def Row4 (w : World) (g : Nat) (l : List Bool) : Prop := w.heap[g]? = some (.cells (l.map Value.bool).toArray 45 (0, 0))

theorem Row4.cell {w : World} {g : Nat} {l : List Bool} (h : Row4 w g l) (i : Nat) (b : Bool) (hi : l[i]? = some b) : w.cell? ⟨g, i, none⟩ = some (.bool b) := by
  simp [World.cell?, show w.heap[g]? = _ from h, hi]
theorem Row4.frozen {w : World} {g : Nat} {l : List Bool} (h : Row4 w g l) (i : Nat) : w.frozen? ⟨g, i, none⟩ = false := by
  simp [World.frozen?, show w.heap[g]? = _ from h]
theorem Row4.set {w : World} {g : Nat} {l : List Bool} (h : Row4 w g l) (i : Nat) (x : Bool) : Row4 (w.setCell ⟨g, i, none⟩ (.bool x)) g (l.set i x) := by
  unfold Row4 World.setCell
  simp only [Array.getElem?_modify, if_true]
  rw [show w.heap[g]? = _ from h]
  simp [List.map_set]

theorem store_zero (w : World) (n : Nat) : ∃ W5, (storeCells ⟨w.heap.size, 0, none⟩ Zc.toList).run Try.prog ((w.drewN n).alloc (.cells Zc 45)) = .ok () W5 ∧ Row4 W5 w.heap.size (List.replicate 201 false) ∧ Below w.heap.size w W5 := by
  refine ⟨_, run_storeCells_new (w.drewN n) 45 Zc Zc info45 rfl (by decide +kernel), ?_, ?_⟩
  · exact heap_alloc_last (w.drewN n) _
  · exact (show Below w.heap.size w (w.drewN n) from drewN_below _ _ _).alloc (Nat.le_refl _) _

/-- Which numbers the first k of a list hold. -/
def seenL (L : List Int) (k : Nat) : List Bool := (List.range 201).map fun (j : Nat) => decide ((j : Int) ∈ L.take k)

theorem seenL_zero (L : List Int) : seenL L 0 = List.replicate 201 false := by
  simp [seenL, List.map_const']

theorem seenL_at (L : List Int) (k d : Nat) (h : d < 201) : (seenL L k)[d]? = some (decide ((d : Int) ∈ L.take k)) := by
  simp [seenL, h]

theorem seenL_set (L : List Int) (k d : Nat) (hd : L[k]? = some (d : Int)) : (seenL L k).set d true = seenL L (k + 1) := by
  obtain ⟨hk, hd⟩ := List.getElem?_eq_some_iff.1 hd
  apply List.ext_getElem?
  intro i
  rw [List.getElem?_set]
  by_cases hi : i < 201
  · rw [seenL_at _ _ _ hi, seenL_at _ _ _ hi, List.take_succ_eq_append_getElem hk, hd]
    by_cases e : d = i
    · subst e; simp [seenL, hi]
    · rw [if_neg e]
      have : ¬ (i : Int) = (d : Int) := by omega
      simp [this]
  · have e1 : (seenL L k)[i]? = none := by simp [seenL]; omega
    have e2 : (seenL L (k + 1))[i]? = none := by simp [seenL]; omega
    have e3 : (seenL L k).length = 201 := by simp [seenL]
    rw [e1, e2, e3]
    by_cases e : d = i
    · rw [if_pos e, if_neg (by omega)]
    · rw [if_neg e]

theorem swapL_perm (l : List Int) (i k : Nat) (hi : i < l.length) (hk : k < l.length) : (swapL l i k).Perm l := by
  have h := List.set_set_perm hi hk
  unfold swapL
  simpa [List.getD, hi, hk] using h

theorem shuf_perm (i : Nat) : ∀ (s : Int) (l : List Int), i < l.length → (shuf i s l).2.Perm l := by
  induction i with
  | zero => intro s l _; exact List.Perm.refl _
  | succ i ih =>
    intro s l h
    rw [shuf]
    have hr := drawN_range s ((i : Int) + 2)
    have h2 := hr.2 (by omega)
    exact (ih _ _ (by rw [swapL_length]; omega)).trans (swapL_perm _ _ _ h (by omega))

theorem range_nodup (m : Nat) : (rangeL m).Nodup := by
  unfold rangeL
  refine List.Pairwise.map _ ?_ List.nodup_range
  intro a b h; omega

theorem shuf_once (m : Nat) (s : Int) : (shuf (m - 1) s (rangeL m)).2.Nodup ∧ ∀ x ∈ (shuf (m - 1) s (rangeL m)).2, 0 ≤ x ∧ x < (m : Int) := by
  have hp : (shuf (m - 1) s (rangeL m)).2.Perm (rangeL m) := by
    rcases m with _ | m
    · exact List.Perm.refl _
    · exact shuf_perm _ _ _ (by simp [rangeL])
  refine ⟨hp.nodup_iff.2 (range_nodup m), fun x hx => ?_⟩
  have := hp.mem_iff.1 hx
  simp [rangeL] at this
  omega

theorem fresh_at {L : List Int} (h : L.Nodup) (k : Nat) (x : Int) (hx : L[k]? = some x) : x ∉ L.take k := by
  obtain ⟨hk', rfl⟩ := List.getElem?_eq_some_iff.1 hx
  intro hm
  have h' : (L.take (k + 1)).Nodup := h.sublist (List.take_sublist _ _)
  rw [List.take_succ_eq_append_getElem hk', List.nodup_append] at h'
  exact h'.2.2 _ hm _ (by simp) rfl

theorem shuf_seed (i : Nat) : ∀ (s : Int) (l : List Int), (shuf (i + 1) s l).1 = skipI s ((i : Int) + 1) := by
  induction i with
  | zero => intro s l; rfl
  | succ i ih =>
    intro s l
    rw [shuf, ih, nextS_is, skipI_is, skipI_is]
    unfold wrap64
    omega

set_option maxHeartbeats 1600000 in
theorem shuffles_walk (a many b : Int) (w : World) (hb : b ≤ 9223372036854775807) (hal : -9223372036854775808 ≤ a ∧ a ≤ 9223372036854775807) :
    Calls Try.prog 7 #[.int .i64 a, .int .i64 many, .int .i64 b] w fun e w' => e = .returned (.bool true) ∧ Below w.heap.size w w' := by
  obtain ⟨m, hm, hm2⟩ := index_of many 201 (by omega) (by omega)
  obtain ⟨S, hS⟩ : ∃ S, (shuf (m - 1) a (rangeL m)).1 = S := ⟨_, rfl⟩
  obtain ⟨L, hL⟩ : ∃ L, (shuf (m - 1) a (rangeL m)).2 = L := ⟨_, rfl⟩
  have hl : L.length = m := by rw [← hL, shuf_length]; simp [rangeL]
  have hlm : L.length ≤ maxLen := by rw [hl]; simp [maxLen]; omega
  have hsk : skipI a (if (m : Int) - 1 < 0 then 0 else (m : Int) - 1) = S := by
    rw [← hS]
    rcases m with _ | _ | m
    · rw [if_pos (by omega), skipI_is]; show wrap64 (a + 0 * _) = a; unfold wrap64; omega
    · rw [if_neg (by omega), skipI_is]; show wrap64 (a + _ * _) = a; unfold wrap64; omega
    · rw [if_neg (by omega), show m + 1 + 1 - 1 = m + 1 from rfl, shuf_seed]; congr 1; omega
  have hone := shuf_once m a
  rw [hL] at hone
  have ONE := Lib.hid hone
  clear hone
  have HS := Lib.hid hS
  have HL := Lib.hid hL
  have LL := Lib.hid hl
  obtain ⟨x, hx⟩ : ∃ x, (if (m : Int) - 1 < 0 then 0 else (m : Int) - 1) = x := ⟨_, rfl⟩
  rw [hx] at hsk
  have SK := Lib.hid hsk
  clear hS hL hl hsk
  go_enter Try.func7, Try.ntmps7
  go_wp2_with fail
  refine (awakeD_any _).mono ?_
  rintro e w1 ⟨rfl, n1, rfl⟩
  go_wp2_with fail
  refine (shuffle_any a m m _ (by omega) (.inr rfl)).mono ?_
  rintro e w2 ⟨g, rfl, hR, hB, hg⟩
  rw [HS.out]
  rw [HL.out, LL.out]
  rw [HL.out] at hR
  have B2 := Lib.hid hB
  have R2 := Lib.hid hR
  have G := Lib.hid hg
  clear hB hR hg
  go_wp2_with fail
  refine (shuffle_any a m m _ (by omega) (.inr rfl)).mono ?_
  rintro e w3 ⟨g', rfl, hR, hB, hg⟩
  rw [HS.out]
  rw [HL.out, LL.out]
  rw [HL.out] at hR
  have hR2 : Row3 w3 g L := (hB.block g (Array.getElem?_eq_some_iff.1 (show w2.heap[g]? = _ from R2.out)).1).trans R2.out
  have R3 := Lib.hid hR2
  have R3' := Lib.hid hR
  have B3 := Lib.hid (B2.out.trans (hB.mono B2.out.size))
  clear hB hR hg hR2
  go_wp2_with fail
  rw [← LL.out]
  refine (same_any _ _ L _ _ L w3 hlm hlm R3.out.cells R3'.out.cells).mono ?_
  rintro e w4 ⟨rfl, n4, rfl⟩
  have hd : decide (L = L) = true := by simp
  rw [hd]
  clear hd
  rw [LL.out]
  go_wp2_with fail
  refine (skip_any a x _).mono ?_
  rintro e w4 ⟨rfl, rfl⟩
  rw [SK.out]
  clear hx
  have hz := zero45
  obtain ⟨W5, hst, hR5, hB5⟩ := store_zero w3 n4
  have R5 := Lib.hid hR5
  have B5 := Lib.hid hB5
  clear hR5 hB5
  have hmm := hm
  set_option maxRecDepth 100000 in
  go_wp2_with fail
  clear hz hst hm
  go_loopw [13] (fun i wr => ∃ k : Nat, k ≤ m ∧ i = .int .i64 k ∧ Row4 wr w3.heap.size (seenL L k) ∧ Below w3.heap.size w3 wr) (fun i _ => m - (intOf i).toNat)
  case atStart => exact ⟨0, Nat.zero_le _, rfl, by rw [seenL_zero]; exact R5.out, B5.out⟩
  case round =>
    obtain ⟨k, hk, rfl, hR, hB⟩ := hrel
    by_cases hlt : k < m
    · have hi1 : (0 : Int) ≤ (k : Int) := by omega
      have hi2 : (k : Int) < (m : Int) := by omega
      obtain ⟨x, hx⟩ : ∃ x, L[k]? = some x := ⟨L[k]'(by rw [LL.out]; omega), by simp [LL.out, hlt]⟩
      have hxr := ONE.out.2 x (List.mem_of_getElem? hx)
      obtain ⟨d, rfl⟩ : ∃ d : Nat, x = (d : Int) := ⟨x.toNat, by omega⟩
      have hnot : decide ((d : Int) ∈ L.take k) = false := by simpa using fresh_at ONE.out.1 k _ hx
      have hc : wr.cell? ⟨g, k, none⟩ = some (.int .i64 (d : Int)) := by
        have h3 : Row3 wr g L := (hB.block g (Array.getElem?_eq_some_iff.1 (show w3.heap[g]? = _ from R3.out)).1).trans R3.out
        have := h3.cell k (by rw [LL.out]; omega)
        rw [this, List.getD, hx]; rfl
      have hs : wr.cell? ⟨w3.heap.size, d, none⟩ = some (.bool false) := by
        have := hR.cell d _ (seenL_at L k d (by omega))
        rw [hnot] at this
        exact this
      have hf := hR.frozen d
      have hd1 : (0 : Int) ≤ (d : Int) := by omega
      have hd2 : (d : Int) < (m : Int) := by omega
      have hd3 : (d : Int) < 201 := by omega
      have t1 : decide ((d : Int) < 0) = false := by simp
      have t2 : decide ((m : Int) ≤ (d : Int)) = false := by simp; omega
      have R := Lib.hid hR
      have BB := Lib.hid hB
      have HX := Lib.hid hx
      clear hR hB hx hnot hxr
      go_wp2_with fail
      exact ⟨⟨k + 1, by omega, by go_num, by rw [← seenL_set L k d HX.out]; exact R.out.set d _, BB.out.setCell (Nat.le_refl _) _⟩, by simp [intOf]; omega⟩
    · obtain rfl : k = m := by omega
      obtain ⟨wo, hwo⟩ : ∃ wo, wo = wr := ⟨_, rfl⟩
      subst hwo
      have BB := Lib.hid (B3.out.trans (hB.mono B3.out.size))
      clear hR hB
      obtain ⟨T, hT⟩ : ∃ T, nextS a = T := ⟨_, rfl⟩
      have T1 := Lib.hid hT
      have T2 := Lib.hid (show skipI a 1 = T from hT)
      obtain ⟨q, hq⟩ : ∃ q, drawN a b = q := ⟨_, rfl⟩
      have hr := drawN_range a b
      have h0 : b ≤ 0 → drawN a b = 0 := fun h => by unfold drawN; rw [if_pos h]
      rw [hq] at hr h0
      have HQ := Lib.hid hq
      clear hT hq
      go_wp2_with fail
      refine (draw_any a b _ hb).mono ?_
      rintro e w6 ⟨rfl, n6, rfl⟩
      rw [T1.out, HQ.out]
      go_wp2_with fail
      refine (skip_any a 1 _).mono ?_
      rintro e w7 ⟨rfl, rfl⟩
      rw [T2.out]
      have hq0 : 0 ≤ q := hr.1
      by_cases hb0 : b ≤ 0
      · have t5 : decide (0 < b) = false := by simp; omega
        have t6 : decide (b ≤ 0) = true := by simp; omega
        obtain rfl : q = 0 := h0 hb0
        clear hr h0
        go_wp2
        go_ret
        exact ⟨rfl, BB.out.os, BB.out.tape, BB.out.output, BB.out.size, BB.out.block⟩
      · have t5 : decide (0 < b) = true := by simp; omega
        have t6 : decide (b ≤ 0) = false := by simp; omega
        have hq1 : q < b := hr.2 (by omega)
        clear hr h0
        go_wp2
        go_ret
        exact ⟨rfl, BB.out.os, BB.out.tape, BB.out.output, BB.out.size, BB.out.block⟩

theorem shuffles_any (w : World) (a : Int) (ha : (Lit.int .i64 a).wf = true) (n : Int) (_hn : (Lit.int .i64 n).wf = true) (b : Int) (hb : (Lit.int .i64 b).wf = true) :
    Calls Try.prog 7 #[.int .i64 a, .int .i64 n, .int .i64 b] w fun e w' => e = .returned (.bool true) ∧ Below w.heap.size w w' := by
  have hb' : -9223372036854775808 ≤ b ∧ b ≤ 9223372036854775807 := by simpa [Lit.wf, IntKind.min, IntKind.max, IntKind.signed, IntKind.bits] using hb
  have ha' : -9223372036854775808 ≤ a ∧ a ≤ 9223372036854775807 := by simpa [Lit.wf, IntKind.min, IntKind.max, IntKind.signed, IntKind.bits] using ha
  exact shuffles_walk a n b w hb'.2 ha'

end Go.Proofs.Ytlgcobimaadclaa
