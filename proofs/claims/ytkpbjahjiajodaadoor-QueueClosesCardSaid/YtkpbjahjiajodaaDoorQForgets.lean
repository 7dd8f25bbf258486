/- This text proves, over the loaded program, that the law QueueForgets returns true for every input. -/
import Derived.Test.YtkpbjahjiajodaaDoorQGets
import Derived.Test.YtkpbjahjiajodaaDoorQueue3
namespace Go.Proofs.YtkpbjahjiajodaaDoor
open Go.RowKit Go.WideShapes
attribute [local go_sem] max2_int min2_int max_two min_two

/-- The queue behind forgetting. -/
def fq (l : List Int) (k : Nat) : Que := (gq 0 l l.length).forget k

theorem fq_first (l : List Int) (k : Nat) : (fq l k).first = (k : Int) + 1 := by simp [fq, Que.forget, gq]; omega
theorem fq_len (l : List Int) (k : Nat) : (fq l k).xs.length = l.length - k := by simp [fq, Que.forget, gq]
theorem fq_last (l : List Int) (k : Nat) (h : k ≤ l.length) : (fq l k).last = l.length := by
  unfold Que.last
  rw [fq_first, fq_len]; omega
theorem fq_ok (l : List Int) (k : Nat) (h : k ≤ l.length) (hl : l.length ≤ 200) : (fq l k).ok := by
  unfold Que.ok
  rw [fq_first, fq_len]; omega
theorem fq_zero (l : List Int) : fq l 0 = gq 0 l l.length := by simp [fq, Que.forget]

theorem fq_get (l : List Int) (k f : Nat) (hk : k ≤ l.length) (h1 : 1 ≤ f) (h : f ≤ l.length) :
    (fq l k).get f = if f ≤ k then (0, false) else (qin (l.getD (f - 1) 0), true) := by
  unfold Que.get
  rw [fq_first, fq_last _ _ hk]
  by_cases hf : f ≤ k
  · rw [if_pos (by omega), if_pos hf]
  · rw [if_neg (by omega), if_pos (by omega), if_neg hf]
    congr 1
    have e : ((f : Int) - ((k : Int) + 1)).toNat = f - 1 - k := by omega
    rw [e]
    simp only [fq, Que.forget, gq, List.getD, List.getElem?_drop]
    rw [show k + (f - 1 - k) = f - 1 by omega]
    have h3 : f - 1 < l.length := by omega
    simp [h3]

theorem gq0_err (l : List Int) (k : Nat) (x : Int) (h : k ≤ l.length) (hl : l.length ≤ 200) (hx : 0 ≤ x ∧ x < 256) : (gq 0 l k).err ((k : Int) + 1) x = none := by
  have := gq_err 0 l k x h (by omega) hl hx
  rwa [show ((0 : Nat) : Int) + 1 + k = (k : Int) + 1 by omega] at this

/-- What Forget leaves of a full queue. -/
theorem forget_full {w : World} {qb m g o cap : Nat} {l : List Int} (h : QAt w qb m g o cap 0 (gq 0 l l.length)) (hl : l.length ≤ 200) (h0 : 0 < l.length) (t k : Nat) (ht : t < 300) (hk : k = min (t - 1) (l.length - 1)) :
    Calls Tryd.prog 20 #[.pointer (some ⟨qb, 0, none⟩), .int .i64 t] w (DoneF w qb m g 0 (fq l k)) := by
  have hlen : (gq 0 l l.length).xs.length = l.length := by rw [gq_len _ _ _ (Nat.le_refl _)]; omega
  by_cases ht1 : t ≤ 1
  · have : k = 0 := by omega
    subst this
    rw [fq_zero]
    exact forget_none h t (.inl (by simp [gq]; omega))
  · refine forget_some h (gq_ok 0 l _ (Nat.le_refl _) (by omega) hl) t (by simp [gq]; omega) (by omega) (by rw [hlen]; exact h0) k ?_
    rw [hlen]
    have e : (gq 0 l l.length).first = 1 := rfl
    rw [e]
    split <;> omega

set_option maxRecDepth 100000 in
set_option maxHeartbeats 4000000 in
theorem forgets_walk (at_ : Int) (l : List Int) (A : Option Addr) (c : Nat) (w : World) (Ad : Nat → Addr) (hG : Glob w Ad) (hA : Cells w A (l.map (Value.int .i64))) (h0 : 0 < l.length) (hl : l.length ≤ 200) :
    Calls Tryd.prog 5 #[.slice A l.length c, .int .i64 at_] w fun e w' => e = .returned (.bool true) ∧ Below w.heap.size w w' := by
  obtain ⟨t, ht, ht2⟩ := index_of at_ 300 (by omega) (by omega)
  have HT := Lib.hid ht
  obtain ⟨len, hlen⟩ : ∃ x, l.length = x := ⟨_, rfl⟩
  rw [hlen] at hl h0
  have LEN := Lib.hid hlen
  have hli : (0 : Int) < (len : Int) := by omega
  have tl0 : ((len : Int) == 0) = false := by simp; omega
  rw [hlen]
  clear ht hlen
  go_enter Tryd.func5, Tryd.ntmps5
  go_wp2_with fail
  refine (qawake_any _ Ad hG).mono ?_
  rintro e w1 ⟨rfl, hB1⟩
  go_wp2_with fail
  refine (new_any 0 _ (by omega)).mono ?_
  rintro e w2 ⟨qb, m, g, rfl, hQ, hB2, hqb, hm, hg⟩
  have B2 := Lib.hid (hB1.trans (hB2.mono hB1.size))
  have hqb' : w.heap.size ≤ qb := Nat.le_trans hB1.size hqb
  have hm' : w.heap.size ≤ m := Nat.le_trans hB1.size hm
  have Q2 : Hid (QOwn w.heap.size w2 qb m (gq 0 l 0)) := Lib.hid ⟨g, 0, 0, by rw [gq_zero]; exact hQ, Nat.le_trans hB1.size hg⟩
  clear hB1 hB2 hQ hqb hm hg
  go_wp2_with fail
  go_loopw [7] (fun i wr => ∃ k : Nat, k ≤ len ∧ i = .int .i64 k ∧ QOwn w.heap.size wr qb m (gq 0 l k) ∧ Below w.heap.size w wr) (fun i _ => len - (intOf i).toNat)
  case atStart => exact ⟨0, Nat.zero_le _, rfl, Q2.out, B2.out⟩
  case round =>
    obtain ⟨k, hk, rfl, hQ, hB⟩ := hrel
    by_cases hlt : k < len
    · have hi1 : (0 : Int) ≤ (k : Int) := by omega
      have hi2 : (k : Int) < (len : Int) := by omega
      obtain ⟨x, hx⟩ : ∃ x, l[k]? = some x := ⟨l[k]'(by rw [LEN.out]; omega), by simp [LEN.out, hlt]⟩
      have hAr := hA.below hB
      obtain ⟨ab, ao, rfl, hc⟩ := hAr k (.int .i64 x) (by simp [hx])
      obtain ⟨v, hv, hv2⟩ := index_of x 256 (by omega) (by omega)
      have V := Lib.hid (show qin x = (v : Int) from hv)
      have QQ := Lib.hid hQ
      have BB := Lib.hid hB
      have HX := Lib.hid hx
      clear hQ hB hx hAr
      go_wp2_with fail
      simp only [hv]
      obtain ⟨g, o, cap, hQ, hg⟩ := QQ.out
      refine (put_ok hQ (gq_ok 0 l k (by rw [LEN.out]; omega) (by omega) (by rw [LEN.out]; exact hl)) ((k : Int) + 1) v (gq0_err l k v (by rw [LEN.out]; omega) (by rw [LEN.out]; exact hl) (by omega))).mono ?_
      rintro e w3 ⟨rfl, g3, o3, cap3, hQ3, hK3, hg3⟩
      have hB3 : Below w.heap.size w w3 := below_kept BB.out hK3 (by intro y hy; simp at hy; omega) (Nat.le_refl _)
      rw [← V.out, gq_put 0 l k _ x HX.out] at hQ3
      have Q3 : Hid (QOwn w.heap.size w3 qb m (gq 0 l (k + 1))) := Lib.hid ⟨g3, o3, cap3, hQ3, by have := BB.out.size; omega⟩
      have B3 := Lib.hid hB3
      clear hQ hQ3 hK3 hB3 hg3 hg
      go_wp2_with fail
      exact ⟨⟨k + 1, by omega, by go_num, Q3.out, B3.out⟩, by simp [intOf]; omega⟩
    · obtain rfl : k = len := by omega
      obtain ⟨wo, hwo⟩ : ∃ wo, wo = wr := ⟨_, rfl⟩
      subst hwo
      obtain ⟨g, o, cap, hQ, hg⟩ := hQ
      have e : gq 0 l k = gq 0 l l.length := by rw [LEN.out]
      rw [e] at hQ
      have QH := Lib.hid hQ
      have B5 := Lib.hid hB
      have AH := Lib.hid hA
      have ht := HT.out
      clear hQ hB e hA hG
      obtain ⟨j, hj⟩ : ∃ j, j = min (t - 1) (k - 1) := ⟨_, rfl⟩
      obtain ⟨M, hM⟩ : ∃ M : Int, (if (t : Int) < 1 then 1 else (t : Int)) = M := ⟨_, rfl⟩
      have hM2 : (if (k : Int) < M then (k : Int) else M) = (j : Int) + 1 := by subst hM; split <;> split <;> omega
      have JJ := Lib.hid hj
      clear hj
      go_wp2_with fail
      simp only [ht]
      refine (forget_full QH.out (by rw [LEN.out]; exact hl) (by rw [LEN.out]; exact h0) t j (by omega) (by rw [LEN.out]; exact JJ.out)).mono ?_
      rintro e w6 ⟨rfl, o6, cap6, hQ6, hK6⟩
      have hB6 : Below w.heap.size w w6 := below_kept B5.out hK6 (by intro y hy; simp at hy; omega) (Nat.le_refl _)
      have hjk : j < k := by have := JJ.out; omega
      obtain ⟨r, hr⟩ : ∃ r, k - j = r := ⟨_, rfl⟩
      have Q6 := Lib.hid hQ6
      have B6 := Lib.hid hB6
      have A6 := Lib.hid (AH.out.below hB6)
      have OK := Lib.hid (fq_ok l j (by rw [LEN.out]; omega) (by rw [LEN.out]; exact hl))
      have tr : ((r : Int) != (k : Int) - ((j : Int) + 1) + 1) = false := by simp; omega
      have RR := Lib.hid hr
      clear hQ6 hK6 hB6 hr
      have hfirst := first_any Q6.out
      have hlast : ∀ N, Calls Tryd.prog 15 #[.pointer (some ⟨qb, 0, none⟩)] (w6.drewN N) (Reads (w6.drewN N) (.int .i64 (k : Int))) := fun N => by
        have h := last_any (Q6.out.kept (Kept.drewN [] w6 N) (by simp) (by simp) (by simp)) OK.out
        rwa [fq_last _ _ (by rw [LEN.out]; omega), LEN.out] at h
      have hlen : ∀ N, Calls Tryd.prog 22 #[.pointer (some ⟨qb, 0, none⟩)] (w6.drewN N) (fun e w' => e = .returned (.int .i64 (r : Int)) ∧ w6.drewN N = w') := fun N => by
        have h := len_any (Q6.out.kept (Kept.drewN [] w6 N) (by simp) (by simp) (by simp))
        rwa [fq_len, LEN.out, RR.out] at h
      rw [fq_first] at hfirst
      have H1 := Lib.hid hfirst
      have H2 := Lib.hid hlast
      have H3 := Lib.hid hlen
      clear hfirst hlast hlen
      go_wp2_with fail
      refine H1.out.mono ?_
      rintro e w7 ⟨rfl, rfl⟩
      go_wp2_with fail
      refine (H2.out 0).mono ?_
      rintro e w7 ⟨rfl, n1, rfl⟩
      go_wp2_with fail
      refine (H3.out _).mono ?_
      rintro e w7 ⟨rfl, rfl⟩
      go_wp2_with fail
      have hall : ∀ N (f : Nat), Calls Tryd.prog 17 #[.pointer (some ⟨qb, 0, none⟩), .int .i64 f] (w6.drewN N) (Reads (w6.drewN N) (.tuple #[.int .i64 ((fq l j).get f).1, .bool ((fq l j).get f).2])) := fun N f =>
        get_any (Q6.out.kept (Kept.drewN [] w6 N) (by simp) (by simp) (by simp)) OK.out (f : Int)
      have HG := Lib.hid hall
      clear hall hM hM2 ht
      go_loopw [10] (fun f wr => ∃ i N : Nat, 1 ≤ i ∧ i ≤ k + 1 ∧ f = .int .i64 i ∧ wr = w6.drewN N) (fun f _ => k + 1 - (intOf f).toNat)
      case atStart => exact ⟨1, n1, by omega, by omega, rfl, rfl⟩
      case round =>
        obtain ⟨i, N, hi1, hi, rfl, rfl⟩ := hrel
        by_cases hlt2 : i < k + 1
        · have hj1 : (1 : Int) ≤ (i : Int) := by omega
          have hj2 : (i : Int) ≤ (k : Int) := by omega
          have hget := HG.out N i
          rw [fq_get l j i (by rw [LEN.out]; omega) hi1 (by rw [LEN.out]; omega)] at hget
          by_cases hij : i ≤ j
          · rw [if_pos hij] at hget
            have hj3 : (i : Int) < (j : Int) + 1 := by omega
            have G0 := Lib.hid hget
            clear hget
            go_wp2_with fail
            refine G0.out.mono ?_
            rintro e w8 ⟨rfl, n3, rfl⟩
            go_wp2_with fail
            exact ⟨⟨i + 1, N + n3, by omega, by omega, by go_num, rfl⟩, by simp [intOf]; omega⟩
          · rw [if_neg hij] at hget
            have hj3 : (j : Int) + 1 ≤ (i : Int) := by omega
            obtain ⟨y, rfl⟩ : ∃ y : Nat, i = y + 1 := ⟨i - 1, by omega⟩
            have hy : y < l.length := by rw [LEN.out]; omega
            rw [show y + 1 - 1 = y by omega] at hget
            obtain ⟨x, hx⟩ : ∃ x, l.getD y 0 = x := ⟨_, rfl⟩
            obtain ⟨ab, ao, hAe, hc⟩ := A6.out y (.int .i64 x) (by rw [List.getElem?_map, List.getElem?_eq_getElem hy]; simp [← hx, List.getD, hy])
            rw [hx] at hget
            obtain ⟨v, hv, hv2⟩ := index_of x 256 (by omega) (by omega)
            rw [show qin x = (v : Int) from hv] at hget
            have G0 := Lib.hid hget
            have hi4 : (y : Int) < (k : Int) := by omega
            have hi5 : (0 : Int) ≤ (y : Int) := by omega
            clear hget hx
            subst hAe
            go_wp2_with fail
            refine G0.out.mono ?_
            rintro e w8 ⟨rfl, n3, rfl⟩
            go_wp2_with fail
            exact ⟨⟨y + 1 + 1, N + n3, by omega, by omega, by go_num, rfl⟩, by simp [intOf]; omega⟩
        · obtain rfl : i = k + 1 := by omega
          have QN : Hid (QAt (w6.drewN N) qb m g o6 cap6 0 (fq l j)) := Lib.hid (Q6.out.kept (Kept.drewN [] w6 N) (by simp) (by simp) (by simp))
          have hxl : (fq l j).xs.length = r := by rw [fq_len, LEN.out, RR.out]
          have XL := Lib.hid hxl
          have l1 := list_any QN.out OK.out ((j : Int) + 1) (by omega) 0 (by rw [fq_first, XL.out]; split <;> split <;> omega)
          have L1 := Lib.hid l1
          have e1 : (((fq l j).xs.map (Value.int .i64)).drop 0).length = r := by simp [hxl]
          have e2 : (((fq l j).xs.map (Value.int .i64)).drop r).length = 0 := by simp [hxl]
          have E1 := Lib.hid e1
          have E2 := Lib.hid e2
          have hrk : (r : Int) = (k : Int) - (j : Int) := by have := RR.out; omega
          have RK := Lib.hid hrk
          clear hxl l1 e1 e2 hrk
          go_wp2_with fail
          refine L1.out.mono ?_
          rintro e w9 ⟨A9, c9, rfl, hC9, hB9⟩
          rw [E1.out]
          have Q9 : Hid (QAt w9 qb m g o6 cap6 0 (fq l j)) := Lib.hid (QN.out.below hB9)
          have B9 : Hid (Below w.heap.size w w9) := Lib.hid (B6.out.trans ((show Below w6.heap.size w6 w9 from ⟨hB9.os, hB9.tape, hB9.output, hB9.size, hB9.block⟩).mono B6.out.size))
          clear hC9 hB9
          go_wp2_with fail
          refine (len_any Q9.out).mono ?_
          rintro e w10 ⟨rfl, rfl⟩
          rw [XL.out]
          have L2 := Lib.hid (list_any Q9.out OK.out ((k : Int) + 1) (by omega) r (by rw [fq_first, XL.out]; have := RK.out; split <;> split <;> omega))
          go_wp2_with fail
          refine L2.out.mono ?_
          rintro e w11 ⟨A11, c11, rfl, hC11, hB11⟩
          rw [E2.out]
          have B11 := Lib.hid (B9.out.trans (hB11.mono B9.out.size))
          clear hC11 hB11
          go_wp2
          go_ret
          exact ⟨rfl, B11.out⟩

set_option maxRecDepth 100000 in
theorem forgets_else (at_ : Int) (len : Nat) (A : Option Addr) (c : Nat) (w : World) (Ad : Nat → Addr) (hG : Glob w Ad) (hl : len = 0 ∨ 200 < len) :
    Calls Tryd.prog 5 #[.slice A len c, .int .i64 at_] w fun e w' => e = .returned (.bool true) ∧ Below w.heap.size w w' := by
  rcases hl with rfl | hl
  · go_enter Tryd.func5, Tryd.ntmps5
    go_wp2_with fail
    refine (qawake_any _ Ad hG).mono ?_
    rintro e w1 ⟨rfl, hB1⟩
    go_wp2_with fail
    refine (new_any 0 _ (by omega)).mono ?_
    rintro e w2 ⟨qb, m, g, rfl, hQ, hB2, hqb, hm, hg⟩
    have B2 := Lib.hid (hB1.trans (hB2.mono hB1.size))
    clear hB1 hB2 hQ hqb hm hg
    go_wp2
    go_ret
    exact ⟨rfl, B2.out⟩
  · have tl0 : ((len : Int) == 0) = false := by simp; omega
    have hl' : (200 : Int) < (len : Int) := by omega
    go_enter Tryd.func5, Tryd.ntmps5
    go_wp2_with fail
    refine (qawake_any _ Ad hG).mono ?_
    rintro e w1 ⟨rfl, hB1⟩
    go_wp2_with fail
    refine (new_any 0 _ (by omega)).mono ?_
    rintro e w2 ⟨qb, m, g, rfl, hQ, hB2, hqb, hm, hg⟩
    have B2 := Lib.hid (hB1.trans (hB2.mono hB1.size))
    clear hB1 hB2 hQ hqb hm hg
    go_wp2
    go_ret
    exact ⟨rfl, B2.out⟩

theorem forgets_any (w : World) (Ad : Nat → Addr) (hG : Glob w Ad) (A : Option Addr) (c : Nat) (l : List Int)
    (h : l.length ≤ c ∧ c ≤ maxLen ∧ Cells w A (l.map (Value.int .i64)) ∧ ∀ n ∈ l, (Lit.int .i64 n).wf = true) (at_ : Int) (_ha : (Lit.int .i64 at_).wf = true) :
    Calls Tryd.prog 5 #[.slice A l.length c, .int .i64 at_] w fun e w' => e = .returned (.bool true) ∧ Below w.heap.size w w' := by
  by_cases hl : l.length = 0 ∨ 200 < l.length
  · exact forgets_else at_ l.length A c w Ad hG hl
  · exact forgets_walk at_ l A c w Ad hG h.2.2.1 (by omega) (by omega)

end Go.Proofs.YtkpbjahjiajodaaDoor
