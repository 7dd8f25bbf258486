/- This text proves, over the loaded program, that the law QueueGets returns true for every input. -/
import Derived.Test.YtkpbjahjiajodaaDoorQAwake
import Derived.Deep.LoopGhost
import Derived.Deep.QuietTactic
namespace Go.Proofs.YtkpbjahjiajodaaDoor
open Go.RowKit Go.WideShapes

def qin (x : Int) : Int := wrap64 ((IntKind.u64.wrap x).tmod 256)

theorem u64_wrap (x : Int) : IntKind.u64.wrap x = x % 18446744073709551616 := by
  simp [IntKind.wrap, IntKind.signed, IntKind.bits]

theorem index_of (x n : Int) (h : 0 < n) (hn : n < 4611686018427387904) : ∃ k : Nat, wrap64 ((IntKind.u64.wrap x).tmod n) = (k : Int) ∧ (k : Int) < n := by
  refine ⟨((x % 18446744073709551616) % n).toNat, ?_⟩
  rw [u64_wrap, Int.tmod_eq_emod_of_nonneg (by omega)]
  have a := Int.emod_nonneg (x % 18446744073709551616) (show n ≠ 0 by omega)
  have b := Int.emod_lt_of_pos (x % 18446744073709551616) h
  generalize (x % 18446744073709551616) % n = y at *
  unfold wrap64
  omega

/-- The queue behind k puts. -/
def gq (d : Nat) (l : List Int) (k : Nat) : Que := { first := 1, xs := List.replicate d 0 ++ (l.take k).map qin, g := fun _ => none, wrong := 0, closed := false, fin := 0 }

theorem gq_zero (d : Nat) (l : List Int) : gq d l 0 = Que.new d := by simp [gq, Que.new]
theorem gq_len (d : Nat) (l : List Int) (k : Nat) (h : k ≤ l.length) : (gq d l k).xs.length = d + k := by simp [gq]; omega
theorem gq_last (d : Nat) (l : List Int) (k : Nat) (h : k ≤ l.length) : (gq d l k).last = (d : Int) + k := by
  unfold Que.last
  rw [gq_len d l k h]
  simp [gq]; omega
theorem gq_ok (d : Nat) (l : List Int) (k : Nat) (h : k ≤ l.length) (hd : d ≤ 6) (hl : l.length ≤ 200) : (gq d l k).ok := by
  unfold Que.ok
  rw [gq_len d l k h]
  simp [gq]; omega
theorem gq_err (d : Nat) (l : List Int) (k : Nat) (x : Int) (h : k ≤ l.length) (hd : d ≤ 6) (hl : l.length ≤ 200) (hx : 0 ≤ x ∧ x < 256) : (gq d l k).err ((d : Int) + 1 + k) x = none := by
  unfold Que.err
  rw [gq_last d l k h, gq_len d l k h, if_neg (by omega), if_neg (by simp [gq]), if_neg (by omega), if_neg (by omega), if_neg (by omega)]
theorem gq_put (d : Nat) (l : List Int) (k : Nat) (f x : Int) (h : l[k]? = some x) : (gq d l k).put f (qin x) = gq d l (k + 1) := by
  obtain ⟨hk, rfl⟩ := List.getElem?_eq_some_iff.1 h
  unfold Que.put gq
  rw [List.take_succ_eq_append_getElem hk, List.map_append, ← List.append_assoc]
  simp

theorem gq_get_known (d : Nat) (l : List Int) (f : Nat) (h1 : 1 ≤ f) (h : f ≤ d + l.length) :
    (gq d l l.length).get f = (if f ≤ d then 0 else qin (l.getD (f - d - 1) 0), true) := by
  unfold Que.get
  rw [gq_last d l _ (Nat.le_refl _)]
  rw [if_neg (by simp [gq]; try omega), if_pos (by omega)]
  have e : ((f : Int) - (gq d l l.length).first).toNat = f - 1 := by simp [gq]; try omega
  rw [e]
  congr 1
  by_cases hf : f ≤ d
  · rw [if_pos hf]
    simp [gq, List.getD, List.getElem?_append, List.getElem?_replicate]
    rw [if_pos (by omega)]
    first | done | (simp; done) | (simp; omega) | (rw [if_pos (by omega)]; rfl)
  · rw [if_neg hf]
    have h3 : f - d - 1 < l.length := by omega
    simp only [gq, List.getD, List.getElem?_append, List.length_replicate]
    rw [if_neg (by omega), show f - 1 - d = f - d - 1 by omega]
    simp [h3]

/-- The last input of k. -/
def lastv (l : List Int) (k : Nat) : Int := if k = 0 then 0 else qin (l.getD (k - 1) 0)

theorem lastv_succ {l : List Int} {k : Nat} {x : Int} (h : l[k]? = some x) : lastv l (k + 1) = qin x := by
  simp [lastv, List.getD, h]

theorem gq_guess (d : Nat) (l : List Int) : (gq d l l.length).guess = lastv l l.length := by
  unfold Que.guess lastv
  rw [gq_len d l _ (Nat.le_refl _)]
  by_cases h : l.length = 0
  · have : l = [] := List.eq_nil_of_length_eq_zero h
    subst this
    simp [gq, List.getD, List.getElem?_replicate]
    split <;> rfl
  · rw [if_neg h]
    have h3 : l.length - 1 < l.length := by omega
    simp only [gq, List.getD, List.getElem?_append, List.length_replicate]
    rw [if_neg (by omega), show d + l.length - 1 - d = l.length - 1 by omega]
    simp [h3]

theorem gq_get_behind (d : Nat) (l : List Int) (f : Int) (h : (d : Int) + l.length < f) : (gq d l l.length).get f = (lastv l l.length, false) := by
  unfold Que.get
  rw [gq_last d l _ (Nat.le_refl _)]
  rw [if_neg (by simp [gq]; omega), if_neg (by omega), if_neg (by simp [gq]), gq_guess]

/-- A queue of the call's own, whatever its blocks. -/
def QOwn (B : Nat) (w : World) (qb m : Nat) (q : Que) : Prop := ∃ g o cap, QAt w qb m g o cap 0 q ∧ B ≤ g

set_option maxRecDepth 100000 in
set_option maxHeartbeats 4000000 in
theorem gets_walk (delay ahead : Int) (l : List Int) (A : Option Addr) (c : Nat) (w : World) (Ad : Nat → Addr) (hG : Glob w Ad) (hA : Cells w A (l.map (Value.int .i64))) (hl : l.length ≤ 200) :
    Calls Tryd.prog 3 #[.int .i64 delay, .slice A l.length c, .int .i64 ahead] w fun e w' => e = .returned (.bool true) ∧ Below w.heap.size w w' := by
  obtain ⟨d, hd, hd2⟩ := index_of delay 7 (by omega) (by omega)
  obtain ⟨r, hr, hr2⟩ := index_of ahead 1000 (by omega) (by omega)
  have HR := Lib.hid hr
  obtain ⟨len, hlen⟩ : ∃ x, l.length = x := ⟨_, rfl⟩
  rw [hlen] at hl
  have LEN := Lib.hid hlen
  rw [hlen]
  clear hr hlen
  go_enter Tryd.func3, Tryd.ntmps3
  go_wp2_with fail
  refine (qawake_any _ Ad hG).mono ?_
  rintro e w1 ⟨rfl, hB1⟩
  go_wp2_with fail
  simp only [hd]
  refine (new_any d _ (by omega)).mono ?_
  rintro e w2 ⟨qb, m, g, rfl, hQ, hB2, hqb, hm, hg⟩
  have B2 := Lib.hid (hB1.trans (hB2.mono hB1.size))
  have hqb' : w.heap.size ≤ qb := Nat.le_trans hB1.size hqb
  have hm' : w.heap.size ≤ m := Nat.le_trans hB1.size hm
  have Q2 : Hid (QOwn w.heap.size w2 qb m (gq d l 0)) := Lib.hid ⟨g, 0, d, by rw [gq_zero]; exact hQ, Nat.le_trans hB1.size hg⟩
  clear hB1 hB2 hQ hqb hm hg
  clear hd
  go_wp2_with fail
  go_loopw [10, 11] (fun lv i wr => ∃ k : Nat, k ≤ len ∧ i = .int .i64 k ∧ lv = .int .i64 (lastv l k) ∧ QOwn w.heap.size wr qb m (gq d l k) ∧ Below w.heap.size w wr) (fun _ i _ => len - (intOf i).toNat)
  case atStart => exact ⟨0, Nat.zero_le _, rfl, rfl, Q2.out, B2.out⟩
  case round =>
    obtain ⟨k, hk, rfl, rfl, hQ, hB⟩ := hrel
    by_cases hlt : k < len
    · have hi1 : (0 : Int) ≤ (k : Int) := by omega
      have hi2 : (k : Int) < (len : Int) := by omega
      obtain ⟨x, hx⟩ : ∃ x, l[k]? = some x := ⟨l[k]'(by rw [LEN.out]; omega), by simp [LEN.out, hlt]⟩
      have hAr := hA.below hB
      obtain ⟨ab, ao, rfl, hc⟩ := hAr k (.int .i64 x) (by simp [hx])
      obtain ⟨v, hv, hv2⟩ := index_of x 256 (by omega) (by omega)
      have V := Lib.hid (show qin x = (v : Int) from hv)
      have QQ := Lib.hid hQ
      have BB := Lib.hid hB
      have HX := Lib.hid hx
      clear hQ hB hx hAr
      go_wp2_with fail
      simp only [hv]
      obtain ⟨g, o, cap, hQ, hg⟩ := QQ.out
      refine (put_ok hQ (gq_ok d l k (by rw [LEN.out]; omega) (by omega) (by rw [LEN.out]; exact hl)) ((d : Int) + 1 + k) v (gq_err d l k v (by rw [LEN.out]; omega) (by omega) (by rw [LEN.out]; exact hl) (by omega))).mono ?_
      rintro e w3 ⟨rfl, g3, o3, cap3, hQ3, hK3, hg3⟩
      have hB3 : Below w.heap.size w w3 := below_kept BB.out hK3 (by intro y hy; simp at hy; omega) (Nat.le_refl _)
      rw [← V.out, gq_put d l k _ x HX.out] at hQ3
      have Q3 : Hid (QOwn w.heap.size w3 qb m (gq d l (k + 1))) := Lib.hid ⟨g3, o3, cap3, hQ3, by have := BB.out.size; omega⟩
      have B3 := Lib.hid hB3
      have hc3 : w3.cell? ⟨ab, ao + k, none⟩ = some (.int .i64 x) := by
        obtain ⟨b', o', e', h'⟩ := hA.below hB3 k (.int .i64 x) (by simp [HX.out])
        cases e'; exact h'
      clear hQ hQ3 hK3 hB3 hg3 hg
      go_wp2_with fail
      exact ⟨⟨k + 1, by omega, by go_num, by rw [lastv_succ HX.out]; rfl, Q3.out, B3.out⟩, by simp [intOf]; omega⟩
    · obtain rfl : k = len := by omega
      obtain ⟨wo, hwo⟩ : ∃ wo, wo = wr := ⟨_, rfl⟩
      subst hwo
      obtain ⟨g, o, cap, hQ, hg⟩ := hQ
      have e : gq d l k = gq d l l.length := by rw [LEN.out]
      rw [e] at hQ
      have LV : Hid (lastv l k = lastv l l.length) := by rw [LEN.out]; exact Lib.hid rfl
      obtain ⟨lv, hlv⟩ : ∃ x, lastv l k = x := ⟨_, rfl⟩
      rw [hlv]
      have HLV := Lib.hid hlv
      have OK := Lib.hid (gq_ok d l l.length (Nat.le_refl _) (by omega) (by rw [LEN.out]; exact hl))
      have hlastK : ∀ N, Calls Tryd.prog 15 #[.pointer (some ⟨qb, 0, none⟩)] (wo.drewN N) (Reads (wo.drewN N) (.int .i64 ((d : Int) + k))) := fun N => by
        have h := last_any (hQ.kept (Kept.drewN [] wo N) (by simp) (by simp) (by simp)) OK.out
        rwa [gq_last d l _ (Nat.le_refl _), LEN.out] at h
      have HLK := Lib.hid hlastK
      have QH := Lib.hid hQ
      have AH := Lib.hid (hA.below hB)
      have B5 := Lib.hid hB
      clear hQ hB hlastK hlv e hA hG
      go_wp2_with fail
      refine (HLK.out 0).mono ?_
      rintro e w5 ⟨rfl, n1, rfl⟩
      go_wp2_with fail
      refine (wrong_any (QH.out.kept (Kept.drewN [] wo _) (by simp) (by simp) (by simp))).mono ?_
      rintro e w5 ⟨rfl, rfl⟩
      have hw : (gq d l l.length).wrong = 0 := rfl
      rw [hw]
      clear hw
      go_wp2_with fail
      go_loopw [12] (fun f wr => ∃ j N : Nat, 1 ≤ j ∧ j ≤ d + k + 1 ∧ f = .int .i64 j ∧ wr = wo.drewN N) (fun f _ => d + k + 1 - (intOf f).toNat)
      case atStart => exact ⟨1, n1, by omega, by omega, rfl, rfl⟩
      case round =>
        obtain ⟨j, N, hj1, hj, rfl, rfl⟩ := hrel
        by_cases hlt2 : j < d + k + 1
        · have hi1 : (1 : Int) ≤ (j : Int) := by omega
          have hi2 : (j : Int) ≤ (d : Int) + (k : Int) := by omega
          have hget : ∀ M, Calls Tryd.prog 17 #[.pointer (some ⟨qb, 0, none⟩), .int .i64 j] (wo.drewN M) (Reads (wo.drewN M) (.tuple #[.int .i64 (if j ≤ d then 0 else qin (l.getD (j - d - 1) 0)), .bool true])) := fun M => by
            have h := get_any (QH.out.kept (Kept.drewN [] wo M) (by simp) (by simp) (by simp)) OK.out (j : Int)
            rwa [gq_get_known d l j hj1 (by rw [LEN.out]; omega)] at h
          by_cases hjd : j ≤ d
          · have hi3 : (j : Int) ≤ (d : Int) := by omega
            rw [if_pos hjd] at hget
            have HG := Lib.hid hget
            clear hget
            go_wp2_with fail
            refine (HLK.out N).mono ?_
            rintro e w6 ⟨rfl, n2, rfl⟩
            go_wp2_with fail
            refine (HG.out (N + n2)).mono ?_
            rintro e w6 ⟨rfl, n3, rfl⟩
            go_wp2_with fail
            exact ⟨⟨j + 1, N + n2 + n3, by omega, by omega, by go_num, rfl⟩, by simp [intOf]; omega⟩
          · have hi3 : ¬ (j : Int) ≤ (d : Int) := by omega
            rw [if_neg hjd] at hget
            obtain ⟨t, rfl⟩ : ∃ t : Nat, j = d + 1 + t := ⟨j - d - 1, by omega⟩
            have ht : t < l.length := by rw [LEN.out]; omega
            rw [show d + 1 + t - d - 1 = t by omega] at hget
            obtain ⟨x, hx⟩ : ∃ x, l.getD t 0 = x := ⟨_, rfl⟩
            obtain ⟨ab, ao, hAe, hc⟩ := AH.out t (.int .i64 x) (by rw [List.getElem?_map, List.getElem?_eq_getElem ht]; simp [← hx, List.getD, ht])
            rw [hx] at hget
            obtain ⟨v, hv, hv2⟩ := index_of x 256 (by omega) (by omega)
            rw [show qin x = (v : Int) from hv] at hget
            have HG := Lib.hid hget
            have hi4 : (t : Int) < (k : Int) := by omega
            have hi5 : (0 : Int) ≤ (t : Int) := by omega
            have hc' : wo.cell? ⟨ab, ao + (d + 1 + t - d - 1), none⟩ = some (.int .i64 x) := by rw [show d + 1 + t - d - 1 = t by omega]; exact hc
            clear hget hx hc
            subst hAe
            go_wp2_with fail
            refine (HLK.out N).mono ?_
            rintro e w6 ⟨rfl, n2, rfl⟩
            go_wp2_with fail
            refine (HG.out (N + n2)).mono ?_
            rintro e w6 ⟨rfl, n3, rfl⟩
            go_wp2_with fail
            exact ⟨⟨d + 1 + t + 1, N + n2 + n3, by omega, by omega, by go_num, rfl⟩, by simp [intOf]; omega⟩
        · obtain rfl : j = d + k + 1 := by omega
          have hget : ∀ M, Calls Tryd.prog 17 #[.pointer (some ⟨qb, 0, none⟩), .int .i64 ((d : Int) + k + 1 + r)] (wo.drewN M) (Reads (wo.drewN M) (.tuple #[.int .i64 lv, .bool false])) := fun M => by
            have h := get_any (QH.out.kept (Kept.drewN [] wo M) (by simp) (by simp) (by simp)) OK.out ((d : Int) + k + 1 + r)
            rw [gq_get_behind d l _ (by rw [LEN.out]; omega), ← LV.out, HLV.out] at h
            exact h
          have HG := Lib.hid hget
          have hr := HR.out
          clear hget
          go_wp2_with fail
          refine (HLK.out N).mono ?_
          rintro e w6 ⟨rfl, n2, rfl⟩
          go_wp2_with fail
          refine (HLK.out (N + n2)).mono ?_
          rintro e w6 ⟨rfl, n3, rfl⟩
          go_wp2_with fail
          simp only [hr]
          refine (HG.out (N + n2 + n3)).mono ?_
          rintro e w6 ⟨rfl, n4, rfl⟩
          go_wp2
          go_ret
          exact ⟨rfl, B5.out.os, B5.out.tape, B5.out.output, B5.out.size, B5.out.block⟩

set_option maxRecDepth 100000 in
theorem gets_long (delay ahead : Int) (len : Nat) (A : Option Addr) (c : Nat) (w : World) (Ad : Nat → Addr) (hG : Glob w Ad) (hl : 200 < len) :
    Calls Tryd.prog 3 #[.int .i64 delay, .slice A len c, .int .i64 ahead] w fun e w' => e = .returned (.bool true) ∧ Below w.heap.size w w' := by
  obtain ⟨d, hd, hd2⟩ := index_of delay 7 (by omega) (by omega)
  have hl' : (200 : Int) < (len : Int) := by omega
  go_enter Tryd.func3, Tryd.ntmps3
  go_wp2_with fail
  refine (qawake_any _ Ad hG).mono ?_
  rintro e w1 ⟨rfl, hB1⟩
  go_wp2_with fail
  simp only [hd]
  refine (new_any d _ (by omega)).mono ?_
  rintro e w2 ⟨qb, m, g, rfl, hQ, hB2, hqb, hm, hg⟩
  have B2 := Lib.hid (hB1.trans (hB2.mono hB1.size))
  clear hB1 hB2 hQ hqb hm hg
  go_wp2
  go_ret
  exact ⟨rfl, B2.out⟩

theorem gets_any (w : World) (Ad : Nat → Addr) (hG : Glob w Ad) (delay : Int) (_hd : (Lit.int .i64 delay).wf = true) (A : Option Addr) (c : Nat) (l : List Int)
    (h : l.length ≤ c ∧ c ≤ maxLen ∧ Cells w A (l.map (Value.int .i64)) ∧ ∀ n ∈ l, (Lit.int .i64 n).wf = true) (ahead : Int) (_ha : (Lit.int .i64 ahead).wf = true) :
    Calls Tryd.prog 3 #[.int .i64 delay, .slice A l.length c, .int .i64 ahead] w fun e w' => e = .returned (.bool true) ∧ Below w.heap.size w w' := by
  by_cases hl : l.length ≤ 200
  · exact gets_walk delay ahead l A c w Ad hG h.2.2.1 hl
  · exact gets_long delay ahead l.length A c w Ad hG (by omega)

end Go.Proofs.YtkpbjahjiajodaaDoor
