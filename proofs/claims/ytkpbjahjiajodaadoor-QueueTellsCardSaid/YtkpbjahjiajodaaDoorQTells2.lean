/- This text walks the law QueueTells. -/
import Derived.Test.YtkpbjahjiajodaaDoorQTells
namespace Go.Proofs.YtkpbjahjiajodaaDoor
open Go.RowKit Go.WideShapes

theorem lastv_range (l : List Int) (k : Nat) : 0 ≤ lastv l k ∧ lastv l k < 256 := by
  unfold lastv
  split
  · omega
  · obtain ⟨v, hv, hv2⟩ := index_of (l.getD (k - 1) 0) 256 (by omega) (by omega)
    rw [show qin (l.getD (k - 1) 0) = (v : Int) from hv]; omega

/-- A guess is used, and noted in both arrays. -/
theorem TInv.used {w0 w w6 : World} {l : List Int} {qb m a1 a2 k n : Nat} {g : Int → Option Int} {f z : Int} {F gb o cap : Nat} (hI : TInv w0 l qb m a1 a2 k n g f w) (hm : w0.heap.size ≤ m) (h1 : w0.heap.size ≤ a1) (h2 : w0.heap.size ≤ a2) (hF : F < 200)
    (hgb : w0.heap.size ≤ gb) (hQ : QAt w qb m gb o cap n (tq l k g f)) (hQ6 : QAt w6 qb m gb o cap (n + 1) (tq l k (fun j => if j = (F : Int) then some z else g j) f)) (hK : Kept [m] w w6) :
    TInv w0 l qb m a1 a2 k (n + 1) (fun j => if j = (F : Int) then some z else g j) f ((w6.setCell ⟨a1, F, none⟩ (.int .i64 z)).setCell ⟨a2, F, none⟩ (.bool true)) ∧
    w6.cell? ⟨a1, F, none⟩ = some (.int .i64 ((g F).getD 0)) ∧ w6.frozen? ⟨a1, F, none⟩ = false ∧ (w6.setCell ⟨a1, F, none⟩ (.int .i64 z)).cell? ⟨a2, F, none⟩ = some (.bool (g F).isSome) ∧ (w6.setCell ⟨a1, F, none⟩ (.int .i64 z)).frozen? ⟨a2, F, none⟩ = false := by
  obtain ⟨_, hR1, hR2, hB⟩ := hI
  have hR1' := hR1.kept hK (by simpa using hR1.ne_m hQ)
  have hR2' := hR2.kept hK (by simpa using hR2.ne_m hQ)
  have hne := hR1.ne_row hR2 (by decide)
  have k1 := Kept.setCell w6 a1 F (.int .i64 z)
  have k2 := Kept.setCell (w6.setCell ⟨a1, F, none⟩ (.int .i64 z)) a2 F (.bool true)
  refine ⟨⟨⟨gb, o, cap, ?_, hgb⟩, ?_, ?_, ?_⟩, hR1'.cell _ _ (usedL_at _ _ hF), hR1'.frozen _, (hR2'.kept k1 (by simpa using hne.symm)).cell _ _ (hasL_at _ _ hF), (hR2'.kept k1 (by simpa using hne.symm)).frozen _⟩
  · refine (hQ6.kept k1 ?_ ?_ ?_).kept k2 ?_ ?_ ?_
    · simpa using (hR1.ne_q hQ (by decide)).symm
    · simpa using (hR1.ne_m hQ).symm
    · simpa using (hR1.ne_g hQ (by decide)).symm
    · simpa using (hR2.ne_q hQ (by decide)).symm
    · simpa using (hR2.ne_m hQ).symm
    · simpa using (hR2.ne_g hQ (by decide)).symm
  · rw [← usedL_set _ _ _ hF]
    exact (hR1'.set F _).kept k2 (by simpa using hne)
  · rw [← hasL_set _ _ _ hF]
    exact (hR2'.kept k1 (by simpa using hne.symm)).set F _
  · have b6 := below_kept hB hK (by intro y hy; simp at hy; omega) (Nat.le_refl _)
    have b7 := below_kept b6 k1 (by intro y hy; simp at hy; omega) (Nat.le_refl _)
    exact below_kept b7 k2 (by intro y hy; simp at hy; omega) (Nat.le_refl _)

set_option maxRecDepth 100000 in
set_option maxHeartbeats 8000000 in
theorem tells_walk (l us : List Int) (A : Option Addr) (c : Nat) (A' : Option Addr) (c' : Nat) (w : World) (Ad : Nat → Addr) (hG : Glob w Ad) (hA : Cells w A (l.map (Value.int .i64))) (hU : Cells w A' (us.map (Value.int .i64))) (hl : l.length ≤ 60) (hul : us.length ≤ maxLen) :
    Calls Tryd.prog 4 #[.slice A l.length c, .slice A' us.length c'] w fun e w' => e = .returned (.bool true) ∧ Below w.heap.size w w' := by
  obtain ⟨len, hlen⟩ : ∃ x, l.length = x := ⟨_, rfl⟩
  obtain ⟨ul, hulen⟩ : ∃ x, us.length = x := ⟨_, rfl⟩
  rw [hlen] at hl
  rw [hulen] at hul
  simp only [maxLen] at hul
  have LEN := Lib.hid hlen
  have ULEN := Lib.hid hulen
  rw [hlen, hulen]
  clear hlen hulen
  go_enter Tryd.func4, Tryd.ntmps4
  go_wp2_with fail
  refine (qawake_any _ Ad hG).mono ?_
  rintro e w1 ⟨rfl, hB1⟩
  go_wp2_with fail
  refine (new_any 0 _ (by omega)).mono ?_
  rintro e w2 ⟨qb, m, g, rfl, hQ, hB2, hqb, hm, hg⟩
  have hB2' := hB1.trans (hB2.mono hB1.size)
  have hqb' : w.heap.size ≤ qb := Nat.le_trans hB1.size hqb
  have hm' : w.heap.size ≤ m := Nat.le_trans hB1.size hm
  have hg' : w.heap.size ≤ g := Nat.le_trans hB1.size hg
  obtain ⟨w3, hst3, hR3, hB3, hs3⟩ := store35 w2
  obtain ⟨w4, hst4, hR4, hB4, hs4⟩ := store36 w3
  obtain ⟨a1, ha1⟩ : ∃ a1, a1 = w2.heap.size := ⟨_, rfl⟩
  obtain ⟨a2, ha2⟩ : ∃ a2, a2 = w3.heap.size := ⟨_, rfl⟩
  have I0 : Hid (TInv w l qb m a1 a2 0 0 (fun _ => none) 0 w4) := Lib.hid ⟨⟨g, 0, 0, by rw [tq_zero]; exact (hQ.below hB3).below hB4, hg'⟩,
    by rw [ha1]; exact hR3.kept (Kept.of_below (fp := []) hB4) (by simp), by rw [ha2]; exact hR4, (hB2'.trans (hB3.mono hB2'.size)).trans (hB4.mono (by have := hB2'.size; have := hB3.size; omega))⟩
  have ha1' : w.heap.size ≤ a1 := by have := hB2'.size; omega
  have ha2' : w.heap.size ≤ a2 := by have := hB2'.size; have := hB3.size; omega
  have z35 := zero35
  have z36 := zero36
  have HA1 := Lib.hid ha1
  have HA2 := Lib.hid ha2
  clear hB1 hB2 hQ hqb hm hg hR3 hB3 hR4 hB4 hG hB2' ha1 ha2 hs3 hs4
  go_wp2_with fail
  rw [← HA1.out, ← HA2.out]
  clear HA1 HA2 hst3 hst4 z35 z36
  go_loopw [9, 10] (fun fv i wr => ∃ (k n : Nat) (g : Int → Option Int) (f : Int), k ≤ len ∧ n ≤ 3 * k ∧ i = .int .i64 k ∧ fv = .int .i64 f ∧ TInv w l qb m a1 a2 k n g f wr) (fun _ i _ => len - (intOf i).toNat)
  case atStart => exact ⟨0, 0, fun _ => none, 0, Nat.zero_le _, Nat.le_refl _, rfl, rfl, I0.out⟩
  case round =>
    obtain ⟨k, n, g, f, hk, hn, rfl, rfl, hI⟩ := hrel
    have II := Lib.hid hI
    clear hI
    by_cases hlt : k < len
    · have hi1 : (0 : Int) ≤ (k : Int) := by omega
      have hi2 : (k : Int) < (len : Int) := by omega
      obtain ⟨wo, hwo⟩ : ∃ wo, wo = wr := ⟨_, rfl⟩
      subst hwo
      go_wp2_with fail
      go_loopw [11] (fun jv wr => ∃ (j n' : Nat) (g' : Int → Option Int), j ≤ 3 ∧ n' ≤ 3 * k + j ∧ jv = .int .i64 j ∧ TInv w l qb m a1 a2 k n' g' f wr) (fun jv _ => 3 - (intOf jv).toNat)
      case atStart => exact ⟨0, n, g, by omega, by omega, rfl, II.out⟩
      case round =>
        obtain ⟨j, n', g', hj, hn', rfl, hI'⟩ := hrel
        have IJ := Lib.hid hI'
        clear hI'
        by_cases hgo : j < 3 ∧ 3 * k + j < ul ∧ 3 * k + j < 60
        · obtain ⟨hj3, hju, hj60⟩ := hgo
          have hj1 : (0 : Int) ≤ (j : Int) := by omega
          have hj2 : (j : Int) < 3 := by omega
          have hj4 : 3 * (k : Int) + (j : Int) < (ul : Int) := by omega
          have hj5 : 3 * (k : Int) + (j : Int) < 60 := by omega
          have hj6 : 0 ≤ 3 * (k : Int) + (j : Int) := by omega
          have ht : 3 * k + j < us.length := by rw [ULEN.out]; omega
          obtain ⟨x, hx⟩ : ∃ x, us[3 * k + j]? = some x := ⟨us[3 * k + j], by simp [ht]⟩
          obtain ⟨ab, ao, hAe, hc⟩ := (hU.below IJ.out.2.2.2) (3 * k + j) (.int .i64 x) (by simp [hx])
          obtain ⟨v, hv, hv2⟩ := index_of x 9 (by omega) (by omega)
          obtain ⟨⟨gb, o, cap, hQ, hgb⟩, _⟩ := IJ.out
          have hkl : k ≤ l.length := by rw [LEN.out]; omega
          have hz := lastv_range l k
          have hu := use_any hQ (tq_ok l k g' f hkl (by rw [LEN.out]; exact hl)) (by omega) ((k : Int) + 1 + v) (WalkArith.wf_i64 (by omega)) (by rw [tq_get l k g' f _ hkl (by omega)]; exact WalkArith.wf_i64 (by show _ ≤ lastv l k ∧ lastv l k ≤ _; omega))
          rw [tq_get l k g' f _ hkl (by omega), tq_use l k g' f _ hkl (by omega) (by omega)] at hu
          have U := Lib.hid hu
          have HQ := Lib.hid hQ
          clear hu hQ hx hz
          subst hAe
          go_wp2_with fail
          try simp only [hv]
          refine U.out.mono ?_
          rintro e w6 ⟨rfl, hQ6, hK6⟩
          obtain ⟨hI6, c1, f1, c2, f2⟩ := TInv.used (F := k + 1 + v) IJ.out hm' ha1' ha2' (by omega) hgb HQ.out (by simpa using hQ6) hK6
          have I6 := Lib.hid hI6
          clear hI6 hQ6 hK6
          go_wp2_with fail
          exact ⟨⟨j + 1, n' + 1, _, by omega, by omega, by go_num, I6.out⟩, by simp [intOf]; omega⟩
        · have hex : j = 3 ∨ (j < 3 ∧ ul ≤ 3 * k + j) ∨ (j < 3 ∧ 3 * k + j < ul ∧ 60 ≤ 3 * k + j) := by omega
          clear hgo
          have hj1 : (0 : Int) ≤ (j : Int) := by omega
          have hkl : k ≤ l.length := by rw [LEN.out]; omega
          obtain ⟨x, hx⟩ : ∃ x, l[k]? = some x := ⟨l[k]'(by rw [LEN.out]; omega), by simp [LEN.out, hlt]⟩
          obtain ⟨ab, ao, hAe, hc⟩ := (hA.below IJ.out.2.2.2) k (.int .i64 x) (by simp [hx])
          obtain ⟨v, hv, hv2⟩ := index_of x 256 (by omega) (by omega)
          obtain ⟨⟨gb, o, cap, hQ, hgb⟩, hR1, hR2, hB⟩ := IJ.out
          obtain ⟨B, hBB⟩ : ∃ B, (g' ((k : Int) + 1)).isSome = B := ⟨_, rfl⟩
          obtain ⟨G, hGG⟩ : ∃ G, (g' ((k : Int) + 1)).getD 0 = G := ⟨_, rfl⟩
          obtain ⟨nf, hnf⟩ : ∃ nf : Int, (if B = true ∧ G ≠ (v : Int) ∧ f = 0 then (k : Int) + 1 else f) = nf := ⟨_, rfl⟩
          have e2 : (tq l k g' f).put ((k : Int) + 1) v = tq l (k + 1) g' nf := by
            rw [← hnf, ← hBB, ← hGG]
            have h := tq_put l k g' f x ((k : Int) + 1) hx
            rw [show qin x = (v : Int) from hv] at h
            exact h
          have hp := put_ok hQ (tq_ok l k g' f hkl (by rw [LEN.out]; exact hl)) ((k : Int) + 1) v (tq_err l k g' f v hkl (by rw [LEN.out]; exact hl) (by omega))
          rw [e2] at hp
          have c1 := hR1.cell (k + 1) _ (usedL_at g' (k + 1) (by omega))
          have c2 := hR2.cell (k + 1) _ (hasL_at g' (k + 1) (by omega))
          rw [show ((k + 1 : Nat) : Int) = (k : Int) + 1 by omega] at c1 c2
          rw [hGG] at c1
          rw [hBB] at c2
          have P := Lib.hid hp
          have HQ := Lib.hid hQ
          have NF := Lib.hid hnf
          have R1 := Lib.hid hR1
          have R2 := Lib.hid hR2
          have HB := Lib.hid hB
          have C1 := Lib.hid c1
          have C2 := Lib.hid c2
          clear hp hQ hnf hR1 hR2 hB c1 c2 e2 hBB hGG hx
          subst hAe
          rcases hex with rfl | ⟨h1, h2⟩ | ⟨h1, h2, h3⟩ <;> (
          go_wp2_with fail
          try simp only [hv]
          refine P.out.mono ?_
          rintro e w6 ⟨rfl, g6, o6, cap6, hQ6, hK6, hg6⟩
          have hI6 : TInv w l qb m a1 a2 (k + 1) n' g' nf w6 := ⟨⟨g6, o6, cap6, hQ6, by have := HB.out.size; omega⟩,
            R1.out.kept hK6 (by have a := R1.out.ne_q HQ.out (by decide); have b := R1.out.ne_m HQ.out; have c := R1.out.ne_g HQ.out (by decide); simp [a, b, c]),
            R2.out.kept hK6 (by have a := R2.out.ne_q HQ.out (by decide); have b := R2.out.ne_m HQ.out; have c := R2.out.ne_g HQ.out (by decide); simp [a, b, c]),
            below_kept HB.out hK6 (by intro y hy; simp at hy; omega) (Nat.le_refl _)⟩
          have d1 : w6.cell? ⟨a1, k + 1, none⟩ = some (.int .i64 G) := hK6.cell C1.out (by have a := R1.out.ne_q HQ.out (by decide); have b := R1.out.ne_m HQ.out; have c := R1.out.ne_g HQ.out (by decide); simp [a, b, c])
          have d2 : w6.cell? ⟨a2, k + 1, none⟩ = some (.bool B) := hK6.cell C2.out (by have a := R2.out.ne_q HQ.out (by decide); have b := R2.out.ne_m HQ.out; have c := R2.out.ne_g HQ.out (by decide); simp [a, b, c])
          have hw := wrong_any hQ6
          rw [show (tq l (k + 1) g' nf).wrong = nf from rfl] at hw
          have hnf := NF.out
          have h4 : (B = true ∧ G ≠ (v : Int) ∧ f = 0) ∨ B = false ∨ (B = true ∧ G = (v : Int)) ∨ (B = true ∧ G ≠ (v : Int) ∧ f ≠ 0) := by
            cases B <;> by_cases G = (v : Int) <;> by_cases f = 0 <;> simp_all
          have I6 := Lib.hid hI6
          have HW := Lib.hid hw
          clear hI6 hw hQ6 hK6 hg6
          rcases h4 with ⟨hb, hne, h0⟩ | hb | ⟨hb, he⟩ | ⟨hb, hne, h0⟩
          · rw [if_pos ⟨hb, hne, h0⟩] at hnf
            subst hb
            subst h0
            subst hnf
            have t7 : (G != (v : Int)) = true := by simp; exact hne
            clear NF
            go_wp2_with fail
            refine HW.out.mono ?_
            rintro e w7 ⟨rfl, rfl⟩
            go_wp2_with fail
            exact ⟨⟨k + 1, n', g', _, by omega, by omega, by go_num, rfl, I6.out⟩, by simp [intOf]; omega⟩
          · rw [if_neg (by rw [hb]; simp)] at hnf
            subst hb
            subst hnf
            clear NF
            go_wp2_with fail
            refine HW.out.mono ?_
            rintro e w7 ⟨rfl, rfl⟩
            go_wp2_with fail
            exact ⟨⟨k + 1, n', g', _, by omega, by omega, by go_num, rfl, I6.out⟩, by simp [intOf]; omega⟩
          · rw [if_neg (by rw [he]; simp)] at hnf
            subst hb
            subst hnf
            have t7 : (G != (v : Int)) = false := by simp; exact he
            clear NF he
            go_wp2_with fail
            refine HW.out.mono ?_
            rintro e w7 ⟨rfl, rfl⟩
            go_wp2_with fail
            exact ⟨⟨k + 1, n', g', _, by omega, by omega, by go_num, rfl, I6.out⟩, by simp [intOf]; omega⟩
          · rw [if_neg (by intro hc; exact h0 hc.2.2)] at hnf
            subst hb
            subst hnf
            have t7 : (G != (v : Int)) = true := by simp; exact hne
            have t8 : (f == 0) = false := by simp; exact h0
            clear NF
            go_wp2_with fail
            refine HW.out.mono ?_
            rintro e w7 ⟨rfl, rfl⟩
            go_wp2_with fail
            exact ⟨⟨k + 1, n', g', _, by omega, by omega, by go_num, rfl, I6.out⟩, by simp [intOf]; omega⟩)
    · obtain rfl : k = len := by omega
      obtain ⟨wo, hwo⟩ : ∃ wo, wo = wr := ⟨_, rfl⟩
      subst hwo
      go_wp2_with fail
      obtain ⟨⟨gb, o, cap, hQ, hgb⟩, hR1, hR2, hB⟩ := II.out
      refine (right_any hQ).mono ?_
      rintro e w6 ⟨rfl, hQ6, hK6⟩
      have hB6 := Lib.hid (below_kept hB hK6 (by intro y hy; simp at hy; omega) (Nat.le_refl _))
      have hw := wrong_any hQ6
      rw [show ((tq l k g f).right).wrong = 0 from rfl] at hw
      have HW := Lib.hid hw
      clear hw hQ hR1 hR2 hB hQ6 hK6
      go_wp2_with fail
      refine HW.out.mono ?_
      rintro e w7 ⟨rfl, rfl⟩
      go_wp2
      go_ret
      exact ⟨rfl, hB6.out⟩

set_option maxRecDepth 100000 in
theorem tells_else (len ul : Nat) (A : Option Addr) (c : Nat) (A' : Option Addr) (c' : Nat) (w : World) (Ad : Nat → Addr) (hG : Glob w Ad) (hl : 60 < len) :
    Calls Tryd.prog 4 #[.slice A len c, .slice A' ul c'] w fun e w' => e = .returned (.bool true) ∧ Below w.heap.size w w' := by
  have hl' : (60 : Int) < (len : Int) := by omega
  go_enter Tryd.func4, Tryd.ntmps4
  go_wp2_with fail
  refine (qawake_any _ Ad hG).mono ?_
  rintro e w1 ⟨rfl, hB1⟩
  go_wp2_with fail
  refine (new_any 0 _ (by omega)).mono ?_
  rintro e w2 ⟨qb, m, g, rfl, hQ, hB2, hqb, hm, hg⟩
  have B2 := Lib.hid (hB1.trans (hB2.mono hB1.size))
  clear hB1 hB2 hQ hqb hm hg
  go_wp2
  go_ret
  exact ⟨rfl, B2.out⟩

theorem tells_any (w : World) (Ad : Nat → Addr) (hG : Glob w Ad) (A : Option Addr) (c : Nat) (l : List Int)
    (h : l.length ≤ c ∧ c ≤ maxLen ∧ Cells w A (l.map (Value.int .i64)) ∧ ∀ n ∈ l, (Lit.int .i64 n).wf = true) (A' : Option Addr) (c' : Nat) (us : List Int)
    (h' : us.length ≤ c' ∧ c' ≤ maxLen ∧ Cells w A' (us.map (Value.int .i64)) ∧ ∀ n ∈ us, (Lit.int .i64 n).wf = true) :
    Calls Tryd.prog 4 #[.slice A l.length c, .slice A' us.length c'] w fun e w' => e = .returned (.bool true) ∧ Below w.heap.size w w' := by
  by_cases hl : l.length ≤ 60
  · exact tells_walk l us A c A' c' w Ad hG h.2.2.1 h'.2.2.1 hl (by omega)
  · exact tells_else l.length us.length A c A' c' w Ad hG (by omega)

end Go.Proofs.YtkpbjahjiajodaaDoor
