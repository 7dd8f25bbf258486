/- This text proves what the queue's Close computes, over the loaded program: what is blamed is the least frame that was used or put otherwise. -/
import Derived.Test.YtpidjmgapiekaaaGreatDoorQueue3
import Derived.Maps.RangeWalk
namespace Go.Proofs.YtpidjmgapiekaaaGreatDoor
open Go.RowKit Go.WideShapes

/-- v is the least of what was wrong and of the frames that P tells. -/
def Least (v w0 : Int) (P : Int → Prop) : Prop := (v = w0 ∨ P v) ∧ (∀ f, P f → v ≠ 0 ∧ v ≤ f) ∧ (w0 ≠ 0 → v ≠ 0 ∧ v ≤ w0)
def blamed (wr f : Int) : Int := if wr = 0 ∨ f < wr then f else wr

theorem Least.start {w0 : Int} {P : Int → Prop} (h : ∀ f, ¬ P f) : Least w0 w0 P := ⟨.inl rfl, fun f hf => absurd hf (h f), fun h => ⟨h, Int.le_refl _⟩⟩
theorem Least.same {v w0 : Int} {P P' : Int → Prop} (h : Least v w0 P) (e : ∀ f, P' f ↔ P f) : Least v w0 P' := by
  have : P' = P := funext fun f => propext (e f)
  rw [this]; exact h
theorem Least.more {v w0 f : Int} {P P' : Int → Prop} (h : Least v w0 P) (hf : 0 < f) (e : ∀ x, P' x ↔ P x ∨ x = f) : Least (blamed v f) w0 P' := by
  obtain ⟨h1, h2, h3⟩ := h
  unfold blamed
  refine ⟨?_, ?_, ?_⟩
  · split
    · exact .inr ((e f).2 (.inr rfl))
    · rcases h1 with h1 | h1
      · exact .inl h1
      · exact .inr ((e _).2 (.inl h1))
  · intro x hx
    rcases (e x).1 hx with hx | rfl
    · have := h2 x hx
      split <;> omega
    · split <;> omega
  · intro h0
    have := h3 h0
    split <;> omega
theorem Least.eq {v v' w0 : Int} {P : Int → Prop} (h : Least v w0 P) (h' : Least v' w0 P) : v = v' := by
  obtain ⟨h1, h2, h3⟩ := h
  obtain ⟨k1, k2, k3⟩ := h'
  by_cases e : w0 = 0
  · rcases h1 with h1 | h1 <;> rcases k1 with k1 | k1
    · omega
    · have := h2 _ k1; omega
    · have := k2 _ h1; omega
    · have a := h2 _ k1; have b := k2 _ h1; omega
  · have a := h3 e; have b := k3 e
    rcases h1 with h1 | h1 <;> rcases k1 with k1 | k1
    · omega
    · have := h2 _ k1; omega
    · have := k2 _ h1; omega
    · have a := h2 _ k1; have b := k2 _ h1; omega

section
variable {w : World} {qb m g o cap n : Nat} {q : Que}

theorem blame_any (h : QAt w qb m g o cap n q) (f : Int) :
    Calls Tryz.prog 143 #[.pointer (some ⟨qb, 0, none⟩), .int .i64 f] w (fun e w' => e = .returned (.tuple #[]) ∧ QAt w' qb m g o cap n { q with wrong := blamed q.wrong f } ∧ Kept [qb] w w') := by
  have c3 := h.c3
  have f3 := h.f 3
  have H := Lib.hid h
  obtain ⟨wr, hwr⟩ : ∃ x, q.wrong = x := ⟨_, rfl⟩
  rw [hwr] at c3 ⊢
  have WR := Lib.hid hwr
  have hk := Kept.setCell w qb 3 (.int .i64 f)
  have K := Lib.hid hk
  clear h hwr hk
  by_cases h0 : wr = 0
  · subst h0
    have e : blamed 0 f = f := by simp [blamed]
    rw [e]
    clear e
    go_enter Tryz.func143, Tryz.ntmps143
    go_wp2
    go_end0
    exact ⟨rfl, H.out.setWrong f, K.out⟩
  · have t0 : (wr == 0) = false := by simpa using h0
    by_cases h1 : f < wr
    · have e : blamed wr f = f := by simp [blamed, h1]
      rw [e]
      clear e h0
      go_enter Tryz.func143, Tryz.ntmps143
      go_wp2
      go_end0
      exact ⟨rfl, H.out.setWrong f, K.out⟩
    · have e : blamed wr f = wr := by simp [blamed, h0, h1]
      have t1 : decide (f < wr) = false := by simp; omega
      rw [e]
      clear e h0 h1
      go_enter Tryz.func143, Tryz.ntmps143
      go_wp2
      go_end0
      exact ⟨rfl, by rw [← WR.out]; exact H.out, Kept.refl _ _⟩

theorem Kept.grown {a b : World} {x : Nat} (h : Kept [x] a b) : a.grownBy b (some x) := ⟨h.os, h.tape, h.output, h.size, fun k hk hn => h.block k hk (by simp; intro e; exact hn (by rw [e]))⟩

theorem sameKey_int (k k' : IntKind) (a b : Int) : (Lit.int k a).sameKey (.int k' b) = decide (a = b ∧ k = k') := by
  simp [Lit.sameKey, Bool.and_comm]

/-- Which frames the map blames, of those that have come. -/
def InMap (G : Int → Option Int) (f : Int) (left : Lit → Bool) (x : Int) : Prop := f < x ∧ (G x).getD 0 ≠ 0 ∧ (Lit.int .i64 x).wf = true ∧ left (.int .i64 x) = false
/-- Which frames the inputs blame, of those up to a frame. -/
def InRow (fst : Int) (xs : List Int) (f t : Int) (x : Int) : Prop := f < x ∧ x < t ∧ ∃ i : Nat, x = fst + i ∧ i < xs.length ∧ xs.getD i 0 ≠ 0

end

section
variable {w : World} {qb m g o cap n : Nat} {q : Que}

theorem RowAt.takeCap {w : World} {e : TypeId} {g o cap n k : Nat} {xs : List Value} (h : RowAt w e 1 g o cap n xs) (hk : k ≤ n) : RowAt w e 1 g o cap k (xs.take k) := by
  obtain ⟨h1, h2, h3, cur, hb, hs, hx⟩ := h
  refine ⟨by rw [List.length_take, h1]; omega, by omega, by omega, cur, hb, by omega, fun i v hi => ?_⟩
  rw [List.getElem?_take] at hi
  split at hi
  · exact hx i v hi
  · cases hi

/-- What Close leaves. -/
def DoneC (w : World) (qb m g o cap n : Nat) (q : Que) (f : Int) (k : Nat) (e : Ending) (w' : World) : Prop :=
  e = .returned .nilIface ∧ ∃ v, Least v q.wrong (fun x => InMap q.g f (fun _ => false) x ∨ InRow q.first q.xs f (q.last + 1) x) ∧
    QAt w' qb m g o cap n { q with xs := q.xs.take k, wrong := v, closed := true, fin := f } ∧ Kept [qb] w w'

set_option maxRecDepth 100000 in
set_option maxHeartbeats 4000000 in
theorem close_ok (h : QAt w qb m g o cap n q) (hok : q.ok) (f : Int) (hc : q.closed = false) (k : Nat) (hk : (k : Int) = f - q.first + 1) (hf2 : f ≤ q.last) :
    Calls Tryz.prog 115 #[.pointer (some ⟨qb, 0, none⟩), .int .i64 f] w (DoneC w qb m g o cap n q f k) := by
  have hlast := last_any h hok
  obtain ⟨h1, h2, h3⟩ := hok
  obtain ⟨L, hL⟩ : ∃ x, q.last = x := ⟨_, rfl⟩
  rw [hL] at hlast hf2
  have hL' := hL
  unfold Que.last at hL'
  have c0 := h.c0
  have c2 := h.c2
  have c4 := h.c4
  rw [hc] at c4
  have H := Lib.hid h
  have hmap := h.map
  obtain ⟨D, hD, hG⟩ := hmap
  have GG := Lib.hid hG
  obtain ⟨fst, hfst⟩ : ∃ x, q.first = x := ⟨_, rfl⟩
  obtain ⟨l, hlen⟩ : ∃ x, q.xs.length = x := ⟨_, rfl⟩
  rw [hfst] at c0 hk h1 h2 hL'
  rw [hlen] at h2 h3 hL'
  have FST := Lib.hid hfst
  have LEN := Lib.hid hlen
  have LL := Lib.hid hL
  have HL := Lib.hid hlast
  have CC := Lib.hid hc
  have t1 : decide (f < fst - 1) = false := by simp; omega
  have t2 : decide (L < f) = false := by simp; omega
  have hb1 : fst - 1 ≤ f := by omega
  have hb2 : fst ≤ 1073741826 := by omega
  have hb3 : L ≤ 1073741826 := by omega
  have HK := Lib.hid hk
  have HLL := Lib.hid hL'
  clear h hc hG hfst hlen hL hL' hlast hk
  go_enter Tryz.func115, Tryz.ntmps115
  go_wp2_with fail
  refine HL.out.mono ?_
  rintro e w1 ⟨rfl, k1, rfl⟩
  go_wp2_with (first
    | (at_range; refine wpList_range_own _ rfl _ 156 rfl 3 3 law3 Tryz.underlying156 _ m n _ rfl (show World.ownsMap _ _ _ _ _ _ _ from hD) ?_; intro w0 hrg0 hg0 hs0)
    | fail)
  go_frame
  have hk0 : Kept [qb] w w0 := (Kept.drewN [qb] w k1).trans (Kept.of_grown_none hg0) (fun y hy => by simp at hy)
  have Q0 : Hid (QAt w0 qb m g o cap n { q with wrong := q.wrong }) := Lib.hid (H.out.kept ((Kept.drewN [] w k1).trans (Kept.of_grown_none hg0) (fun y hy => by simp at hy)) (by simp) (by simp) (by simp))
  have hL0 : Least q.wrong q.wrong (InMap q.g f (Maps.has D)) := Least.start (by
    rintro x ⟨_, hx2, hx3, hx4⟩
    rw [(GG.out x hx3).1] at hx4
    cases hh : q.g x with
    | none => rw [hh] at hx2; exact hx2 rfl
    | some c => rw [hh] at hx4; cases hx4)
  have K0 := Lib.hid hk0
  have L0 := Lib.hid hL0
  have HC := Lib.hid (show (w.drewN k1).heap.size = w.heap.size from rfl)
  rw [HC.out] at hrg0
  rw [HC.out]
  have R0 := Lib.hid hrg0
  clear hk0 hL0 hrg0 hg0 hs0
  go_loopw [5] (fun _ wr => ∃ (left : Lit → Bool) (cnt : Nat) (v : Int), wr.ranges Tryz.prog 3 (plainElem Tryz.prog 3) m w.heap.size n D left cnt ∧ Least v q.wrong (InMap q.g f left) ∧ QAt wr qb m g o cap n { q with wrong := v } ∧ Kept [qb] w wr)
    (fun _ wr => wr.rangeLeft m w.heap.size)
  case atStart => exact ⟨_, _, _, R0.out, L0.out, Q0.out, K0.out⟩
  case round =>
    obtain ⟨left, cnt, v, hrg, hLe, hQ, hKe⟩ := hrel
    have RG := Lib.hid hrg
    have LE := Lib.hid hLe
    have QQ := Lib.hid hQ
    have KK := Lib.hid hKe
    clear hrg hLe hQ hKe
    go_wp2_with (first
      | (at_next; refine wpList_next_ranges_ii _ rfl _ rfl 3 3 .i64 .i64 law3 Tryz.underlying3 Tryz.underlying3 m w.heap.size n _ _ _ rfl RG.out ?_ ?_)
      | fail)
    · intro _ hl0
      have hl2 : Least v q.wrong (fun x => InMap q.g f (fun _ => false) x ∨ InRow q.first q.xs f (f + 1) x) := LE.out.same (fun x => by
        have e : InMap q.g f left x ↔ InMap q.g f (fun _ => false) x := by unfold InMap; rw [hl0]
        rw [e]
        exact ⟨fun h => h.elim id (fun h => absurd h (by unfold InRow; omega)), .inl⟩)
      have L2 := Lib.hid hl2
      clear hl2 hl0 LE RG R0 L0 Q0 K0
      obtain ⟨wo, hwo⟩ : ∃ wo, wo = wr := ⟨_, rfl⟩
      subst hwo
      go_wp2_with fail
      go_loopw [7] (fun fv wr => ∃ (j : Nat) (v : Int), f + 1 + j ≤ L + 1 ∧ fv = .int .i64 (f + 1 + j) ∧ Least v q.wrong (fun x => InMap q.g f (fun _ => false) x ∨ InRow q.first q.xs f (f + 1 + j) x) ∧ QAt wr qb m g o cap n { q with wrong := v } ∧ Kept [qb] w wr)
        (fun fv _ => (L + 1 - intOf fv).toNat)
      case atStart => exact ⟨0, v, by omega, by go_num, by simpa using L2.out, QQ.out, KK.out⟩
      case round =>
        obtain ⟨j, v2, hj, rfl, hLe, hQ, hKe⟩ := hrel
        have hlast2 := last_any hQ (show Que.ok { q with wrong := v2 } from ⟨by show 1 ≤ q.first; rw [FST.out]; exact h1, by show q.first + _ ≤ _; rw [FST.out, LEN.out]; exact h2, by show q.xs.length ≤ _; rw [LEN.out]; exact h3⟩)
        rw [show Que.last { q with wrong := v2 } = L from LL.out] at hlast2
        have HL2 := Lib.hid hlast2
        have LE2 := Lib.hid hLe
        have QQ2 := Lib.hid hQ
        have KK2 := Lib.hid hKe
        clear hlast2 hLe hQ hKe
        by_cases hlt : f + 1 + j ≤ L
        · have hkj : k + j < l := by have := HK.out; have := HLL.out; omega
          have c0 := QQ2.out.c0
          have c1 := QQ2.out.c1
          rw [show ({ q with wrong := v2 } : Que).first = fst from FST.out] at c0
          rw [show ({ q with wrong := v2 } : Que).xs.length = l from LEN.out] at c1
          have hat := QQ2.out.at (k + j) (by show _ < q.xs.length; rw [LEN.out]; exact hkj)
          obtain ⟨x, hx⟩ : ∃ x, ({ q with wrong := v2 } : Que).xs.getD (k + j) 0 = x := ⟨_, rfl⟩
          rw [hx] at hat
          have HX := Lib.hid (show q.xs.getD (k + j) 0 = x from hx)
          have hsub : f + 1 + j - fst = ((k + j : Nat) : Int) := by have := HK.out; omega
          have hi2 : ((k + j : Nat) : Int) < (l : Int) := by omega
          have hi1 : (0 : Int) ≤ ((k + j : Nat) : Int) := by omega
          clear hx
          go_wp2_with fail
          refine HL2.out.mono ?_
          rintro e w2 ⟨rfl, k2, rfl⟩
          go_wp2_with fail
          have hst : ∀ y, InRow q.first q.xs f (f + 1 + ((j + 1 : Nat) : Int)) y ↔ InRow q.first q.xs f (f + 1 + j) y ∨ (y = f + 1 + j ∧ x ≠ 0) := by
            intro y
            have e1 := HK.out
            have e2 := FST.out
            unfold InRow
            constructor
            · rintro ⟨a1, a2, i, a3, a4, a5⟩
              by_cases e : y = f + 1 + j
              · refine .inr ⟨e, ?_⟩
                obtain rfl : i = k + j := by omega
                rw [← HX.out]; exact a5
              · exact .inl ⟨a1, by omega, i, a3, a4, a5⟩
            · rintro (⟨a1, a2, i, a3, a4, a5⟩ | ⟨rfl, a1⟩)
              · exact ⟨a1, by omega, i, a3, a4, a5⟩
              · exact ⟨by omega, by omega, k + j, by omega, by rw [LEN.out]; exact hkj, by rw [HX.out]; exact a1⟩
          have ST := Lib.hid hst
          clear hst
          by_cases hx0 : x = 0
          · subst hx0
            have L3 : Hid (Least v2 q.wrong (fun y => InMap q.g f (fun _ => false) y ∨ InRow q.first q.xs f (f + 1 + ((j + 1 : Nat) : Int)) y)) := Lib.hid (LE2.out.same (fun y => by
              rw [ST.out]
              exact ⟨fun h => h.imp id (fun h => h.elim id (fun h => absurd rfl h.2)), fun h => h.imp id .inl⟩))
            go_quiet (fail)
            go_wp2_with fail
            exact ⟨⟨j + 1, v2, by omega, by go_num, L3.out, QQ2.out.kept (Kept.drewN [] wr _) (by simp) (by simp) (by simp), KK2.out.trans (Kept.drewN [] wr _) (by simp)⟩, by simp [intOf]; omega⟩
          · have t6 : (x != 0) = true := by simpa using hx0
            have L3 : Hid (Least (blamed v2 (f + 1 + j)) q.wrong (fun y => InMap q.g f (fun _ => false) y ∨ InRow q.first q.xs f (f + 1 + ((j + 1 : Nat) : Int)) y)) := Lib.hid (LE2.out.more (by omega) (fun y => by
              rw [ST.out]
              constructor
              · rintro (h | h | h)
                · exact .inl (.inl h)
                · exact .inl (.inr h)
                · exact .inr h.1
              · rintro ((h | h) | h)
                · exact .inl h
                · exact .inr (.inl h)
                · exact .inr (.inr ⟨h, hx0⟩)))
            clear hx0
            go_quiet (fail)
            go_wp2_with fail
            refine (blame_any (QQ2.out.kept (Kept.drewN [] wr _) (by simp) (by simp) (by simp)) _).mono ?_
            rintro e w3 ⟨rfl, hQ3, hK3⟩
            have Q3 := Lib.hid hQ3
            have K3 := Lib.hid ((KK2.out.trans (Kept.drewN [] wr _) (by simp)).trans hK3 (fun y hy => .inl hy))
            clear hQ3 hK3
            go_wp2_with fail
            exact ⟨⟨j + 1, _, by omega, by go_num, L3.out, Q3.out, K3.out⟩, by simp [intOf]; omega⟩
        · go_wp2_with fail
          refine HL2.out.mono ?_
          rintro e w2 ⟨rfl, k2, rfl⟩
          go_wp2_with fail
          have hfl : f + 1 + j = L + 1 := by omega
          have L4 : Hid (Least v2 q.wrong (fun y => InMap q.g f (fun _ => false) y ∨ InRow q.first q.xs f (q.last + 1) y)) := Lib.hid (by rw [LL.out, ← hfl]; exact LE2.out)
          have Q4 := Lib.hid (QQ2.out.kept (Kept.drewN [] wr k2) (by simp) (by simp) (by simp))
          have K4 := Lib.hid (KK2.out.trans (Kept.drewN [] wr k2) (by simp))
          obtain ⟨W, hW⟩ : ∃ W, W = wr.drewN k2 := ⟨_, rfl⟩
          rw [← hW] at Q4 K4 ⊢
          have c0 := Q4.out.c0
          have c1 := Q4.out.c1
          have f1 := Q4.out.f 1
          have c4 := Q4.out.c4
          have c5 := Q4.out.c5
          have f4 := Q4.out.f 4
          have f5 := Q4.out.f 5
          rw [show ({ q with wrong := v2 } : Que).first = fst from FST.out] at c0
          rw [show ({ q with wrong := v2 } : Que).xs.length = l from LEN.out] at c1
          rw [show ({ q with wrong := v2 } : Que).closed = false from CC.out] at c4
          have hsub : f - fst + 1 = (k : Int) := by have := HK.out; omega
          have hkl : k ≤ l := by have := HK.out; have := HLL.out; omega
          have hcap : l ≤ cap := by have := H.out.row.2.1; rw [LEN.out] at this; exact this
          have hi1 : (0 : Int) ≤ (k : Int) := by omega
          have hi2 : (k : Int) ≤ (cap : Int) := by omega
          have e1 : IntKind.i64.wrap (f - fst) = f - fst := IntWalk.i64_in _ (by omega)
          have e2 : IntKind.i64.wrap (f - fst + 1) = (k : Int) := by rw [IntWalk.i64_in _ (by omega), hsub]
          clear hlt hfl hW hsub
          go_still_tail 15, (by kernel_rfl)
          clear e1 e2
          go_wp2
          go_ret
          have hr := Q4.out.row.takeCap (k := k) (by show k ≤ q.xs.length; rw [LEN.out]; exact hkl)
          rw [← List.map_take] at hr
          have Q5 := ((Q4.out.cut (l := k) (by rw [List.length_take]; show min k q.xs.length = k; rw [LEN.out]; omega) hr).setClosed true).setFin f
          have K5 := ((K4.out.trans (Kept.setCell _ qb 1 (.slice (some ⟨g, o, none⟩) k cap)) (fun y hy => .inl hy)).trans (Kept.setCell _ qb 4 (.bool true)) (fun y hy => .inl hy)).trans (Kept.setCell _ qb 5 (.int .i64 f)) (fun y hy => .inl hy)
          exact ⟨rfl, v2, L4.out, Q5.kept ((Kept.refl [] _).drew) (by simp) (by simp) (by simp), K5.drew⟩
    · intro x c w1 cnt1 hwx hwc hlx hat hrg1 hlt hg1 hs1 hen
      have hne : w.heap.size ≠ qb ∧ w.heap.size ≠ m ∧ w.heap.size ≠ g := ⟨by have := H.out.lt; omega, by have := H.out.map.lt; omega, by have := H.out.row.lt; omega⟩
      obtain ⟨hn1, hn2, hn3⟩ := hne
      have hK1 : Kept [qb] w w1 := KK.out.trans (Kept.of_grown hg1) (fun y hy => .inr (by simp at hy; omega))
      have hQ1 := QQ.out.kept (Kept.of_grown hg1) (by simpa using hn1.symm) (by simpa using hn2.symm) (by simpa using hn3.symm)
      have hcx : (q.g x).getD 0 = c := by
        have a := (GG.out x hwx).2
        rw [hat] at a
        simpa using a.symm
      have hstep : ∀ y, InMap q.g f (fun z => left z && !z.sameKey (.int .i64 x)) y ↔ InMap q.g f left y ∨ (y = x ∧ f < x ∧ c ≠ 0) := by
        intro y
        unfold InMap
        simp only [sameKey_int]
        constructor
        · rintro ⟨a1, a2, a3, a4⟩
          by_cases e : y = x
          · subst e; exact .inr ⟨rfl, a1, by rw [← hcx]; exact a2⟩
          · exact .inl ⟨a1, a2, a3, by simpa [e] using a4⟩
        · rintro (⟨a1, a2, a3, a4⟩ | ⟨rfl, a1, a2⟩)
          · exact ⟨a1, a2, a3, by simp [a4]⟩
          · exact ⟨a1, by rw [hcx]; exact a2, hwx, by simp⟩
      have K1 := Lib.hid hK1
      have Q1 := Lib.hid hQ1
      have RN := Lib.hid hrg1
      have ST := Lib.hid hstep
      have RL : Hid (w1.rangeLeft m w.heap.size < wr.rangeLeft m w.heap.size) := Lib.hid (by rw [hrg1.left_eq, RG.out.left_eq]; exact hlt)
      clear hK1 hQ1 hrg1 hstep hat hcx hg1 hlx hlt
      by_cases hx : f < x ∧ c ≠ 0
      · obtain ⟨hx1, hx2⟩ := hx
        have t5 : (c != 0) = true := by simpa using hx2
        go_wp2_with fail
        refine (blame_any Q1.out x).mono ?_
        rintro e w2 ⟨rfl, hQ2, hK2⟩
        have hRk := RN.out.kept hK2.grown (by simpa using H.out.ne_map.symm) (by simp; omega)
        have RLk : w2.rangeLeft m w.heap.size = w1.rangeLeft m w.heap.size := by rw [hRk.left_eq, RN.out.left_eq]
        have L2 : Least (blamed v x) q.wrong (InMap q.g f (fun z => left z && !z.sameKey (.int .i64 x))) := LE.out.more (by omega) (fun y => by
          rw [ST.out]
          exact ⟨fun h => h.imp id (fun h => h.1), fun h => h.imp id (fun h => ⟨h, hx1, hx2⟩)⟩)
        have R2 := Lib.hid hRk
        have RE := Lib.hid RLk
        have K2 := Lib.hid (K1.out.trans hK2 (fun y hy => .inl hy))
        have Q2 := Lib.hid hQ2
        have LL2 := Lib.hid L2
        clear hRk RLk hK2 hQ2 L2
        go_wp2_with fail
        exact ⟨⟨_, _, _, R2.out, LL2.out, Q2.out, K2.out⟩, by rw [RE.out]; exact RL.out⟩
      · have hL1 : Least v q.wrong (InMap q.g f (fun z => left z && !z.sameKey (.int .i64 x))) := LE.out.same (fun y => by
          rw [ST.out]
          exact ⟨fun h => h.elim id (fun h => absurd h.2 hx), .inl⟩)
        have L1 := Lib.hid hL1
        clear hL1
        by_cases hx1 : f < x
        · have hc0 : c = 0 := by
            by_cases e : c = 0
            · exact e
            · exact absurd ⟨hx1, e⟩ hx
          subst hc0
          clear hx
          go_wp2_with fail
          exact ⟨⟨_, _, _, RN.out, L1.out, Q1.out, K1.out⟩, RL.out⟩
        · have t5 : decide (f < x) = false := by simpa using hx1
          clear hx hx1
          go_wp2_with fail
          exact ⟨⟨_, _, _, RN.out, L1.out, Q1.out, K1.out⟩, RL.out⟩

/-- Close refuses. -/
theorem close_closed (h : QAt w qb m g o cap n q) (f : Int) (hc : q.closed = true) (a : Addr) (hs : w.cell? ⟨2, 0, none⟩ = some (.iface 221 (.pointer (some a)))) :
    Calls Tryz.prog 115 #[.pointer (some ⟨qb, 0, none⟩), .int .i64 f] w (Refused w a) := by
  have c4 := h.c4
  rw [hc] at c4
  clear h hc
  go_enter Tryz.func115, Tryz.ntmps115
  go_wp2_with fail
  refine (refuse_any a _).mono ?_
  rintro e w1 ⟨v, rfl, hR⟩
  go_wp2
  go_ret
  exact ⟨v, rfl, hR⟩

theorem close_arg (h : QAt w qb m g o cap n q) (hok : q.ok) (f : Int) (hc : q.closed = false) (hf : f < q.first - 1 ∨ q.last < f) (a : Addr) (hs : w.cell? ⟨1, 0, none⟩ = some (.iface 221 (.pointer (some a)))) :
    Calls Tryz.prog 115 #[.pointer (some ⟨qb, 0, none⟩), .int .i64 f] w (Refused w a) := by
  have hlast := last_any h hok
  have c0 := h.c0
  have c4 := h.c4
  rw [hc] at c4
  obtain ⟨h1, h2, h3⟩ := hok
  obtain ⟨L, hL⟩ : ∃ x, q.last = x := ⟨_, rfl⟩
  obtain ⟨fst, hfst⟩ : ∃ x, q.first = x := ⟨_, rfl⟩
  rw [hL] at hlast hf
  rw [hfst] at c0 hf h1 h2
  have HL := Lib.hid hlast
  clear h hc hL hfst hlast
  by_cases h4 : f < fst - 1
  · clear hf
    go_enter Tryz.func115, Tryz.ntmps115
    go_wp2_with fail
    refine (refuse_any a _).mono ?_
    rintro e w1 ⟨v, rfl, hR⟩
    go_wp2
    go_ret
    exact ⟨v, rfl, hR⟩
  · have t1 : decide (f < fst - 1) = false := by simp; omega
    have hf' : L < f := by omega
    clear hf h4
    go_enter Tryz.func115, Tryz.ntmps115
    go_wp2_with fail
    refine HL.out.mono ?_
    rintro e w1 ⟨rfl, k1, rfl⟩
    go_wp2_with fail
    refine (refuse_any a _).mono ?_
    rintro e w1 ⟨v, rfl, hR⟩
    go_wp2
    go_ret
    exact Refused.drewN (k := k1) ⟨v, rfl, hR⟩

/-! ### No queue. -/
theorem close_nil (w : World) (f : Int) (a : Addr) (hs : w.cell? ⟨0, 0, none⟩ = some (.iface 221 (.pointer (some a)))) :
    Calls Tryz.prog 115 #[.pointer none, .int .i64 f] w (Refused w a) := by
  go_enter Tryz.func115, Tryz.ntmps115
  go_wp2_with fail
  refine (refuse_any a _).mono ?_
  rintro e w1 ⟨v, rfl, hR⟩
  go_wp2
  go_ret
  exact ⟨v, rfl, hR⟩
theorem get_nil (w : World) (f : Int) : Calls Tryz.prog 82 #[.pointer none, .int .i64 f] w (fun e w' => e = .returned (.tuple #[.int .i64 0, .bool false]) ∧ w = w') := by
  go_enter Tryz.func82, Tryz.ntmps82
  go_wp2
  go_ret2
  exact ⟨rfl, rfl⟩
theorem last_nil (w : World) : Calls Tryz.prog 51 #[.pointer none] w (fun e w' => e = .returned (.int .i64 0) ∧ w = w') := by
  go_enter Tryz.func51, Tryz.ntmps51
  go_wp2
  go_ret
  exact ⟨rfl, rfl⟩
theorem wrong_nil (w : World) : Calls Tryz.prog 69 #[.pointer none] w (fun e w' => e = .returned (.int .i64 0) ∧ w = w') := by
  go_enter Tryz.func69, Tryz.ntmps69
  go_wp2
  go_ret
  exact ⟨rfl, rfl⟩
theorem list_nil (w : World) (f : Int) : Calls Tryz.prog 128 #[.pointer none, .int .i64 f] w (fun e w' => e = .returned (.slice none 0 0) ∧ w = w') := by
  go_enter Tryz.func128, Tryz.ntmps128
  go_wp2
  go_ret
  exact ⟨rfl, rfl⟩

end

end Go.Proofs.YtpidjmgapiekaaaGreatDoor
