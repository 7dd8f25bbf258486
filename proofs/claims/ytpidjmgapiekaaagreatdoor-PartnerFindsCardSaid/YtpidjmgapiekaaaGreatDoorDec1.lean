/- This text proves what inputs are read out of a packet, over the loaded program. -/
import Derived.Test.YtpidjmgapiekaaaGreatDoorEnc2
namespace Go.Proofs.YtpidjmgapiekaaaGreatDoor
open Go.RowKit Go.WideShapes
set_option linter.unusedSimpArgs false

/-- One input more. -/
def stepF (s : Rdr × Int × List Int) (t : Bool) : Rdr × Int × List Int :=
  if t then (s.1.byte.1, (if (s.1.byte.2 : Int) = s.2.1 then -1 else (s.1.byte.2 : Int)), s.2.2 ++ [if (s.1.byte.2 : Int) = s.2.1 then -1 else (s.1.byte.2 : Int)]) else (s.1, s.2.1, s.2.2 ++ [s.2.1])
def Rdr.insF (R : Rdr) (b : Int) (fl : List Bool) : Rdr × Int × List Int := fl.foldl stepF (R, b, [])
theorem insF_snoc (R : Rdr) (b : Int) (fl : List Bool) (t : Bool) : R.insF b (fl ++ [t]) = stepF (R.insF b fl) t := by simp [Rdr.insF]
theorem insF_len (R : Rdr) (b : Int) : ∀ (fl : List Bool), (R.insF b fl).2.2.length = fl.length := by
  intro fl
  unfold Rdr.insF
  have : ∀ (fl : List Bool) (s : Rdr × Int × List Int), (fl.foldl stepF s).2.2.length = s.2.2.length + fl.length := by
    intro fl
    induction fl with
    | nil => intro s; simp
    | cons t r ih =>
      intro s
      rw [List.foldl_cons, ih]
      unfold stepF
      split <;> simp <;> omega
  rw [this]; simp
/-- What inputs are read. -/
def Rdr.inputs (R : Rdr) (b n : Int) : Rdr × List Int :=
  let q := R.flags (if 33 < n then 33 else n)
  ((q.1.insF b q.2).1, (q.1.insF b q.2).2.2)
theorem s_info3 : (Tryz.prog.info? 3).map (fun i => (i.zero, i.size, i.bytes)) = some (some (.int .i64 0), 1, 8) := by kernel_rfl
def GotN (w : World) (rb : Nat) (R : Rdr) (l : List Int) (e : Ending) (w' : World) : Prop := ∃ X c, e = .returned (.slice X l.length c) ∧ Cells w' X (iv l) ∧ RLeft w rb R w' ∧ ∀ b o, X = some ⟨b, o, none⟩ → w.heap.size ≤ b

set_option maxRecDepth 100000 in
set_option maxHeartbeats 6400000 in
theorem scanIns_any {w : World} {rb : Nat} {R : Rdr} (h : RdAt w rb R) (b n : Int) (hn : In64 n) : Calls Tryz.prog 118 #[.agg #[.pointer (some ⟨rb, 0, none⟩)], .int .i64 b, .int .i64 n] w (GotN w rb (R.inputs b n).1 (R.inputs b n).2) := by
  have al := (Below.refl w.heap.size w).alloc (Nat.le_refl _) (.cells #[.pointer (some ⟨rb, 0, none⟩)] 119)
  obtain ⟨w1, hw1⟩ : ∃ w1, w.alloc (.cells #[.pointer (some ⟨rb, 0, none⟩)] 119) = w1 := ⟨_, rfl⟩
  have bx := heap_alloc_new w (.cells #[.pointer (some ⟨rb, 0, none⟩)] 119)
  have sz := size_alloc1 w (.cells #[.pointer (some ⟨rb, 0, none⟩)] 119)
  rw [hw1] at al bx sz
  obtain ⟨m, hm⟩ : ∃ m : Int, (if 33 < n then 33 else n) = m := ⟨_, rfl⟩
  have hm64 : m ≤ 33 := by rw [← hm]; split <;> omega
  have h2 := s_min2_int .i64 .i64 n 33
  have FL := Lib.hid (rflags_any (h.below al) m)
  unfold Rdr.inputs
  rw [hm]
  obtain ⟨q, hq⟩ : ∃ q, R.flags m = q := ⟨_, rfl⟩
  rw [hq] at FL ⊢
  obtain ⟨R1, fl⟩ := q
  have FLN : Hid (fl.length ≤ 33) := Lib.hid (by
    have : (R.flags m).2.length ≤ 33 := by
      unfold Rdr.flags
      repeat' split
      all_goals first | (simp; done) | (rw [flagsOf_len]; omega)
    rw [hq] at this; exact this)
  dsimp only at FL ⊢
  have E1 := Lib.hid hw1
  have AL := Lib.hid al
  have BX := Lib.hid bx
  have SZ := Lib.hid sz
  have RL := Lib.hid h.lt
  clear h al hw1 bx sz hq
  go_enter Tryz.func118, Tryz.ntmps118
  go_wp2_with fail
  rw [E1.out]
  refine (FL.out (by rw [← hm]; have := hn.1; split <;> omega) (by omega)).mono ?_
  rintro e w2 ⟨⟨Y, cy, rfl, y1, y2⟩, l1, l2⟩
  have hRB : rb < w2.heap.size := l1.lt
  have RB2 := Lib.hid hRB
  have YY := Lib.hid (And.intro y1 y2)
  have LL := Lib.hid (And.intro l1 l2)
  have b2 : w2.heap[w.heap.size]? = some (.cells #[.pointer (some ⟨rb, 0, none⟩)] 119 (0, 0)) := (l2.block w.heap.size (by rw [SZ.out]; omega) (by have := RL.out; simp; omega)).trans BX.out
  have B2 := Lib.hid b2
  obtain ⟨len, hlen⟩ : ∃ len, fl.length = len := ⟨_, rfl⟩
  have LN := Lib.hid hlen
  have l33 : (len : Int) ≤ 33 := by have := FLN.out; omega
  rw [hlen]
  clear y1 y2 l1 l2 hRB b2 hlen hm h2
  go_wp2_with fail
  go_loopw [1, 6, 16] (fun bv ov kv wr => ∃ (k : Nat) (gp : List Nat), k ≤ len ∧ kv = .int .i64 k ∧ bv = .int .i64 (R1.insF b (fl.take k)).2.1 ∧ RowN wr 3 1 gp ov k (iv (R1.insF b (fl.take k)).2.2) ∧ (∀ x ∈ gp, w2.heap.size ≤ x) ∧ RdAt wr rb (R1.insF b (fl.take k)).1 ∧ Kept [rb] w2 wr) (fun _ _ kv _ => len - (intOf kv).toNat)
  case atStart => exact ⟨0, [], Nat.zero_le _, rfl, rfl, .inl ⟨rfl, rfl, rfl⟩, by simp, LL.out.1, Kept.refl _ _⟩
  case round =>
    obtain ⟨k, gp, hk, rfl, rfl, hR, hgp, hA, hK⟩ := hrel
    have RH := Lib.hid hR
    have GP := Lib.hid hgp
    have RA0 := Lib.hid hA
    have KK0 := Lib.hid hK
    have p0 : wr.cell? ⟨w.heap.size, 0, none⟩ = some (.pointer (some ⟨rb, 0, none⟩)) := by
      have := (hK.block w.heap.size (Array.getElem?_eq_some_iff.1 B2.out).1 (by have := RL.out; simp; omega)).trans B2.out
      simp only [World.cell?, this]; rfl
    clear hR hgp hA hK
    by_cases hlt : k < len
    · obtain ⟨t, ht⟩ : ∃ t, fl[k]? = some t := ⟨fl[k]'(by rw [LN.out]; exact hlt), by simp [show k < fl.length by rw [LN.out]; exact hlt]⟩
      obtain ⟨yb, yo, hYe, hc⟩ := (YY.out.1.kept KK0.out (fun b' o' hb => by have h1 := (YY.out.2 _ hb).1; have h2 := SZ.out; have h3 := RL.out; dsimp only at h1; simp; omega)) k (.bool t) (by simp [ht])
      have hts : fl.take (k + 1) = fl.take k ++ [t] := by
        have hkl : k < fl.length := by rw [LN.out]; exact hlt
        rw [List.take_succ_eq_append_getElem hkl]
        rw [List.getElem?_eq_getElem hkl] at ht
        cases ht; rfl
      have TS := Lib.hid hts
      have i0 : (0 : Int) ≤ (k : Int) := by omega
      have i1 : (k : Int) < (len : Int) := by omega
      clear ht hts
      subst hYe
      obtain ⟨st, hst⟩ : ∃ st, R1.insF b (fl.take k) = st := ⟨_, rfl⟩
      rw [hst] at RH RA0 ⊢
      have HST := Lib.hid hst
      clear hst
      obtain ⟨Rk, bk, outk⟩ := st
      dsimp only at RH RA0 ⊢
      cases t with
      | false =>
        have RK : Hid (∀ c, RowN (wr.alloc c) 3 1 gp _ k (iv outk)) := Lib.hid (fun c => RH.out.kept (Kept.alloc wr c) (by simp))
        have RA := Lib.hid RA0.out
        have KK := Lib.hid KK0.out
        have SF : Hid (stepF (R1.insF b (fl.take k)) false = (Rk, bk, outk ++ [bk])) := Lib.hid (by rw [HST.out]; rfl)
        go_wp2_with (first
          | (at_builtin; refine wpList_append_rown rfl _ _ 49 49 rfl 3 (.int .i64 0) 1 8 Tryz.underlying49 s_info3 rfl k _ rfl (RK.out _) _ rfl 1 [_] (src_of_one wr _ rfl _ _ _ _ Tryz.underlying49 rfl) (by decide) (by simp [maxLen]; omega) (by omega) ?_; intro g' o' cap' w9 hr1 hk1 hg1)
          | fail)
        have F1 : RowN w9 3 1 [g'] (.slice (some ⟨g', o', none⟩) (k + 1) cap') (k + 1) (iv (R1.insF b (fl.take (k + 1))).2.2) := .inr ⟨g', o', cap', by simp, by simp, by rw [TS.out, insF_snoc, SF.out]; simpa [iv] using hr1⟩
        have F2 : ∀ x ∈ [g'], w2.heap.size ≤ x := fun x hx => by
          simp at hx
          subst hx
          rcases hg1 with h3 | h3
          · exact GP.out _ h3
          · have := KK.out.size; rw [size_alloc1] at h3; omega
        have F3 : Kept [rb] w2 w9 := (KK.out.trans (Kept.alloc _ _) (by simp)).trans hk1 (fun x hx => .inr (GP.out x hx))
        have F4 : RdAt w9 rb (R1.insF b (fl.take (k + 1))).1 := by
          rw [TS.out, insF_snoc, SF.out]
          exact (RA.out.below ((Below.refl _ _).alloc (Nat.le_refl _) _)).kept hk1 (fun hm => by have := GP.out _ hm; have := RB2.out; omega)
        exact ⟨⟨k + 1, [g'], by omega, by go_num, by rw [TS.out, insF_snoc, SF.out], F1, F2, F4, F3⟩, by simp [intOf]; omega⟩
      | true =>
        have BY := Lib.hid (rbyte_any RA0.out)
        obtain ⟨qb, hqb⟩ : ∃ qb, Rk.byte = qb := ⟨_, rfl⟩
        have QB := Lib.hid hqb
        rw [hqb] at BY
        obtain ⟨R2, xb⟩ := qb
        dsimp only at BY
        clear hqb
        go_wp2_with fail
        refine BY.out.mono ?_
        rintro e w3 ⟨rfl, r1, r2⟩
        have KK := Lib.hid (KK0.out.trans r2 (by simp))
        have RA := Lib.hid r1
        have RK : Hid (∀ c, RowN (w3.alloc c) 3 1 gp _ k (iv outk)) := Lib.hid (fun c => (RH.out.kept r2 (fun x hx => by have := GP.out x hx; have := RB2.out; simp; omega)).kept (Kept.alloc w3 c) (by simp))
        clear r1 r2
        by_cases hxb : (xb : Int) = bk
        · have q9 : ((xb : Int) == bk) = true := by simpa using hxb
          have SF : Hid (stepF (R1.insF b (fl.take k)) true = (R2, -1, outk ++ [-1])) := Lib.hid (by rw [HST.out]; unfold stepF; simp only [if_true, QB.out, if_pos hxb])
          clear hxb
          go_wp2_with (first
            | (at_builtin; refine wpList_append_rown rfl _ _ 49 49 rfl 3 (.int .i64 0) 1 8 Tryz.underlying49 s_info3 rfl k _ rfl (RK.out _) _ rfl 1 [_] (src_of_one w3 _ rfl _ _ _ _ Tryz.underlying49 rfl) (by decide) (by simp [maxLen]; omega) (by omega) ?_; intro g' o' cap' w9 hr1 hk1 hg1)
            | fail)
          have F1 : RowN w9 3 1 [g'] (.slice (some ⟨g', o', none⟩) (k + 1) cap') (k + 1) (iv (R1.insF b (fl.take (k + 1))).2.2) := .inr ⟨g', o', cap', by simp, by simp, by rw [TS.out, insF_snoc, SF.out]; simpa [iv] using hr1⟩
          have F2 : ∀ x ∈ [g'], w2.heap.size ≤ x := fun x hx => by
            simp at hx
            subst hx
            rcases hg1 with h3 | h3
            · exact GP.out _ h3
            · have := KK.out.size; rw [size_alloc1] at h3; omega
          have F3 : Kept [rb] w2 w9 := (KK.out.trans (Kept.alloc _ _) (by simp)).trans hk1 (fun x hx => .inr (GP.out x hx))
          have F4 : RdAt w9 rb (R1.insF b (fl.take (k + 1))).1 := by
            rw [TS.out, insF_snoc, SF.out]
            exact (RA.out.below ((Below.refl _ _).alloc (Nat.le_refl _) _)).kept hk1 (fun hm => by have := GP.out _ hm; have := RB2.out; omega)
          exact ⟨⟨k + 1, [g'], by omega, by go_num, by rw [TS.out, insF_snoc, SF.out], F1, F2, F4, F3⟩, by simp [intOf]; omega⟩
        · have q9 : ((xb : Int) == bk) = false := by simpa using hxb
          have SF : Hid (stepF (R1.insF b (fl.take k)) true = (R2, (xb : Int), outk ++ [(xb : Int)])) := Lib.hid (by rw [HST.out]; unfold stepF; simp only [if_true, QB.out, if_neg hxb])
          clear hxb
          go_wp2_with (first
            | (at_builtin; refine wpList_append_rown rfl _ _ 49 49 rfl 3 (.int .i64 0) 1 8 Tryz.underlying49 s_info3 rfl k _ rfl (RK.out _) _ rfl 1 [_] (src_of_one w3 _ rfl _ _ _ _ Tryz.underlying49 rfl) (by decide) (by simp [maxLen]; omega) (by omega) ?_; intro g' o' cap' w9 hr1 hk1 hg1)
            | fail)
          have F1 : RowN w9 3 1 [g'] (.slice (some ⟨g', o', none⟩) (k + 1) cap') (k + 1) (iv (R1.insF b (fl.take (k + 1))).2.2) := .inr ⟨g', o', cap', by simp, by simp, by rw [TS.out, insF_snoc, SF.out]; simpa [iv] using hr1⟩
          have F2 : ∀ x ∈ [g'], w2.heap.size ≤ x := fun x hx => by
            simp at hx
            subst hx
            rcases hg1 with h3 | h3
            · exact GP.out _ h3
            · have := KK.out.size; rw [size_alloc1] at h3; omega
          have F3 : Kept [rb] w2 w9 := (KK.out.trans (Kept.alloc _ _) (by simp)).trans hk1 (fun x hx => .inr (GP.out x hx))
          have F4 : RdAt w9 rb (R1.insF b (fl.take (k + 1))).1 := by
            rw [TS.out, insF_snoc, SF.out]
            exact (RA.out.below ((Below.refl _ _).alloc (Nat.le_refl _) _)).kept hk1 (fun hm => by have := GP.out _ hm; have := RB2.out; omega)
          exact ⟨⟨k + 1, [g'], by omega, by go_num, by rw [TS.out, insF_snoc, SF.out], F1, F2, F4, F3⟩, by simp [intOf]; omega⟩
    · obtain rfl : k = len := by omega
      have htk : fl.take k = fl := List.take_of_length_le (by rw [LN.out]; exact Nat.le_refl _)
      rw [htk] at RH RA0
      have hol : (R1.insF b fl).2.2.length = k := by rw [insF_len, LN.out]
      have hkk : Kept [rb] w wr := ((Kept.of_below (fp := [rb]) AL.out).trans LL.out.2 (by simp)).trans KK0.out (by simp)
      have FIN : ∀ ov, RowN wr 3 1 gp ov k (iv (R1.insF b fl).2.2) → GotN w rb (R1.insF b fl).1 (R1.insF b fl).2.2 (.returned ov) wr := fun ov hrow => by
        have hw2 : w.heap.size ≤ w2.heap.size := by have h1 := LL.out.2.size; have h2 := SZ.out; omega
        rcases hrow with ⟨h1, h2, h3⟩ | ⟨g, o, cap, h1, h2, h3⟩
        · refine ⟨none, 0, by rw [h1, hol, h2], by rw [h3]; exact Cells.nil _ _, ⟨RA0.out, hkk⟩, fun b o h => by cases h⟩
        · exact ⟨_, cap, by rw [h1, hol], h3.cells, ⟨RA0.out, hkk⟩, fun b o h => by cases h; have := GP.out _ h2; omega⟩
      have FN := Lib.hid (FIN _ RH.out)
      clear FIN htk hol hkk
      go_wp2_with fail
      go_ret
      exact FN.out

end Go.Proofs.YtpidjmgapiekaaaGreatDoor
