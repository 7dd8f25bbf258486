/- This text proves ParcelShort over the loaded program: inputs that stay the same cost little. -/
import Derived.Test.YtgdbpicelnoacaaDoorAwake24
import Derived.Test.YtgdbpicelnoacaaDoorOpenPar
import Derived.Test.YtgdbpicelnoacaaDoorShortPlain
namespace Go.Proofs.YtgdbpicelnoacaaDoor
open Go.RowKit Go.WideShapes
set_option linter.unusedSimpArgs false

/-- What holds ahead of each round: both packets' blocks and rows. -/
def ShI (w2 : World) (P : Nat) (F b K : Int) (vs : List Int) (k : Nat) (wr : World) : Prop :=
  ∃ (gp gq : List Nat) (sp sq : Value), (wr.heap[P]? = some (.cells #[.int .i64 3, .int .i64 0, .int .i64 F, .int .i64 b, sp, .int .i64 K, .int .u64 0] 61 (0, 0)) ∧ wr.heap[P + 1]? = some (.cells #[.int .i64 3, .int .i64 0, .int .i64 F, .int .i64 b, sq, .int .i64 K, .int .u64 0] 61 (0, 0))) ∧
    (RowN wr 3 1 gp sp k (iv (vs.take k)) ∧ RowN wr 3 1 gq sq k (iv (List.replicate k b))) ∧ ((∀ x ∈ gp, w2.heap.size ≤ x ∧ x < wr.heap.size) ∧ (∀ x ∈ gq, w2.heap.size ≤ x ∧ x < wr.heap.size) ∧ ∀ x ∈ gp, x ∉ gq) ∧ Kept [P, P + 1] w2 wr ∧ P + 1 < w2.heap.size
theorem iv_snoc (l : List Int) (x : Int) : iv (l ++ [x]) = iv l ++ [.int .i64 x] := by simp [iv]
/-- Behind the first append. -/
theorem sh_mid {w2 wr w9 : World} {P : Nat} {gp : List Nat} {o : Obj} {cs cs' : Array Value} (hp : wr.heap[P]? = some (.cells cs 61 (0, 0))) (hq : wr.heap[P + 1]? = some (.cells cs' 61 (0, 0))) (hP : P + 1 < w2.heap.size) (hg : ∀ x ∈ gp, w2.heap.size ≤ x ∧ x < wr.heap.size) (hk : Kept gp (wr.alloc o) w9) : w9.heap[P]? = some (.cells cs 61 (0, 0)) ∧ w9.heap[P + 1]? = some (.cells cs' 61 (0, 0)) := by
  have f1 := (Array.getElem?_eq_some_iff.1 hp).1
  have f2 := (Array.getElem?_eq_some_iff.1 hq).1
  have e1 := (alloc_old wr o P f1).trans hp
  have e2 := (alloc_old wr o (P + 1) f2).trans hq
  exact ⟨(hk.block P (Array.getElem?_eq_some_iff.1 e1).1 (fun hm => by have := hg _ hm; omega)).trans e1, (hk.block (P + 1) (Array.getElem?_eq_some_iff.1 e2).1 (fun hm => by have := hg _ hm; omega)).trans e2⟩
theorem sh_next {w2 : World} {P : Nat} {F b K : Int} {vs : List Int} {k : Nat} {wr : World} {gp gq : List Nat} {sp sq : Value} (hp : wr.heap[P]? = some (.cells #[.int .i64 3, .int .i64 0, .int .i64 F, .int .i64 b, sp, .int .i64 K, .int .u64 0] 61 (0, 0))) (hq : wr.heap[P + 1]? = some (.cells #[.int .i64 3, .int .i64 0, .int .i64 F, .int .i64 b, sq, .int .i64 K, .int .u64 0] 61 (0, 0)))
    (hgp : ∀ x ∈ gp, w2.heap.size ≤ x ∧ x < wr.heap.size) (hgq : ∀ x ∈ gq, w2.heap.size ≤ x ∧ x < wr.heap.size) (hd : ∀ x ∈ gp, x ∉ gq) (hK : Kept [P, P + 1] w2 wr) (hP : P + 1 < w2.heap.size) {v : Int} (hv : vs[k]? = some v)
    {c1 c2 : Obj} {w9 w11 : World} {g1 o1 cap1 g2 o2 cap2 : Nat} (hr1 : RowAt w9 3 1 g1 o1 cap1 (k + 1) (iv (vs.take k) ++ [.int .i64 v])) (hk1 : Kept gp (wr.alloc c1) w9) (hg1 : g1 ∈ gp ∨ g1 = (wr.alloc c1).heap.size)
    (hr2 : RowAt w11 3 1 g2 o2 cap2 (k + 1) (iv (List.replicate k b) ++ [.int .i64 b])) (hk2 : Kept gq ((w9.setCell ⟨P, 4, none⟩ (.slice (some ⟨g1, o1, none⟩) (k + 1) cap1)).alloc c2) w11) (hg2 : g2 ∈ gq ∨ g2 = ((w9.setCell ⟨P, 4, none⟩ (.slice (some ⟨g1, o1, none⟩) (k + 1) cap1)).alloc c2).heap.size) :
    ShI w2 P F b K vs (k + 1) (w11.setCell ⟨P + 1, 4, none⟩ (.slice (some ⟨g2, o2, none⟩) (k + 1) cap2)) := by
  obtain ⟨hp9, hq9⟩ := sh_mid hp hq hP hgp hk1
  have s0 : wr.heap.size < (wr.alloc c1).heap.size := by rw [size_alloc1]; omega
  have s1 := hk1.size
  have sw := hK.size
  have l1 := hr1.lt
  have l2 := hr2.lt
  have s2 := hk2.size
  rw [size_alloc1, World.size_setCell] at s2
  rw [size_alloc1, World.size_setCell] at hg2
  rw [size_alloc1] at hg1
  have hp10 : (w9.setCell ⟨P, 4, none⟩ (.slice (some ⟨g1, o1, none⟩) (k + 1) cap1)).heap[P]? = some (.cells #[.int .i64 3, .int .i64 0, .int .i64 F, .int .i64 b, .slice (some ⟨g1, o1, none⟩) (k + 1) cap1, .int .i64 K, .int .u64 0] 61 (0, 0)) := (heap_setCell_of' hp9 4 _).trans rfl
  have hq10 := ((Kept.setCell w9 P 4 (.slice (some ⟨g1, o1, none⟩) (k + 1) cap1)).block (P + 1) (by omega) (by simp)).trans hq9
  obtain ⟨hp11, hq11⟩ := sh_mid (w2 := w2) hp10 hq10 hP (fun x hx => by have := hgq x hx; rw [World.size_setCell]; omega) hk2
  have n1 : g1 ∉ gq := fun hm => by
    rcases hg1 with h | h
    · exact hd _ h hm
    · have := hgq _ hm; omega
  have n2 : g1 ≠ g2 := by
    rcases hg2 with h | h
    · exact fun e => n1 (e ▸ h)
    · omega
  have w1b : w2.heap.size ≤ g1 := by
    rcases hg1 with h | h
    · exact (hgp _ h).1
    · omega
  have w2b : w2.heap.size ≤ g2 := by
    rcases hg2 with h | h
    · exact (hgq _ h).1
    · omega
  have hts : vs.take (k + 1) = vs.take k ++ [v] := by
    obtain ⟨hkl, he⟩ := List.getElem?_eq_some_iff.1 hv
    rw [List.take_succ_eq_append_getElem hkl, he]
  have kF := Kept.setCell w11 (P + 1) 4 (.slice (some ⟨g2, o2, none⟩) (k + 1) cap2)
  refine ⟨[g1], [g2], .slice (some ⟨g1, o1, none⟩) (k + 1) cap1, .slice (some ⟨g2, o2, none⟩) (k + 1) cap2, ⟨(kF.block P (Array.getElem?_eq_some_iff.1 hp11).1 (by simp)).trans hp11, (heap_setCell_of' hq11 4 _).trans rfl⟩, ⟨.inr ⟨g1, o1, cap1, rfl, by simp, ?_⟩, .inr ⟨g2, o2, cap2, rfl, by simp, ?_⟩⟩, ⟨?_, ?_, ?_⟩, ?_, hP⟩
  · rw [hts, iv_snoc]
    exact (((hr1.kept (Kept.setCell w9 P 4 _) (by simp; omega)).kept (Kept.alloc _ c2) (by simp)).kept hk2 n1).kept kF (by simp; omega)
  · rw [show List.replicate (k + 1) b = List.replicate k b ++ [b] by rw [List.replicate_succ'], iv_snoc]
    exact hr2.kept kF (by simp; omega)
  · intro x hx; simp at hx; subst hx; rw [World.size_setCell]; omega
  · intro x hx; simp at hx; subst hx; rw [World.size_setCell]; omega
  · intro x hx; simp at hx; subst hx; simp; exact n2
  · have k1 := (hK.trans (Kept.alloc wr c1) (by simp)).trans hk1 (fun x hx => .inr (hgp x hx).1)
    have k2 := (k1.trans (Kept.setCell w9 P 4 (.slice (some ⟨g1, o1, none⟩) (k + 1) cap1)) (fun x hx => .inl (by simp at hx; simp [hx]))).trans (Kept.alloc _ c2) (by simp)
    exact (k2.trans hk2 (fun x hx => .inr (hgq x hx).1)).trans kF (fun x hx => .inl (by simp at hx; simp [hx]))

set_option maxRecDepth 100000 in
set_option maxHeartbeats 12800000 in
theorem pshort_any (W : World) (A : Nat → Addr) (hA : Apart 5 W A) (from_ : Int) (_hf : (Lit.int .i64 from_).wf = true) (ack : Int) (_ha : (Lit.int .i64 ack).wf = true) (base : Int) (_hb : (Lit.int .i64 base).wf = true) (X : Option Addr) (l : List Int) (c : Nat) (hl : l.length ≤ maxLen) (hc : Cells W X (iv l)) : Calls Tryd.prog 11 #[.int .i64 from_, .int .i64 ack, .int .i64 base, .slice X l.length c] W fun e W' => e = .returned (.bool true) ∧ Below W.heap.size W W' := by
  have AW := Lib.hid (awake24_any A W hA)
  have AA := Lib.hid hA
  have CL := Lib.hid hc
  obtain ⟨len, hlen⟩ : ∃ len, l.length = len := ⟨_, rfl⟩
  have LN := Lib.hid hlen
  rw [hlen]
  simp only [maxLen] at hl
  rw [hlen] at hl
  clear hA hc hlen
  by_cases h0 : len = 0
  · subst h0
    clear hl
    go_enter Tryd.func11, Tryd.ntmps11
    go_wp2_with fail
    refine AW.out.mono ?_
    rintro e w1 ⟨rfl, hb1⟩
    have B1 := Lib.hid hb1
    clear hb1
    go_wp2_with fail
    go_ret
    exact ⟨rfl, B1.out⟩
  have q0 : ((len : Int) == 0) = false := by rw [beq_eq_false_iff_ne]; omega
  by_cases h1 : 32 < len
  · have q1 : (32 : Int) < (len : Int) := by omega
    clear hl h0 h1
    go_enter Tryd.func11, Tryd.ntmps11
    go_wp2_with fail
    refine AW.out.mono ?_
    rintro e w1 ⟨rfl, hb1⟩
    have B1 := Lib.hid hb1
    clear hb1
    go_wp2_with fail
    go_ret
    exact ⟨rfl, B1.out⟩
  have q1 : (len : Int) ≤ 32 := by omega
  have H0 := Lib.hid (And.intro h0 h1)
  clear hl h0 h1
  obtain ⟨f, hf, hf2⟩ := mod1000 from_
  obtain ⟨K0, hk, hk2⟩ := mod1000 ack
  have hb := val8_wrap base
  have hb2 := val8_in base
  obtain ⟨b, hbb⟩ : ∃ b, val8 base = b := ⟨_, rfl⟩
  rw [hbb] at hb hb2
  have f0 : (f : Int) < 1000 := by omega
  have k0 : (K0 : Int) < 1000 := by omega
  go_enter Tryd.func11, Tryd.ntmps11
  go_wp2_with fail
  refine AW.out.mono ?_
  rintro e w1 ⟨rfl, hb1⟩
  have B1 := Lib.hid hb1
  have A1 := Lib.hid (AA.out.below hb1)
  clear hb1
  go_wp2_with fail
  obtain ⟨F, hF⟩ : ∃ F : Int, 1 + (f : Int) = F := ⟨_, rfl⟩
  obtain ⟨K, hK0⟩ : ∃ K : Int, (K0 : Int) = K := ⟨_, rfl⟩
  rw [hF, hK0]
  have FK := Lib.hid (show (1 ≤ F ∧ F ≤ 1000) ∧ (0 ≤ K ∧ K ≤ 1000) ∧ (0 ≤ b ∧ b ≤ 255) from ⟨by omega, by omega, hb2⟩)
  have S0 : ∃ w2, (w1.alloc (.cells #[.int .i64 3, .int .i64 0, .int .i64 F, .int .i64 b, .slice none 0 0, .int .i64 K, .int .u64 0] 61)).alloc (.cells #[.int .i64 3, .int .i64 0, .int .i64 F, .int .i64 b, .slice none 0 0, .int .i64 K, .int .u64 0] 61) = w2 := ⟨_, rfl⟩
  obtain ⟨w2, hw2⟩ := S0
  obtain ⟨P, hP⟩ : ∃ P, w1.heap.size = P := ⟨_, rfl⟩
  have bq := heap_alloc_new (w1.alloc (.cells #[.int .i64 3, .int .i64 0, .int .i64 F, .int .i64 b, .slice none 0 0, .int .i64 K, .int .u64 0] 61)) (.cells #[.int .i64 3, .int .i64 0, .int .i64 F, .int .i64 b, .slice none 0 0, .int .i64 K, .int .u64 0] 61)
  have bp := (alloc_old (w1.alloc (.cells #[.int .i64 3, .int .i64 0, .int .i64 F, .int .i64 b, .slice none 0 0, .int .i64 K, .int .u64 0] 61)) (.cells #[.int .i64 3, .int .i64 0, .int .i64 F, .int .i64 b, .slice none 0 0, .int .i64 K, .int .u64 0] 61) w1.heap.size (by rw [size_alloc1]; omega)).trans (heap_alloc_new w1 _)
  have bt := below_two w1 (.cells #[.int .i64 3, .int .i64 0, .int .i64 F, .int .i64 b, .slice none 0 0, .int .i64 K, .int .u64 0] 61) (.cells #[.int .i64 3, .int .i64 0, .int .i64 F, .int .i64 b, .slice none 0 0, .int .i64 K, .int .u64 0] 61)
  rw [size_alloc1] at bq
  rw [hw2] at bq bp bt ⊢
  have B2 := Lib.hid (B1.out.trans (bt.mono B1.out.size))
  have WP : Hid (W.heap.size ≤ P) := Lib.hid (by rw [← hP]; exact B1.out.size)
  rw [hP] at bq bp ⊢
  have P2 : P + 1 < w2.heap.size := (Array.getElem?_eq_some_iff.1 bq).1
  obtain ⟨vs, hvs⟩ : ∃ vs, l.map val8 = vs := ⟨_, rfl⟩
  have VS : Hid (vs.length = len ∧ (∀ (i : Nat) (x : Int), l[i]? = some x → vs[i]? = some (val8 x)) ∧ ∀ x ∈ vs, 0 ≤ x ∧ x ≤ 255) := Lib.hid ⟨by rw [← hvs, List.length_map, LN.out], fun i x h => by rw [← hvs, List.getElem?_map, h]; rfl, fun x hx => by
    rw [← hvs] at hx
    obtain ⟨y, _, rfl⟩ := List.mem_map.1 hx
    exact val8_in y⟩
  have SI : ShI w2 P F b K vs 0 w2 := ⟨[], [], .slice none 0 0, .slice none 0 0, ⟨bp, bq⟩, ⟨.inl ⟨rfl, rfl, by simp [iv]⟩, .inl ⟨rfl, rfl, by simp [iv]⟩⟩, ⟨by simp, by simp, by simp⟩, Kept.refl _ _, P2⟩
  have PH := Lib.hid P2
  clear hf hk hb hb2 f0 k0 hF hK0 hw2 hP bq bp bt hvs hbb hf2 hk2 P2
  go_loopw [11, 12, 13] (fun lv tv kv wr => ∃ k : Nat, k ≤ len ∧ kv = .int .i64 k ∧ lv = .int .i64 (lastL b vs k) ∧ tv = .int .i64 ((insL b (vs.take k)).length : Nat) ∧ ShI w2 P F b K vs k wr) (fun _ _ kv _ => len - (intOf kv).toNat)
  case atStart => exact ⟨0, Nat.zero_le _, rfl, by simp [lastL], by simp [insL], SI⟩
  case round =>
    clear SI
    obtain ⟨k, hk, rfl, rfl, rfl, hS⟩ := hrel
    have SH := Lib.hid hS
    obtain ⟨gp, gq, sp, sq, ⟨hp, hq⟩, ⟨rp, rq⟩, ⟨gp2, gq2, gd⟩, hK, -⟩ := hS
    obtain ⟨⟨p0, fp0⟩, ⟨p1, fp1⟩, ⟨p2, fp2⟩, ⟨p3, fp3⟩, ⟨p4, fp4⟩, ⟨p5, fp5⟩, ⟨p6, fp6⟩⟩ := cells7 hp
    obtain ⟨⟨r0, fr0⟩, ⟨r1, fr1⟩, ⟨r2, fr2⟩, ⟨r3, fr3⟩, ⟨r4, fr4⟩, ⟨r5, fr5⟩, ⟨r6, fr6⟩⟩ := cells7 hq
    by_cases hlt : k < len
    · obtain ⟨x, hx⟩ : ∃ x, l[k]? = some x := ⟨l[k]'(by rw [LN.out]; exact hlt), by simp [show k < l.length by rw [LN.out]; exact hlt]⟩
      obtain ⟨xb, xo, hX, hc⟩ := CL.out k (.int .i64 x) (by simp [iv, hx])
      have hcx : wr.cell? ⟨xb, xo + k, none⟩ = some (.int .i64 x) := by
        have h1 : xb < W.heap.size := World.block_lt_of_cell? W _ hc
        have h2 := (B2.out.cell (p := ⟨xb, xo + k, none⟩) h1).trans hc
        have hW := WP.out
        exact hK.cell h2 (by simp; omega)
      subst hX
      have hv := val8_wrap x
      have VK := Lib.hid (VS.out.2.1 k x hx)
      obtain ⟨v, hvv⟩ : ∃ v, val8 x = v := ⟨_, rfl⟩
      rw [hvv] at hv VK
      have i0 : (0 : Int) ≤ (k : Int) := by omega
      have i1 : (k : Int) < (len : Int) := by omega
      have RK1 : Hid (∀ c, RowN (wr.alloc c) 3 1 gp sp k (iv (vs.take k))) := Lib.hid (fun c => rp.kept (Kept.alloc wr c) (by simp))
      have MID := Lib.hid (fun w9 o (h : Kept gp (wr.alloc o) w9) => sh_mid hp hq PH.out gp2 h)
      have RK2 : Hid (∀ (o : Obj) w9 z c, Kept gp (wr.alloc o) w9 → RowN ((w9.setCell ⟨P, 4, none⟩ z).alloc c) 3 1 gq sq k (iv (List.replicate k b))) := Lib.hid (fun o w9 z c h => (((rq.kept (Kept.alloc wr o) (by simp)).kept h (fun y hy hm => gd y hm hy)).kept (Kept.setCell w9 P 4 z) (fun y hy => by have := gq2 y hy; have := PH.out; simp; omega)).kept (Kept.alloc _ c) (by simp))
      have MID2 : Hid (∀ (o : Obj) w9 z o2 w11, Kept gp (wr.alloc o) w9 → Kept gq ((w9.setCell ⟨P, 4, none⟩ z).alloc o2) w11 → w11.heap[P + 1]? = some (.cells #[.int .i64 3, .int .i64 0, .int .i64 F, .int .i64 b, sq, .int .i64 K, .int .u64 0] 61 (0, 0))) := Lib.hid (fun o w9 z o2 w11 h h2 => by
        obtain ⟨hp9, hq9⟩ := sh_mid hp hq PH.out gp2 h
        have s1 := h.size
        rw [size_alloc1] at s1
        exact (sh_mid (w2 := w2) ((heap_setCell_of' hp9 4 z).trans rfl) (((Kept.setCell w9 P 4 z).block (P + 1) (Array.getElem?_eq_some_iff.1 hq9).1 (by simp)).trans hq9) PH.out (fun y hy => by have := gq2 y hy; rw [World.size_setCell]; omega) h2).2)
      have NXT := Lib.hid (fun c1 c2 w9 w11 g1 o1 cap1 g2 o2 cap2 (hr1 : RowAt w9 3 1 g1 o1 cap1 (k + 1) (iv (vs.take k) ++ [.int .i64 v])) (hk1 : Kept gp (wr.alloc c1) w9) (hg1 : g1 ∈ gp ∨ g1 = (wr.alloc c1).heap.size) (hr2 : RowAt w11 3 1 g2 o2 cap2 (k + 1) (iv (List.replicate k b) ++ [.int .i64 b])) (hk2 : Kept gq ((w9.setCell ⟨P, 4, none⟩ (.slice (some ⟨g1, o1, none⟩) (k + 1) cap1)).alloc c2) w11) (hg2 : g2 ∈ gq ∨ g2 = ((w9.setCell ⟨P, 4, none⟩ (.slice (some ⟨g1, o1, none⟩) (k + 1) cap1)).alloc c2).heap.size) => sh_next hp hq gp2 gq2 gd hK PH.out VK.out hr1 hk1 hg1 hr2 hk2 hg2)
      have LT : Hid ((insL b (vs.take (k + 1))).length = (insL b (vs.take k)).length + (if v != lastL b vs k then 1 else 0) ∧ lastL b vs (k + 1) = v) := Lib.hid (by
        have hts : vs.take (k + 1) = vs.take k ++ [v] := by
          obtain ⟨hkl, he⟩ := List.getElem?_eq_some_iff.1 VK.out
          rw [List.take_succ_eq_append_getElem hkl, he]
        refine ⟨?_, by unfold lastL; rw [hts, lastL_snoc]⟩
        rw [hts, insL_snoc, List.length_append]
        unfold lastL
        split <;> rfl)
      have TB : ((insL b (vs.take k)).length : Int) ≤ 32 := by
        have := insL_len (vs.take k) b
        rw [List.length_take] at this
        omega
      obtain ⟨tn, htn⟩ : ∃ tn : Nat, (insL b (vs.take k)).length = tn := ⟨_, rfl⟩
      obtain ⟨lv, hlv⟩ : ∃ lv : Int, lastL b vs k = lv := ⟨_, rfl⟩
      rw [htn, hlv] at LT
      rw [htn] at TB
      rw [htn, hlv]
      clear hc hx hvv htn hlv hp hq rp rq gp2 gq2 gd hK SH
      by_cases hn : (v != lv) = true
      · rw [if_pos hn] at LT
        go_wp2_with (first
          | (at_builtin; refine wpList_append_rown rfl _ _ 58 58 rfl 3 (.int .i64 0) 1 8 Tryd.underlying58 info3 rfl k _ rfl (RK1.out _) _ rfl 1 [_] (src_of_one wr _ rfl _ _ _ _ Tryd.underlying58 rfl) (by decide) (by simp [maxLen]; omega) (by omega) ?_; intro g1 o1 cap1 w9 hr1 hk1 hg1; obtain ⟨hp9, hq9⟩ := MID.out _ _ hk1; obtain ⟨⟨u0, fu0⟩, ⟨u1, fu1⟩, ⟨u2, fu2⟩, ⟨u3, fu3⟩, ⟨u4, fu4⟩, ⟨u5, fu5⟩, ⟨u6, fu6⟩⟩ := cells7 hp9; obtain ⟨⟨v0, fv0⟩, ⟨v1, fv1⟩, ⟨v2, fv2⟩, ⟨v3, fv3⟩, ⟨v4, fv4⟩, ⟨v5, fv5⟩, ⟨v6, fv6⟩⟩ := cells7 hq9)
          | (at_builtin; refine wpList_append_rown rfl _ _ 58 58 rfl 3 (.int .i64 0) 1 8 Tryd.underlying58 info3 rfl k _ rfl (RK2.out _ _ (.slice (some ⟨g1, o1, none⟩) (k + 1) cap1) _ hk1) _ rfl 1 [_] (src_of_one (w9.setCell ⟨P, 4, none⟩ (.slice (some ⟨g1, o1, none⟩) (k + 1) cap1)) w9.heap.size (World.size_setCell ..).symm _ _ _ _ Tryd.underlying58 rfl) (by decide) (by simp [maxLen]; omega) (by omega) ?_; intro g2 o2 cap2 w11 hr2 hk2 hg2; have hq11 := MID2.out _ _ _ _ _ hk1 hk2; obtain ⟨⟨x0, fx0⟩, ⟨x1, fx1⟩, ⟨x2, fx2⟩, ⟨x3, fx3⟩, ⟨x4, fx4⟩, ⟨x5, fx5⟩, ⟨x6, fx6⟩⟩ := cells7 hq11)
          | fail)
        exact ⟨⟨k + 1, by omega, by go_num, by rw [LT.out.2], by rw [LT.out.1]; go_num, NXT.out _ _ _ _ _ _ _ _ _ _ hr1 hk1 hg1 hr2 hk2 hg2⟩, by simp [intOf]; omega⟩
      · have hn2 : (v != lv) = false := by simpa using hn
        rw [if_neg hn] at LT
        clear hn
        go_wp2_with (first
          | (at_builtin; refine wpList_append_rown rfl _ _ 58 58 rfl 3 (.int .i64 0) 1 8 Tryd.underlying58 info3 rfl k _ rfl (RK1.out _) _ rfl 1 [_] (src_of_one wr _ rfl _ _ _ _ Tryd.underlying58 rfl) (by decide) (by simp [maxLen]; omega) (by omega) ?_; intro g1 o1 cap1 w9 hr1 hk1 hg1; obtain ⟨hp9, hq9⟩ := MID.out _ _ hk1; obtain ⟨⟨u0, fu0⟩, ⟨u1, fu1⟩, ⟨u2, fu2⟩, ⟨u3, fu3⟩, ⟨u4, fu4⟩, ⟨u5, fu5⟩, ⟨u6, fu6⟩⟩ := cells7 hp9; obtain ⟨⟨v0, fv0⟩, ⟨v1, fv1⟩, ⟨v2, fv2⟩, ⟨v3, fv3⟩, ⟨v4, fv4⟩, ⟨v5, fv5⟩, ⟨v6, fv6⟩⟩ := cells7 hq9)
          | (at_builtin; refine wpList_append_rown rfl _ _ 58 58 rfl 3 (.int .i64 0) 1 8 Tryd.underlying58 info3 rfl k _ rfl (RK2.out _ _ (.slice (some ⟨g1, o1, none⟩) (k + 1) cap1) _ hk1) _ rfl 1 [_] (src_of_one (w9.setCell ⟨P, 4, none⟩ (.slice (some ⟨g1, o1, none⟩) (k + 1) cap1)) w9.heap.size (World.size_setCell ..).symm _ _ _ _ Tryd.underlying58 rfl) (by decide) (by simp [maxLen]; omega) (by omega) ?_; intro g2 o2 cap2 w11 hr2 hk2 hg2; have hq11 := MID2.out _ _ _ _ _ hk1 hk2; obtain ⟨⟨x0, fx0⟩, ⟨x1, fx1⟩, ⟨x2, fx2⟩, ⟨x3, fx3⟩, ⟨x4, fx4⟩, ⟨x5, fx5⟩, ⟨x6, fx6⟩⟩ := cells7 hq11)
          | fail)
        exact ⟨⟨k + 1, by omega, by go_num, by rw [LT.out.2], by rw [LT.out.1]; go_num, NXT.out _ _ _ _ _ _ _ _ _ _ hr1 hk1 hg1 hr2 hk2 hg2⟩, by simp [intOf]; omega⟩
    · obtain rfl : k = len := by omega
      have htk : vs.take k = vs := List.take_of_length_le (by rw [VS.out.1]; exact Nat.le_refl _)
      rw [htk] at rp ⊢
      obtain ⟨SA, ca, rfl, -, -, cp⟩ := rp.slice
      obtain ⟨SB, cb, rfl, -, -, cq⟩ := rq.slice
      have BW := Lib.hid (show Below W.heap.size W wr from below_kept B2.out hK (by have := WP.out; simp; omega) (Nat.le_refl _))
      have h32 : 1 ≤ vs.length ∧ vs.length ≤ 32 := by have := H0.out; rw [VS.out.1]; omega
      obtain ⟨⟨F0, F1⟩, ⟨K0, K1⟩, ⟨b0, b1⟩⟩ := FK.out
      have i64 : ∀ x : Int, 0 ≤ x → x ≤ 1000 → In64 x := fun x h1 h2 => ⟨by omega, by omega⟩
      have gp1 := short_good F b K vs SA ca ⟨F0, F1⟩ ⟨K0, K1⟩ ⟨b0, b1⟩ h32 VS.out.2.2
      have gq1 := short_good F b K (List.replicate k b) SB cb ⟨F0, F1⟩ ⟨K0, K1⟩ ⟨b0, b1⟩ (by rw [List.length_replicate, ← VS.out.1]; exact h32) (fun x hx => by rw [List.eq_of_mem_replicate hx]; exact ⟨b0, b1⟩)
      have okp : (⟨3, 0, F, b, vs, K, 0, SA, ca⟩ : Par).ok wr := ⟨i64 3 (by decide) (by decide), i64 0 (by decide) (by decide), i64 F (by omega) (by omega), i64 b b0 (by omega), i64 K K0 K1, (by dsimp only; decide), by show vs.length ≤ 1000000; omega, fun x hx => by have := VS.out.2.2 x hx; exact i64 x (by omega) (by omega), cp⟩
      have okq : (⟨3, 0, F, b, List.replicate k b, K, 0, SB, cb⟩ : Par).ok wr := ⟨i64 3 (by decide) (by decide), i64 0 (by decide) (by decide), i64 F (by omega) (by omega), i64 b b0 (by omega), i64 K K0 K1, (by dsimp only; decide), by show (List.replicate k b).length ≤ 1000000; rw [List.length_replicate, ← VS.out.1]; omega, fun x hx => by rw [List.eq_of_mem_replicate hx]; exact i64 b b0 (by omega), cq⟩
      have AZ := Lib.hid (fun w' (h : Below wr.heap.size wr w') => (AA.out.below (BW.out.trans (h.mono BW.out.size))).glob (n := 5) (by decide))
      have EP := Lib.hid (enc_good A _ wr okp (AZ.out _ (Below.refl _ _)) gp1)
      have EQ := Lib.hid (fun w' (h : Below wr.heap.size wr w') => enc_good A _ w' (okq.below h) (AZ.out _ h) gq1)
      have hlen := short_len F b K vs SA SB ca cb
      rw [VS.out.1] at hlen
      have hlq := encP_short gq1
      unfold Par.v at EP EQ
      dsimp only at EP EQ
      rw [VS.out.1] at EP
      rw [List.length_replicate] at EQ
      obtain ⟨tn, htn⟩ : ∃ tn : Nat, (insL b vs).length = tn := ⟨_, rfl⟩
      have htn2 : tn ≤ 32 := by rw [← htn]; have := insL_len vs b; omega
      rw [htn] at hlen ⊢
      obtain ⟨Sp, hSp⟩ : ∃ Sp, strB (encP ⟨3, 0, F, b, vs, K, 0, SA, ca⟩) = Sp := ⟨_, rfl⟩
      obtain ⟨Sq, hSq⟩ : ∃ Sq, strB (encP ⟨3, 0, F, b, List.replicate k b, K, 0, SB, cb⟩) = Sq := ⟨_, rfl⟩
      have z1 : Sp.size = Sq.size + tn := by rw [← hSp, ← hSq, strB_size, strB_size]; exact hlen
      have z2 : Sq.size ≤ 104 := by rw [← hSq, strB_size]; exact hlq
      rw [hSp] at EP
      rw [hSq] at EQ
      have qz : ((Sp.size : Int) == (Sq.size : Int) + (tn : Int)) = true := by rw [beq_iff_eq]; omega
      have z3 : (Sq.size : Int) ≤ 104 := by omega
      have z4 : (tn : Int) ≤ 32 := by omega
      have HQ := Lib.hid hq
      clear hp hq rp rq gp2 gq2 gd hK SH htk cp cq h32 gp1 gq1 okp okq hlen hlq htn htn2 hSp hSq z1 z2 i64 F0 F1 K0 K1 b0 b1
      clear r0 fr0 r1 fr1 r2 fr2 r3 fr3 r4 fr4 r5 fr5 r6 fr6
      go_wp2_with fail
      refine EP.out.mono ?_
      rintro e wa ⟨rfl, hba⟩
      obtain ⟨⟨r0, -⟩, ⟨r1, -⟩, ⟨r2, -⟩, ⟨r3, -⟩, ⟨r4, -⟩, ⟨r5, -⟩, ⟨r6, -⟩⟩ := cells7 ((hba.block _ (Array.getElem?_eq_some_iff.1 HQ.out).1).trans HQ.out)
      have BA := Lib.hid hba
      clear p0 fp0 p1 fp1 p2 fp2 p3 fp3 p4 fp4 p5 fp5 p6 fp6 hba
      go_wp2_with fail
      refine (EQ.out _ BA.out).mono ?_
      rintro e wb ⟨rfl, hbb⟩
      have BB := Lib.hid (BW.out.trans ((BA.out.trans (hbb.mono BA.out.size)).mono BW.out.size))
      clear hbb
      go_wp2_with fail
      go_ret
      exact ⟨rfl, BB.out⟩

end Go.Proofs.YtgdbpicelnoacaaDoor
