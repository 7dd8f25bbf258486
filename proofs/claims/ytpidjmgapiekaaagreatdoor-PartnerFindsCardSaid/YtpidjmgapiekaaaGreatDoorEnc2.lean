/- This text proves what a packet's fields are written as, over the loaded program. -/
import Derived.Test.YtpidjmgapiekaaaGreatDoorEnc1
namespace Go.Proofs.YtpidjmgapiekaaaGreatDoor
open Go.RowKit Go.WideShapes
theorem gl_lt {j : Nat} (h : j < 4) : gl j < 5 := by
  have : j = 0 ∨ j = 1 ∨ j = 2 ∨ j = 3 := by omega
  rcases this with rfl | rfl | rfl | rfl <;> decide
theorem Cells.kept {w w' : World} {fp : List Nat} {A : Option Addr} {cs : List Value} (h : Cells w A cs) (hk : Kept fp w w') (hA : ∀ b o, A = some ⟨b, o, none⟩ → b ∉ fp) : Cells w' A cs := fun i v hi => by
  obtain ⟨b, o, hb, hc⟩ := h i v hi
  exact ⟨b, o, hb, hk.cell hc (hA _ _ hb)⟩
set_option linter.unusedSimpArgs false

/-- One call on a writer more. -/
theorem WLeft.step {A : Nat → Addr} {w1 wi : World} {wb : Nat} {gp : List Nat} {Wi Wj : Wri} {f : FuncId} {args : Array Value} (h : WLeft A w1 wb gp Wi wi) (hc : ∀ g, WAt A wi wb g Wi → Calls Tryz.prog f args wi (WDone A wi wb g Wj)) :
    Calls Tryz.prog f args wi fun e w' => e = .returned (.tuple #[]) ∧ WLeft A w1 wb gp Wj w' := by
  obtain ⟨gi, h1, h2, h3⟩ := h
  refine (hc gi h1).mono ?_
  rintro e w' ⟨rfl, gj, k1, k2, k3⟩
  refine ⟨rfl, gj, k1, h2.trans k2 (fun x hx => ?_), fun x hx => ?_⟩
  · rcases List.mem_cons.1 hx with rfl | hx
    · exact .inl (by simp)
    · rcases h3 x hx with h | h
      · exact .inl (by simp [h])
      · exact .inr h
  · rcases k3 x hx with h | h
    · exact h3 x h
    · exact .inr (Nat.le_trans h2.size h)
theorem WLeft.below {A : Nat → Addr} {w1 wi wj : World} {wb : Nat} {gp : List Nat} {W : Wri} (h : WLeft A w1 wb gp W wi) (hb : Below wi.heap.size wi wj) : WLeft A w1 wb gp W wj := by
  obtain ⟨gi, h1, h2, h3⟩ := h
  exact ⟨gi, h1.below hb, h2.trans (Kept.of_below (fp := []) hb) (by simp), h3⟩
/-- A block that a function has boxed stays as it is. -/
theorem WLeft.box {A : Nat → Addr} {w1 wi : World} {wb : Nat} {gp : List Nat} {W : Wri} {b : Nat} {o : Obj} (h : WLeft A w1 wb gp W wi) (hb : w1.heap[b]? = some o) (hn : b ∉ wb :: gp) : wi.heap[b]? = some o := by
  obtain ⟨gi, h1, h2, h3⟩ := h
  exact (h2.block b (Array.getElem?_eq_some_iff.1 hb).1 hn).trans hb
theorem WLeft.glob {A : Nat → Addr} {w1 wi : World} {wb : Nat} {gp : List Nat} {W : Wri} (h : WLeft A w1 wb gp W wi) (hG : s_Glob w1 A) (hn : ∀ j, j < 5 → j ∉ wb :: gp) : s_Glob wi A := fun j hj => by
  obtain ⟨gi, h1, h2, h3⟩ := h
  exact h2.cell (hG j hj) (hn (gl j) (gl_lt hj))
theorem WLeft.cells {A : Nat → Addr} {w1 wi : World} {wb : Nat} {gp : List Nat} {W : Wri} {X : Option Addr} {cs : List Value} (h : WLeft A w1 wb gp W wi) (hC : Cells w1 X cs) (hX : ∀ b o, X = some ⟨b, o, none⟩ → b ∉ wb :: gp) : Cells wi X cs := by
  obtain ⟨gi, h1, h2, h3⟩ := h
  exact hC.kept h2 hX
theorem WLeft.start {A : Nat → Addr} {w : World} {wb : Nat} {gp : List Nat} {W : Wri} (h : WAt A w wb gp W) : WLeft A w wb gp W w := WLeft.same h (Below.refl _ _)

/-- The inputs that are others. -/
def Wri.ins : Wri → Int → List Int → Wri
  | W, _, [] => W
  | W, b, x :: r => (if x != b then W.byte x else W).ins x r
def Wri.page (W : Wri) (p : Par) : Wri :=
  if p.kind = 1 ∨ p.kind = 2 then W.count p.nonce else
  if p.kind = 3 then (((((W.count p.frm).count p.ack).byte p.base).count p.ins.length).put (flagsL (turnsL p.base p.ins))).ins p.base p.ins else
  if p.kind = 4 then (W.count p.frm).put (groupsL (zig (IntKind.i64.wrap p.sum))) else
  if p.kind = 5 then W.count p.ack else
  if p.kind = 6 then W.count p.frm else W
theorem ins_take : ∀ (l : List Int) (W : Wri) (b : Int) (k : Nat) (x : Int), l[k]? = some x → W.ins b (l.take (k + 1)) = (if x != aheadL b l k then (W.ins b (l.take k)).byte x else W.ins b (l.take k))
  | [], _, _, k, x, h => by simp at h
  | y :: r, W, b, 0, x, h => by
    simp at h
    subst h
    simp [Wri.ins, aheadL]
  | y :: r, W, b, k + 1, x, h => by
    rw [List.getElem?_cons_succ] at h
    rw [List.take_succ_cons, List.take_succ_cons, Wri.ins, Wri.ins]
    rw [ins_take r _ y k x h]
    have e : aheadL b (y :: r) (k + 1) = aheadL y r k := by
      unfold aheadL
      cases k with
      | zero => simp
      | succ k => simp
    rw [e]

theorem WLeft.join {A : Nat → Addr} {w1 w4 w5 wf : World} {wb : Nat} {gp g4 : List Nat} {Wf : Wri} (h2 : Kept (wb :: gp) w1 w4) (h3 : ∀ x ∈ g4, x ∈ gp ∨ w1.heap.size ≤ x) (hb : Below w4.heap.size w4 w5) (h : WLeft A w5 wb g4 Wf wf) : WLeft A w1 wb gp Wf wf := by
  obtain ⟨gf, k1, k2, k3⟩ := h
  have h25 : Kept (wb :: gp) w1 w5 := h2.trans (Kept.of_below (fp := []) hb) (by simp)
  refine ⟨gf, k1, h25.trans k2 (fun x hx => ?_), fun x hx => ?_⟩
  · rcases List.mem_cons.1 hx with rfl | hx
    · exact .inl (by simp)
    · rcases h3 x hx with h | h
      · exact .inl (by simp [h])
      · exact .inr h
  · rcases k3 x hx with h | h
    · exact h3 x h
    · exact .inr (Nat.le_trans h25.size h)

/-- The packet's writer keeps its bound. -/
def POk (W : Wri) : Prop := W.most = 508 ∧ W.out.length ≤ 508
theorem POk.ok {W : Wri} (h : POk W) : W.ok := ⟨by rw [h.1]; decide, by rw [h.1]; decide, by have := h.2; omega⟩
theorem POk.put {W : Wri} (h : POk W) (bs : List UInt8) : POk (W.put bs) := by
  obtain ⟨h1, h2⟩ := h
  unfold Wri.put
  split
  · split
    · exact ⟨h1, by simp⟩
    · refine ⟨h1, ?_⟩
      rw [List.length_append]
      omega
  · exact ⟨h1, h2⟩
theorem POk.refuse {W : Wri} (h : POk W) : POk W.refuse := by
  unfold Wri.refuse
  split
  · exact ⟨h.1, by simp⟩
  · exact h
theorem POk.byte {W : Wri} (h : POk W) (n : Int) : POk (W.byte n) := by
  unfold Wri.byte; split
  · exact h.refuse
  · exact h.put _
theorem POk.count {W : Wri} (h : POk W) (n : Int) : POk (W.count n) := by
  unfold Wri.count; split
  · exact h.refuse
  · exact h.put _
theorem POk.ins : ∀ (l : List Int) {W : Wri} (b : Int), POk W → POk (W.ins b l)
  | [], _, _, h => h
  | x :: r, W, b, h => by
    unfold Wri.ins
    apply POk.ins r
    split
    · exact h.byte x
    · exact h

set_option maxRecDepth 100000 in
set_option maxHeartbeats 6400000 in
theorem inputs_any {A : Nat → Addr} {w : World} {wb : Nat} {gp : List Nat} {W : Wri} (h : WAt A w wb gp W) (hok : POk W) (hG : s_Glob w A) (hn : ∀ j, j < 5 → j ∉ wb :: gp) (p : Par) (hp : p.ok w) (hl : p.ins.length ≤ 100) (hX : ∀ b o, p.X = some ⟨b, o, none⟩ → b ∉ wb :: gp) :
    Calls Tryz.prog 126 #[.agg #[.pointer (some ⟨wb, 0, none⟩)], p.v] w (WDone A w wb gp ((((((W.count p.frm).count p.ack).byte p.base).count p.ins.length).put (flagsL (turnsL p.base p.ins))).ins p.base p.ins)) := by
  obtain ⟨kind, nonce, frm, base, ins, ack, sum, X, c⟩ := p
  obtain ⟨_, _, o3, o4, o5, _, _, o8, o9⟩ := hp
  unfold Par.v
  dsimp only at hl o3 o4 o5 o8 o9 hX ⊢
  have hb1 := below_two w (.cells #[.pointer (some ⟨wb, 0, none⟩)] 125) (.cells #[.int .i64 kind, .int .i64 nonce, .int .i64 frm, .int .i64 base, .slice X ins.length c, .int .i64 ack, .int .u64 sum] 57)
  have a1 := heap_alloc_new (w.alloc (.cells #[.pointer (some ⟨wb, 0, none⟩)] 125)) (.cells #[.int .i64 kind, .int .i64 nonce, .int .i64 frm, .int .i64 base, .slice X ins.length c, .int .i64 ack, .int .u64 sum] 57)
  have a0 := (alloc_old (w.alloc (.cells #[.pointer (some ⟨wb, 0, none⟩)] 125)) (.cells #[.int .i64 kind, .int .i64 nonce, .int .i64 frm, .int .i64 base, .slice X ins.length c, .int .i64 ack, .int .u64 sum] 57) w.heap.size (by rw [size_alloc1]; omega)).trans (heap_alloc_new w _)
  rw [size_alloc1] at a1
  obtain ⟨len, hlen⟩ : ∃ len, ins.length = len := ⟨_, rfl⟩
  rw [hlen] at hl hb1 a1 a0 ⊢
  have LN := Lib.hid hlen
  obtain ⟨w1, hw1⟩ : ∃ w1, ((w.alloc (.cells #[.pointer (some ⟨wb, 0, none⟩)] 125)).alloc (.cells #[.int .i64 kind, .int .i64 nonce, .int .i64 frm, .int .i64 base, .slice X len c, .int .i64 ack, .int .u64 sum] 57)) = w1 := ⟨_, rfl⟩
  rw [hw1] at hb1 a1 a0
  have hs1 : w1.heap.size = w.heap.size + 2 := by rw [← hw1, size_alloc1, size_alloc1]
  have E1 := Lib.hid hw1
  have HB := Lib.hid hb1
  have BX := Lib.hid (And.intro a0 a1)
  have HS1 := Lib.hid hs1
  have NN : Hid (w.heap.size ∉ wb :: gp ∧ w.heap.size + 1 ∉ wb :: gp) := Lib.hid ⟨fun hm => by
      rcases List.mem_cons.1 hm with e | hm
      · have := h.lt; omega
      · have := h.2.1 _ hm; omega, fun hm => by
      rcases List.mem_cons.1 hm with e | hm
      · have := h.lt; omega
      · have := h.2.1 _ hm; omega⟩
  have HN := Lib.hid hn
  have XN := Lib.hid hX
  have G1 := Lib.hid (hG.below hb1)
  have L1 := Lib.hid (WLeft.start (h.below hb1))
  have OK := Lib.hid hok
  have CI := Lib.hid (o9.below hb1)
  have O3 := Lib.hid o3
  have O5 := Lib.hid o5
  clear h hok hG hn hX hb1 a0 a1 hlen hw1 hs1 o3 o4 o5 o8 o9
  go_enter Tryz.func126, Tryz.ntmps126
  go_wp2_with fail
  rw [E1.out]
  refine (L1.out.step (fun g hg => count_any hg OK.out.ok G1.out frm O3.out.2)).mono ?_
  rintro e w2 ⟨rfl, hl⟩
  have L2 := Lib.hid hl
  clear hl
  have x0 := L2.out.box BX.out.1 NN.out.1
  have x1 := L2.out.box BX.out.2 NN.out.2
  have p0 : w2.cell? ⟨w.heap.size, 0, none⟩ = some (.pointer (some ⟨wb, 0, none⟩)) := by simp only [World.cell?, x0]; rfl
  have q2 : w2.cell? ⟨w.heap.size + 1, 2, none⟩ = some (.int .i64 frm) := by simp only [World.cell?, x1]; rfl
  have q3 : w2.cell? ⟨w.heap.size + 1, 3, none⟩ = some (.int .i64 base) := by simp only [World.cell?, x1]; rfl
  have q4 : w2.cell? ⟨w.heap.size + 1, 4, none⟩ = some (.slice X len c) := by simp only [World.cell?, x1]; rfl
  have q5 : w2.cell? ⟨w.heap.size + 1, 5, none⟩ = some (.int .i64 ack) := by simp only [World.cell?, x1]; rfl
  clear x0 x1
  go_wp2_with fail
  refine (L2.out.step (fun g hg => count_any hg (OK.out.count _).ok (L2.out.glob G1.out HN.out) ack O5.out.2)).mono ?_
  rintro e w3 ⟨rfl, hl⟩
  have L3 := Lib.hid hl
  clear hl
  clear p0 q2 q3 q4 q5
  have x0 := L3.out.box BX.out.1 NN.out.1
  have x1 := L3.out.box BX.out.2 NN.out.2
  have p0 : w3.cell? ⟨w.heap.size, 0, none⟩ = some (.pointer (some ⟨wb, 0, none⟩)) := by simp only [World.cell?, x0]; rfl
  have q2 : w3.cell? ⟨w.heap.size + 1, 2, none⟩ = some (.int .i64 frm) := by simp only [World.cell?, x1]; rfl
  have q3 : w3.cell? ⟨w.heap.size + 1, 3, none⟩ = some (.int .i64 base) := by simp only [World.cell?, x1]; rfl
  have q4 : w3.cell? ⟨w.heap.size + 1, 4, none⟩ = some (.slice X len c) := by simp only [World.cell?, x1]; rfl
  have q5 : w3.cell? ⟨w.heap.size + 1, 5, none⟩ = some (.int .i64 ack) := by simp only [World.cell?, x1]; rfl
  clear x0 x1
  go_wp2_with fail
  refine (L3.out.step (fun g hg => byte_any hg ((OK.out.count _).count _).ok (L3.out.glob G1.out HN.out) base)).mono ?_
  rintro e w4 ⟨rfl, hl⟩
  have L4 := Lib.hid hl
  clear hl
  clear p0 q2 q3 q4 q5
  have x0 := L4.out.box BX.out.1 NN.out.1
  have x1 := L4.out.box BX.out.2 NN.out.2
  have p0 : w4.cell? ⟨w.heap.size, 0, none⟩ = some (.pointer (some ⟨wb, 0, none⟩)) := by simp only [World.cell?, x0]; rfl
  have q2 : w4.cell? ⟨w.heap.size + 1, 2, none⟩ = some (.int .i64 frm) := by simp only [World.cell?, x1]; rfl
  have q3 : w4.cell? ⟨w.heap.size + 1, 3, none⟩ = some (.int .i64 base) := by simp only [World.cell?, x1]; rfl
  have q4 : w4.cell? ⟨w.heap.size + 1, 4, none⟩ = some (.slice X len c) := by simp only [World.cell?, x1]; rfl
  have q5 : w4.cell? ⟨w.heap.size + 1, 5, none⟩ = some (.int .i64 ack) := by simp only [World.cell?, x1]; rfl
  clear x0 x1
  go_wp2_with fail
  refine (L4.out.step (fun g hg => count_any hg (((OK.out.count _).count _).byte _).ok (L4.out.glob G1.out HN.out) (len : Int) (by omega))).mono ?_
  rintro e w5 ⟨rfl, hl⟩
  have L5 := Lib.hid hl
  clear hl
  clear p0 q2 q3 q4 q5
  have x0 := L5.out.box BX.out.1 NN.out.1
  have x1 := L5.out.box BX.out.2 NN.out.2
  have p0 : w5.cell? ⟨w.heap.size, 0, none⟩ = some (.pointer (some ⟨wb, 0, none⟩)) := by simp only [World.cell?, x0]; rfl
  have q3 : w5.cell? ⟨w.heap.size + 1, 3, none⟩ = some (.int .i64 base) := by simp only [World.cell?, x1]; rfl
  have q4 : w5.cell? ⟨w.heap.size + 1, 4, none⟩ = some (.slice X len c) := by simp only [World.cell?, x1]; rfl
  clear x0 x1
  have TU := turns_any base X ins c w5 (L5.out.cells CI.out XN.out) (by have := LN.out; omega)
  rw [LN.out] at TU
  have TUH := Lib.hid TU
  clear TU
  go_wp2_with fail
  refine TUH.out.mono ?_
  rintro e w6 ⟨rfl, hF, hb6⟩
  obtain ⟨g5, h1, h2, h3⟩ := L5.out
  obtain ⟨tb, htb⟩ : ∃ tb, w5.heap.size = tb := ⟨_, rfl⟩
  have TB : Hid (tb ∉ wb :: g5) := Lib.hid (fun hm => by
    rcases List.mem_cons.1 hm with e | hm
    · have := h1.lt; omega
    · have := h1.2.1 _ hm; omega)
  have L6 := Lib.hid (WLeft.start (h1.below hb6))
  have JJ := Lib.hid (fun (Wf : Wri) (wf : World) (hh : WLeft A w6 wb g5 Wf wf) => WLeft.join h2 h3 hb6 hh)
  rw [htb] at hF ⊢
  have F6 := Lib.hid hF
  have htl : (turnsL base ins).length = len := by rw [turnsL_len, LN.out]
  have FL := Lib.hid (fun g (hg : WAt A w6 wb g ((((W.count frm).count ack).byte base).count (len : Int))) => flags_any hg ((((OK.out.count _).count _).byte _).count _).ok ((JJ.out _ _ L6.out).glob G1.out HN.out) (some ⟨tb, 0, none⟩) len (turnsL base ins) hF.cells (by omega))
  rw [htl] at FL
  have TL := Lib.hid htl
  clear h1 h2 h3 hF hb6 htb htl p0 q3 q4
  have x0 := (JJ.out _ _ L6.out).box BX.out.1 NN.out.1
  have x1 := (JJ.out _ _ L6.out).box BX.out.2 NN.out.2
  have p0 : w6.cell? ⟨w.heap.size, 0, none⟩ = some (.pointer (some ⟨wb, 0, none⟩)) := by simp only [World.cell?, x0]; rfl
  have q3 : w6.cell? ⟨w.heap.size + 1, 3, none⟩ = some (.int .i64 base) := by simp only [World.cell?, x1]; rfl
  have q4 : w6.cell? ⟨w.heap.size + 1, 4, none⟩ = some (.slice X len c) := by simp only [World.cell?, x1]; rfl
  clear x0 x1
  go_wp2_with fail
  refine (L6.out.step FL.out).mono ?_
  rintro e w7 ⟨rfl, hl7⟩
  have L7 := Lib.hid hl7
  clear hl7 p0 q3 q4
  have x0 := (JJ.out _ _ L7.out).box BX.out.1 NN.out.1
  have x1 := (JJ.out _ _ L7.out).box BX.out.2 NN.out.2
  have p0 : w7.cell? ⟨w.heap.size, 0, none⟩ = some (.pointer (some ⟨wb, 0, none⟩)) := by simp only [World.cell?, x0]; rfl
  have q3 : w7.cell? ⟨w.heap.size + 1, 3, none⟩ = some (.int .i64 base) := by simp only [World.cell?, x1]; rfl
  have q4 : w7.cell? ⟨w.heap.size + 1, 4, none⟩ = some (.slice X len c) := by simp only [World.cell?, x1]; rfl
  clear x0 x1
  go_wp2_with fail
  clear p0 q3 q4
  go_loopw [40] (fun kv wr => ∃ k : Nat, k ≤ len ∧ kv = .int .i64 k ∧ WLeft A w6 wb g5 ((((((W.count frm).count ack).byte base).count (len : Int)).put (flagsL (turnsL base ins))).ins base (ins.take k)) wr) (fun kv _ => len - (intOf kv).toNat)
  case atStart => exact ⟨0, Nat.zero_le _, rfl, L7.out⟩
  case round =>
    obtain ⟨k, hk, rfl, hL⟩ := hrel
    have LL := Lib.hid hL
    clear hL
    by_cases hlt : k < len
    · obtain ⟨x, hx⟩ : ∃ x, ins[k]? = some x := ⟨ins[k]'(by rw [LN.out]; exact hlt), by simp [show k < ins.length by rw [LN.out]; exact hlt]⟩
      have JL := JJ.out _ _ LL.out
      obtain ⟨xb, xo, hXe, hc⟩ := (JL.cells CI.out XN.out) k (.int .i64 x) (by simp [iv, hx])
      obtain ⟨t, ht⟩ : ∃ t, (x != aheadL base ins k) = t := ⟨_, rfl⟩
      have hta := turnsL_at ins base k x hx
      have hit := ins_take ins (((((W.count frm).count ack).byte base).count (len : Int)).put (flagsL (turnsL base ins))) base k x hx
      rw [ht] at hta hit
      have hFr : BlkF wr tb (turnsL base ins) := LL.out.box F6.out TB.out
      obtain ⟨f0, _⟩ := hFr.cell k t hta
      have x0 := JL.box BX.out.1 NN.out.1
      have p0 : wr.cell? ⟨w.heap.size, 0, none⟩ = some (.pointer (some ⟨wb, 0, none⟩)) := by simp only [World.cell?, x0]; rfl
      have i0 : (0 : Int) ≤ (k : Int) := by omega
      have i1 : (k : Int) < (len : Int) := by omega
      have IT := Lib.hid hit
      clear hx JL ht hta hit hFr x0
      subst hXe
      cases t with
      | true =>
        have BY := Lib.hid (fun g (hg : WAt A wr wb g ((((((W.count frm).count ack).byte base).count (len : Int)).put (flagsL (turnsL base ins))).ins base (ins.take k))) => byte_any hg (((((OK.out.count _).count _).byte _).count _).put _ |>.ins _ _).ok ((JJ.out _ _ LL.out).glob G1.out HN.out) x)
        go_wp2_with fail
        refine (LL.out.step BY.out).mono ?_
        rintro e w9 ⟨rfl, hl9⟩
        have L9 := Lib.hid hl9
        clear hl9
        go_wp2_with fail
        exact ⟨⟨k + 1, by omega, by go_num, by rw [IT.out]; exact L9.out⟩, by simp [intOf]; omega⟩
      | false =>
        go_wp2_with fail
        exact ⟨⟨k + 1, by omega, by go_num, by rw [IT.out]; exact LL.out⟩, by simp [intOf]; omega⟩
    · obtain rfl : k = len := by omega
      have FIN : Hid (WLeft A w wb gp ((((((W.count frm).count ack).byte base).count (k : Int)).put (flagsL (turnsL base ins))).ins base ins) wr) := Lib.hid (by
        have h := JJ.out _ _ LL.out
        rw [List.take_of_length_le (by rw [LN.out]; exact Nat.le_refl _)] at h
        exact WLeft.ahead HB.out h)
      go_wp2_with fail
      go_end0
      exact ⟨rfl, FIN.out⟩

end Go.Proofs.YtpidjmgapiekaaaGreatDoor
