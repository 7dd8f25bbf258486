/- This text proves what the strand's writer computes, over the loaded program: bytes, a bound, and the first error. -/
import Derived.Test.YtpidjmgapiekaaaGreatDoorIs
import Derived.Test.YtpidjmgapiekaaaGreatDoorRowN
import Derived.Test.YtpidjmgapiekaaaGreatDoorPlain
import Derived.WalkLawsBesides
import Derived.WalkSpells
import Derived.IntWalk
import Derived.KernelRfl
import Derived.Lib.Hide
import Derived.BigQuiet
import Derived.StillTailTactics
import Derived.Deep.RegionHeld3
import Derived.Deep.RegionLaw
import Derived.Deep.QuietTactic
import Derived.Deep.LoopGhost
import Derived.Outline
import Derived.Laws.BytesArg
import Derived.Laws.IdiomStrings
namespace Go.Proofs.YtpidjmgapiekaaaGreatDoor
open Go.RowKit Go.WideShapes

/-- An error that wraps one of the api's, in a block of an error's type. -/
def WrapsT (w : World) (v : Value) (a : Addr) : Prop := ∃ b C, v = .iface 193 (.pointer (some ⟨b, 0, none⟩)) ∧ w.heap[b]? = some (.cells C 195 (0, 0)) ∧ C[1]? = some (.iface 221 (.pointer (some a)))
theorem WrapsT.wraps {w : World} {v : Value} {a : Addr} (h : WrapsT w v a) : Wraps w v a := by
  obtain ⟨b, C, hv, hb, hc⟩ := h
  exact ⟨b, hv, by simp only [World.cell?, hb]; exact hc⟩
theorem WrapsT.is {w : World} {v : Value} {a : Addr} (h : WrapsT w v a) : Calls Tryz.prog 28 #[v, .iface 221 (.pointer (some a))] w fun e w' => e = .returned (.bool true) ∧ w = w' :=
  h.wraps.is.mono fun _ _ ⟨he, hw⟩ => ⟨he, hw.symm⟩
theorem WrapsT.below {w w' : World} {v : Value} {a : Addr} (h : WrapsT w v a) (hb : Below w.heap.size w w') : WrapsT w' v a := by
  obtain ⟨b, C, hv, hc, h1⟩ := h
  exact ⟨b, C, hv, (hb.block b (Array.getElem?_eq_some_iff.1 hc).1).trans hc, h1⟩
theorem WrapsT.kept {w w' : World} {v : Value} {a : Addr} {fp : List Nat} (h : WrapsT w v a) (hk : Kept fp w w') (hf : ∀ x ∈ fp, ∀ C, w.heap[x]? ≠ some (.cells C 195 (0, 0))) : WrapsT w' v a := by
  obtain ⟨b, C, hv, hc, h1⟩ := h
  exact ⟨b, C, hv, (hk.block b (Array.getElem?_eq_some_iff.1 hc).1 (fun hm => hf b hm C hc)).trans hc, h1⟩


theorem s_max2_int (k k' : IntKind) (x y : Int) : Builtin.max2 (.int k x) (.int k' y) = pure (.int k (if x < y then y else x)) := by simp only [Builtin.max2, gt_iff_lt]
theorem s_min2_int (k k' : IntKind) (x y : Int) : Builtin.min2 (.int k x) (.int k' y) = pure (.int k (if y < x then y else x)) := by simp only [Builtin.min2]
theorem s_max_two (ats : Array TypeId) (ty : TypeId) (a b : Value) : Builtin.max_ ats ty #[a, b] = (Builtin.max2 a b >>= fun s => pure s) := by simp only [Builtin.max_, List.foldlM_cons, List.foldlM_nil]
theorem s_min_two (ats : Array TypeId) (ty : TypeId) (a b : Value) : Builtin.min_ ats ty #[a, b] = (Builtin.min2 a b >>= fun s => pure s) := by simp only [Builtin.min_, List.foldlM_cons, List.foldlM_nil]
attribute [local go_sem] s_max2_int s_min2_int s_max_two s_min_two

theorem info5 : (Tryz.prog.info? 5).map (fun i => (i.zero, i.size, i.bytes)) = some (some (.int .u8 0), 1, 1) := by kernel_rfl

/-- Bytes as cells. -/
def bv (l : List UInt8) : List Value := l.map fun b => Value.int .u8 (b.toNat : Int)
theorem bv_len (l : List UInt8) : (bv l).length = l.length := by simp [bv]
theorem bv_append (l r : List UInt8) : bv (l ++ r) = bv l ++ bv r := by simp [bv]
theorem bv_one (l : List UInt8) : ∀ u ∈ bv l, u.oneCell' = true := by
  intro u hu
  obtain ⟨x, _, rfl⟩ := List.mem_map.1 hu
  rfl


/-- Where s3's errors lie in this program. -/
@[reducible] def gl : Nat → Nat
  | 0 => 4
  | 1 => 1
  | 2 => 3
  | 3 => 0
  | 4 => 5
  | n => n
def s_Glob (w : World) (A : Nat → Addr) : Prop := ∀ j, j < 4 → w.cell? ⟨gl j, 0, none⟩ = some (.iface 221 (.pointer (some (A j))))
theorem s_Glob.below {w w' : World} {A : Nat → Addr} (h : s_Glob w A) (hb : Below w.heap.size w w') : s_Glob w' A := fun j hj => (hb.cell (World.block_lt_of_cell? w _ (h j hj))).trans (h j hj)
theorem s_Glob.drewN {w : World} {A : Nat → Addr} (h : s_Glob w A) (n : Nat) : s_Glob (w.drewN n) A := h

/-- What a writer holds: bytes, the bound, the first error (by the number of the api's). -/
structure Wri where
  out : List UInt8
  most : Int
  err : Option Nat

/-- Block wb is a writer; what it leans on lies in the blocks gp. -/
def WAt (A : Nat → Addr) (w : World) (wb : Nat) (gp : List Nat) (W : Wri) : Prop :=
  wb ∉ gp ∧ (∀ x ∈ gp, x < w.heap.size) ∧
  ((W.err = none ∧ ∃ sv, w.heap[wb]? = some (.cells #[sv, .int .i64 W.most, .nilIface] 172 (0, 0)) ∧ RowN w 5 1 gp sv W.out.length (bv W.out)) ∨
   ∃ j b C, W.err = some j ∧ W.out = [] ∧ w.heap[wb]? = some (.cells #[.slice none 0 0, .int .i64 W.most, .iface 193 (.pointer (some ⟨b, 0, none⟩))] 172 (0, 0)) ∧ b ∈ gp ∧ w.heap[b]? = some (.cells C 195 (0, 0)) ∧ C[1]? = some (.iface 221 (.pointer (some (A j)))))

section
variable {A : Nat → Addr} {w w' : World} {wb : Nat} {gp : List Nat} {W W' : Wri}
theorem WAt.lt (h : WAt A w wb gp W) : wb < w.heap.size := by
  rcases h.2.2 with ⟨_, sv, hc, _⟩ | ⟨j, b, C, _, _, hc, _⟩ <;> exact (Array.getElem?_eq_some_iff.1 hc).1
theorem WAt.kept {fp : List Nat} (h : WAt A w wb gp W) (hk : Kept fp w w') (h1 : wb ∉ fp) (h2 : ∀ x ∈ gp, x ∉ fp) : WAt A w' wb gp W := by
  have hb := hk.block wb h.lt h1
  refine ⟨h.1, fun x hx => Nat.lt_of_lt_of_le (h.2.1 x hx) hk.size, ?_⟩
  rcases h.2.2 with ⟨he, sv, hc, hr⟩ | ⟨j, b, C, he, ho, hc, hg, hC, h1'⟩
  · exact .inl ⟨he, sv, hb.trans hc, hr.kept hk h2⟩
  · exact .inr ⟨j, b, C, he, ho, hb.trans hc, hg, (hk.block b (Array.getElem?_eq_some_iff.1 hC).1 (h2 b hg)).trans hC, h1'⟩
theorem WAt.below (h : WAt A w wb gp W) (hb : Below w.heap.size w w') : WAt A w' wb gp W := h.kept (Kept.of_below (fp := []) hb) (by simp) (by simp)
/-- The slot of an error. -/
theorem WAt.good (h : WAt A w wb gp W) (he : W.err = none) : ∃ sv, w.heap[wb]? = some (.cells #[sv, .int .i64 W.most, .nilIface] 172 (0, 0)) ∧ RowN w 5 1 gp sv W.out.length (bv W.out) := by
  rcases h.2.2 with ⟨_, h⟩ | ⟨j, b, C, hj, _⟩
  · exact h
  · rw [he] at hj; cases hj
theorem WAt.bad {j : Nat} (h : WAt A w wb gp W) (he : W.err = some j) : ∃ b C, W.out = [] ∧ w.heap[wb]? = some (.cells #[.slice none 0 0, .int .i64 W.most, .iface 193 (.pointer (some ⟨b, 0, none⟩))] 172 (0, 0)) ∧ b ∈ gp ∧ w.heap[b]? = some (.cells C 195 (0, 0)) ∧ C[1]? = some (.iface 221 (.pointer (some (A j)))) := by
  rcases h.2.2 with ⟨hn, _⟩ | ⟨j', b, C, hj, ho, hc, hg, hC, h1⟩
  · rw [he] at hn; cases hn
  · rw [he] at hj
    cases hj
    exact ⟨b, C, ho, hc, hg, hC, h1⟩
end

/-- What a call leaves that touches a writer. -/
def WLeft (A : Nat → Addr) (w : World) (wb : Nat) (gp : List Nat) (W' : Wri) (w' : World) : Prop := ∃ gp', WAt A w' wb gp' W' ∧ Kept (wb :: gp) w w' ∧ ∀ x ∈ gp', x ∈ gp ∨ w.heap.size ≤ x
def WDone (A : Nat → Addr) (w : World) (wb : Nat) (gp : List Nat) (W' : Wri) (e : Ending) (w' : World) : Prop := e = .returned (.tuple #[]) ∧ WLeft A w wb gp W' w'

theorem WLeft.same {A : Nat → Addr} {w w' : World} {wb : Nat} {gp : List Nat} {W : Wri} (h : WAt A w wb gp W) (hb : Below w.heap.size w w') : WLeft A w wb gp W w' := ⟨gp, h.below hb, Kept.of_below hb, fun _ hx => .inl hx⟩
/-- A call ahead made new blocks alone. -/
theorem WLeft.ahead {A : Nat → Addr} {w w1 w' : World} {wb : Nat} {gp : List Nat} {W' : Wri} (hb : Below w.heap.size w w1) (h : WLeft A w1 wb gp W' w') : WLeft A w wb gp W' w' := by
  obtain ⟨gp', h1, h2, h3⟩ := h
  exact ⟨gp', h1, (Kept.of_below hb).trans h2 (fun x hx => .inl hx), fun x hx => (h3 x hx).imp id (fun h => Nat.le_trans hb.size h)⟩

/-- NewWriter. -/
def Wri.new (m : Int) : Wri := { out := [], most := if m < 0 then 0 else m, err := none }
theorem wnew_any (A : Nat → Addr) (m : Int) (w : World) :
    Calls Tryz.prog 70 #[.int .i64 m] w fun e w' => e = .returned (.pointer (some ⟨w.heap.size, 0, none⟩)) ∧ WAt A w' w.heap.size [] (Wri.new m) ∧ Below w.heap.size w w' := by
  go_enter Tryz.func70, Tryz.ntmps70
  go_wp2
  all_goals go_ret
  all_goals refine ⟨rfl, ⟨by simp, by simp, .inl ⟨rfl, .slice none 0 0, ?_, .inl ⟨rfl, rfl, rfl⟩⟩⟩, (Below.refl _ _).alloc (Nat.le_refl _) _⟩
  all_goals rw [heap_alloc_new]
  all_goals (first | (simp [Wri.new, *]; done) | (simp [Wri.new]; omega))

section
variable {A : Nat → Addr} {w : World} {wb : Nat} {gp : List Nat} {W : Wri}

/-- Where it is wrong, it stays so. -/
theorem write_bad {j : Nat} (h : WAt A w wb gp W) (he : W.err = some j) (v : Value) : Calls Tryz.prog 124 #[.pointer (some ⟨wb, 0, none⟩), v] w (WDone A w wb gp W) := by
  obtain ⟨b, C, ho, hc, hg, hC, h1⟩ := h.bad he
  have c2 : w.cell? ⟨wb, 2, none⟩ = some (.iface 193 (.pointer (some ⟨b, 0, none⟩))) := by simp [World.cell?, hc]
  have H := Lib.hid h
  clear h he ho hc hg hC h1
  go_enter Tryz.func124, Tryz.ntmps124
  go_wp2
  go_end0
  exact ⟨rfl, WLeft.same H.out (Below.refl _ _)⟩
theorem write_nil (w : World) (v : Value) : Calls Tryz.prog 124 #[.pointer none, v] w fun e w' => e = .returned (.tuple #[]) ∧ w = w' := by
  go_enter Tryz.func124, Tryz.ntmps124
  go_wp2
  go_end0
  exact ⟨rfl, rfl⟩

theorem heap_setCell_of {w : World} {b : Nat} {cs : Array Value} {T : TypeId} (h : w.heap[b]? = some (.cells cs T (0, 0))) (i : Nat) (v : Value) : (w.setCell ⟨b, i, none⟩ v).heap[b]? = some (.cells (cs.setIfInBounds i v) T (0, 0)) := by
  unfold World.setCell
  simp [Array.getElem?_modify, h]

/-- blame.At's block. -/
theorem at_typed (s : ByteArray) (v : Value) (T : TypeId) (w : World) : Calls Tryz.prog 111 #[.string s, .iface T v] w fun e w' => e = .returned (.iface 193 (.pointer (some ⟨w.heap.size, 0, none⟩))) ∧ w' = w.alloc (.cells #[.string s, .iface T v] 195) := at_any s T v w

/-- wrong: it is wrong from now on. -/
theorem s_wrong_any (h : WAt A w wb gp W) (he : W.err = none) (j : Nat) : Calls Tryz.prog 150 #[.pointer (some ⟨wb, 0, none⟩), .iface 221 (.pointer (some (A j)))] w (WDone A w wb gp { W with out := [], err := some j }) := by
  obtain ⟨sv, hc, hr⟩ := h.good he
  have H := Lib.hid h
  have HC := Lib.hid hc
  have hlb := h.lt
  clear h he hc hr
  go_enter Tryz.func150, Tryz.ntmps150
  go_wp2_with fail
  refine (at_any _ _ _ _).mono ?_
  rintro e w1 ⟨rfl, hw1⟩
  have hb1 : Below w.heap.size w w1 := by rw [hw1]; exact (Below.refl _ _).alloc (Nat.le_refl _) _
  have hc1 : w1.heap[wb]? = some (.cells #[sv, .int .i64 W.most, .nilIface] 172 (0, 0)) := (hb1.block wb hlb).trans HC.out
  have hn1 := heap_alloc_new w (.cells #[.string ⟨#[115, 116, 114, 97, 110, 100]⟩, .iface 221 (.pointer (some (A j)))] 195)
  rw [← hw1] at hn1
  have c0 : w1.cell? ⟨wb, 0, none⟩ = some sv := by simp [World.cell?, hc1]
  have c2 : w1.cell? ⟨wb, 2, none⟩ = some .nilIface := by simp [World.cell?, hc1]
  have f0 : w1.frozen? ⟨wb, 0, none⟩ = false := by simp [World.frozen?, hc1]
  have f2 : w1.frozen? ⟨wb, 2, none⟩ = false := by simp [World.frozen?, hc1]
  have F : Hid (WLeft A w wb gp { W with out := [], err := some j } ((w1.setCell ⟨wb, 0, none⟩ (.slice none 0 0)).setCell ⟨wb, 2, none⟩ (.iface 193 (.pointer (some ⟨w.heap.size, 0, none⟩))))) := by
    have k0 := Kept.setCell w1 wb 0 (.slice none 0 0)
    have k1 := Kept.setCell (w1.setCell ⟨wb, 0, none⟩ (.slice none 0 0)) wb 2 (.iface 193 (.pointer (some ⟨w.heap.size, 0, none⟩)))
    have k2 : Kept [wb] w1 _ := k0.trans k1 (by simp)
    have hs : w.heap.size < w1.heap.size := (Array.getElem?_eq_some_iff.1 hn1).1
    refine Lib.hid ⟨[w.heap.size], ⟨by simp; omega, by simp; omega, .inr ⟨j, w.heap.size, _, rfl, rfl, ?_, by simp, (k2.block _ hs (by simp; omega)).trans hn1, rfl⟩⟩, ((Kept.of_below hb1).trans k2 (by simp)), by simp⟩
    rw [heap_setCell_of (heap_setCell_of hc1 0 _)]
    rfl
  clear hw1 hb1 hc1 hn1
  go_wp2
  go_end0
  exact ⟨rfl, F.out⟩

/-- refuse. -/
def Wri.refuse (W : Wri) : Wri := if W.err = none then { W with out := [], err := some 1 } else W
theorem s_refuse_any (h : WAt A w wb gp W) (hG : s_Glob w A) : Calls Tryz.prog 123 #[.pointer (some ⟨wb, 0, none⟩)] w (WDone A w wb gp W.refuse) := by
  unfold Wri.refuse
  have g1 := hG 1 (by decide)
  dsimp only [gl] at g1
  cases he : W.err with
  | none =>
    rw [if_pos rfl]
    obtain ⟨sv, hc, hr⟩ := h.good he
    have c2 : w.cell? ⟨wb, 2, none⟩ = some .nilIface := by simp [World.cell?, hc]
    have WR := Lib.hid (s_wrong_any h he 1)
    clear h he hc hr hG
    go_enter Tryz.func123, Tryz.ntmps123
    go_wp2_with fail
    refine WR.out.mono ?_
    rintro e w1 ⟨rfl, hl⟩
    have F := Lib.hid hl
    clear hl
    go_wp2
    go_end0
    exact ⟨rfl, F.out⟩
  | some j =>
    rw [if_neg (by simp)]
    obtain ⟨b, C, ho, hc, hg, hC, h1⟩ := h.bad he
    have c2 : w.cell? ⟨wb, 2, none⟩ = some (.iface 193 (.pointer (some ⟨b, 0, none⟩))) := by simp [World.cell?, hc]
    have H := Lib.hid h
    clear h he ho hc hg hC h1 hG
    go_enter Tryz.func123, Tryz.ntmps123
    go_wp2
    go_end0
    exact ⟨rfl, WLeft.same H.out (Below.refl _ _)⟩
end

theorem run_append_zero {P : Program} (w : World) (t tx ty e : TypeId) (i : TypeInfo) (ht : P.underlying t = some (.slice e)) (hi : P.info? e = some i) (base : Option Addr) (n cap : Nat) (hn : n ≤ cap) (x : Value) (hs : Src P i.size tx x 0 [] w) :
    (Builtin.append_ #[t, tx] ty #[.slice base n cap, x]).run P w = .ok (.slice base n cap) w := by
  have hst : ∀ a : Addr, (storeCells a []).run P w = .ok () w := fun a => rfl
  cases base <;> rcases hs.kind with ⟨e', hk⟩ | hk <;> simp [Builtin.append_, run_underlying ht, run_underlying hk, sizeOf, typeInfo, hi, hs.len, hn, hs.cells, hst]

theorem run_append_any {P : Program} (w : World) (t tx ty e : TypeId) (i : TypeInfo) (z : Value) (size bytes : Nat) (ht : P.underlying t = some (.slice e)) (hi : P.info? e = some i) (hz : i.zero = some z)
    (hsize : i.size = size) (hby : i.bytes = bytes) (hzs : z.cells.size = size) {fp : List Nat} {sv : Value} (hfp : ∀ y ∈ fp, y < w.heap.size)
    (n : Nat) (xs : List Value) (hrow : RowN w e size fp sv n xs) (x : Value) (m : Nat) (news : List Value) (hs : Src P size tx x m news w)
    (h63 : n + m ≤ maxLen) (hbytes : (n + m) * bytes ≤ 140737488355328) :
    ∃ sv' fp' w', (Builtin.append_ #[t, tx] ty #[sv, x]).run P w = .ok sv' w' ∧ RowN w' e size fp' sv' (n + m) (xs ++ news) ∧ Kept fp w w' ∧ (∀ y ∈ fp', (y ∈ fp ∨ w.heap.size ≤ y) ∧ y < w'.heap.size) := by
  by_cases hm : 0 < m
  · obtain ⟨g', o', cap', w', h1, h2, h3, h4⟩ := run_append_rown w t tx ty e i z size bytes ht hi hz hsize hby hzs n xs hrow x m news hs hm h63 hbytes
    refine ⟨_, [g'], w', h1, .inr ⟨g', o', cap', rfl, by simp, h2⟩, h3, fun y hy => ?_⟩
    simp at hy
    subst hy
    exact ⟨h4.imp id (fun e => by omega), h2.lt⟩
  · obtain rfl : m = 0 := by omega
    have hn := hs.newsLen
    rw [Nat.zero_mul] at hn
    have : news = [] := List.eq_nil_of_length_eq_zero hn
    subst this
    subst hsize
    obtain ⟨X, cap, hsv, hl, _, _⟩ := hrow.slice
    refine ⟨sv, fp, w, by rw [hsv]; exact run_append_zero w t tx ty e i ht hi X n cap hl x hs, by simpa using hrow, Kept.refl _ _, fun y hy => ⟨.inl hy, hfp y hy⟩⟩

theorem wpList_append_any {P : Program} {w : World} {ops : Array Oper} {rest : List Oper} {op : Oper} {a : Act} {Q : Exit → Act → World → Prop} (hgd : op.guard = none) (s x : Operand) (t tx : TypeId)
    (ho : op.op = .call { callee := .builtin .append, args := #[s, x], argTypes := #[t, tx] })
    (e : TypeId) (z : Value) (size bytes : Nat) (ht : P.underlying t = some (.slice e)) (hi : (P.info? e).map (fun i => (i.zero, i.size, i.bytes)) = some (some z, size, bytes)) (hzs : z.cells.size = size)
    {fp : List Nat} {sv : Value} (hfp : ∀ y ∈ fp, y < w.heap.size) (n : Nat) (xs : List Value) (hsv : a.eval s = sv) (hrow : RowN w e size fp sv n xs) (xv : Value) (hxv : a.eval x = xv) (m : Nat) (news : List Value) (hs : Src P size tx xv m news w)
    (h63 : n + m ≤ maxLen) (hbytes : (n + m) * bytes ≤ 140737488355328)
    (h : ∀ sv' fp' w', RowN w' e size fp' sv' (n + m) (xs ++ news) → Kept fp w w' → (∀ y ∈ fp', (y ∈ fp ∨ w.heap.size ≤ y) ∧ y < w'.heap.size) → wpList P ops Q rest (a.put op.dst sv') w') :
    wpList P ops Q (op :: rest) a w := by
  obtain ⟨i0, hi0, hz0, hz1, hz2⟩ := info_parts hi
  refine wpList_plain hgd fun K hK => ?_
  obtain ⟨sv', fp', w', hr, h2, h3, h4⟩ := run_append_any (P := P) w t tx op.type e i0 z size bytes ht hi0 hz0 hz1 hz2 hzs hfp n xs hrow xv m news hs h63 hbytes
  unfold Oper.wp execOp
  simp only [ho, resolve, invoke, builtin, Sem.run_bind, Sem.run_pure, Result.andThen_ok, List.map_toArray, List.map_cons, List.map_nil, hsv, hxv, hr]
  exact hK _ _ (h sv' fp' w' h2 h3 h4)

section
variable {A : Nat → Addr} {w : World} {wb : Nat} {gp : List Nat} {W : Wri}

/-- write. -/
def Wri.put (W : Wri) (bs : List UInt8) : Wri := if W.err = none then if (bs.length : Int) > W.most - W.out.length then { W with out := [], err := some 2 } else { W with out := W.out ++ bs } else W
def Wri.ok (W : Wri) : Prop := 0 ≤ W.most ∧ W.most ≤ 9223372036854775807 ∧ W.out.length ≤ 100000000

/-- A slice of bytes, wherever it lies. -/
def BSl (w : World) (v : Value) (bs : List UInt8) : Prop := ∃ X c, v = .slice X bs.length c ∧ Cells w X (bv bs)
theorem BSl.src {v : Value} {bs : List UInt8} (h : BSl w v bs) : Src Tryz.prog 1 144 v bs.length (bv bs) w := by
  obtain ⟨X, c, rfl, hC⟩ := h
  cases hX : X with
  | some a =>
    subst hX
    exact Src.ofSlice w Tryz.underlying144 a _ c (bv bs) (by rw [bv_len, Nat.mul_one]) (fun j u hj => by
      obtain ⟨b, o, e, hc⟩ := hC j u hj
      cases e
      rw [add_plain]
      exact hc) (bv_one bs)
  | none =>
    subst hX
    cases bs with
    | nil => exact Src.ofNil w Tryz.underlying144 c
    | cons b r =>
      obtain ⟨b', o, e, _⟩ := hC 0 (.int .u8 (b.toNat : Int)) rfl
      cases e
theorem BSl.below {w' : World} {v : Value} {bs : List UInt8} (h : BSl w v bs) (hb : Below w.heap.size w w') : BSl w' v bs := by
  obtain ⟨X, c, hv, hC⟩ := h
  exact ⟨X, c, hv, hC.below hb⟩

theorem s_push_facts {sv sv' : Value} {l n k : Nat} {bs : List UInt8} {fp' : List Nat} {w1 : World} (h : WAt A w wb gp W) (he : W.err = none) (hc : w.heap[wb]? = some (.cells #[sv, .int .i64 W.most, .nilIface] 172 (0, 0))) (hl : W.out.length = l) (hn : bs.length = n)
    (hr : RowN w1 5 1 fp' sv' (l + n) (bv W.out ++ bv bs)) (hk : Kept gp (w.drewN k) w1) (hf : ∀ y ∈ fp', (y ∈ gp ∨ (w.drewN k).heap.size ≤ y) ∧ y < w1.heap.size) :
    (w1.cell? ⟨wb, 0, none⟩).isSome = true ∧ w1.frozen? ⟨wb, 0, none⟩ = false ∧ Hid (WLeft A w wb gp { W with out := W.out ++ bs } (w1.setCell ⟨wb, 0, none⟩ sv')) := by
  have hk' : Kept gp w w1 := (Kept.drewN gp w k).trans hk (fun x hx => .inl hx)
  have hc1 : w1.heap[wb]? = _ := (hk'.block wb h.lt h.1).trans hc
  have hwb : wb ∉ fp' := fun hm => by
    obtain ⟨h1, _⟩ := hf wb hm
    rcases h1 with h1 | h1
    · exact h.1 h1
    · have := h.lt
      have e : (w.drewN k).heap.size = w.heap.size := rfl
      omega
  refine ⟨by simp [World.cell?, hc1], by simp [World.frozen?, hc1], Lib.hid ⟨fp', ⟨hwb, fun x hx => by rw [World.size_setCell]; exact (hf x hx).2, .inl ⟨he, sv', ?_, ?_⟩⟩, ?_, fun x hx => (hf x hx).1⟩⟩
  · rw [heap_setCell_of hc1]; rfl
  · rw [List.length_append, hl, hn, bv_append]
    exact hr.kept (Kept.setCell w1 wb 0 sv') (fun x hx => by simp; rintro rfl; exact hwb hx)
  · exact (hk'.mono (fun x hx => .inl (by simp [hx]))).trans (Kept.setCell w1 wb 0 sv') (by simp)

set_option maxRecDepth 100000 in
set_option maxHeartbeats 3200000 in
theorem write_any (h : WAt A w wb gp W) (hok : W.ok) (hG : s_Glob w A) (v : Value) (bs : List UInt8) (hv : BSl w v bs) (hbs : bs.length ≤ 100000000) :
    Calls Tryz.prog 124 #[.pointer (some ⟨wb, 0, none⟩), v] w (WDone A w wb gp (W.put bs)) := by
  unfold Wri.put
  cases he : W.err with
  | some j => rw [if_neg (by simp)]; exact write_bad h he v
  | none =>
    rw [if_pos rfl]
    obtain ⟨sv, hc, hr⟩ := h.good he
    obtain ⟨X, c, rfl, hC⟩ := id hv
    have g2 := hG 2 (by decide)
    dsimp only [gl] at g2
    obtain ⟨Y, cap, rfl, hl1, hl2, _⟩ := hr.slice
    obtain ⟨k1, k2, k3⟩ := hok
    obtain ⟨n, hn⟩ : ∃ n, bs.length = n := ⟨_, rfl⟩
    obtain ⟨l, hl⟩ : ∃ l, W.out.length = l := ⟨_, rfl⟩
    obtain ⟨m, hm⟩ : ∃ m, W.most = m := ⟨_, rfl⟩
    rw [hl] at k3
    rw [hn] at hbs
    rw [hm] at k1 k2
    have c0 : w.cell? ⟨wb, 0, none⟩ = some (.slice Y l cap) := by simp [World.cell?, hc, hl]
    have c1 : w.cell? ⟨wb, 1, none⟩ = some (.int .i64 m) := by simp [World.cell?, hc, hm]
    have c2 : w.cell? ⟨wb, 2, none⟩ = some .nilIface := by simp [World.cell?, hc]
    rw [hn, hl, hm]
    have NN := Lib.hid hn
    have LL := Lib.hid hl
    have MM := Lib.hid hm
    have H := Lib.hid h
    have HE := Lib.hid he
    have HV := Lib.hid hv
    have e1 : IntKind.i64.wrap (m - l) = m - l := IntWalk.i64_in _ (by omega)
    by_cases hbig : (n : Int) > m - l
    · rw [if_pos hbig]
      have q1 : decide (m - (l : Int) < (n : Int)) = true := by simpa using hbig
      have WR := fun k => Lib.hid (s_wrong_any (h.kept (Kept.drewN [] w k) (by simp) (by simp)) he 2)
      have WH := Lib.hid WR
      clear h he hc hr hC hv hn hl hm hG hbig WR
      go_enter Tryz.func124, Tryz.ntmps124
      go_wp2_with fail
      go_quiet (fail)
      go_wp2_with fail
      refine (WH.out nq).out.mono ?_
      rintro e w1 ⟨rfl, hl⟩
      have F := Lib.hid (WLeft.ahead (w := w) (w1 := w.drewN nq) ⟨rfl, rfl, rfl, Nat.le_refl _, fun _ _ => rfl⟩ hl)
      clear hl
      go_wp2
      go_end0
      exact ⟨rfl, by rw [← MM.out]; exact F.out⟩
    · rw [if_neg hbig]
      have q1 : decide (m - (l : Int) < (n : Int)) = false := by simp; omega
      have RR := Lib.hid hr
      have SR := fun k => (hv.below (w' := w.drewN k) ⟨rfl, rfl, rfl, Nat.le_refl _, fun _ _ => rfl⟩).src
      rw [hn] at SR
      have SH := Lib.hid SR
      have HC := Lib.hid hc
      have FP := Lib.hid h.2.1
      clear h he hc hr hC hv hn hl hm hG hbig SR
      go_enter Tryz.func124, Tryz.ntmps124
      go_wp2_with fail
      go_quiet (fail)
      have RK := Lib.hid (RR.out.kept (Kept.drewN [] w nq) (by simp))
      rw [LL.out] at RK
      go_wp2_with (first
        | (at_builtin; refine wpList_append_any rfl _ _ 144 144 rfl 5 (.int .u8 0) 1 1 Tryz.underlying144 info5 rfl FP.out l _ rfl RK.out _ rfl n _ (SH.out nq) (by simp [maxLen]; omega) (by omega) ?_; intro sv' fp' w1 hr1 hk1 hf1; obtain ⟨Y', cap', hsv', -, -, -⟩ := hr1.slice; subst hsv'; have P1 := s_push_facts H.out HE.out HC.out LL.out NN.out hr1 hk1 hf1; obtain ⟨c0n, f0n, P2⟩ := P1; obtain ⟨cv, c0n⟩ := Option.isSome_iff_exists.1 c0n; clear hr1 hk1 hf1)
        | fail)
      go_end0
      have P3 := P2.out
      rw [HE.out, MM.out] at P3
      exact ⟨rfl, P3⟩
end

end Go.Proofs.YtpidjmgapiekaaaGreatDoor
