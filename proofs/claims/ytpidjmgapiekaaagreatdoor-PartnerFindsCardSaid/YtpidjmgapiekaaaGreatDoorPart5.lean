/- This text lays out one side of a session in memory, over the loaded program: its block, its queues, its rows and maps, all apart from each other. -/
import Derived.Test.YtpidjmgapiekaaaGreatDoorQueue4
import Derived.Test.YtpidjmgapiekaaaGreatDoorRowN
import Derived.Test.YtpidjmgapiekaaaGreatDoorDice
namespace Go.Proofs.YtpidjmgapiekaaaGreatDoor
section
open Go.RowKit Go.WideShapes
set_option linter.unusedSimpArgs false

/-- Lists of blocks that lie apart from each other. -/
def SepL (F : List (List Nat)) : Prop := F.Pairwise (fun a b => ∀ x ∈ a, x ∉ b)

/-- Options. -/
structure Opt where
  window : Int
  delay : Int
  syncs : Int
  retry : Int
  timeout : Int
  report : Int

/-- What a side knows. -/
structure Side where
  now : Int
  synced : Bool
  syncAt : Int
  inAt : Int
  sent : Int
  heard : Int
  out : List ByteArray
  ev : List (Int × Int)
  o : Opt
  phase : Int
  frame : Int
  mine : Que
  other : Que
  me : Int
  seed : Int
  nonce : Int
  rounds : Int
  acked : Int
  told : Int
  dropped : Int
  own : List Int
  ownV : Int → Option Int
  their : List Int
  theirV : Int → Option Int
  gn : Nat
  on : Nat
  tn : Nat

/-- Where its parts lie. -/
structure Ptr where
  ov : Value
  outF : List Nat
  ev : Value
  evF : List Nat
  mb : Nat
  mm : Nat
  mg : Nat
  ob : Nat
  om : Nat
  og : Nat
  fo : Value
  foF : List Nat
  vo : Nat
  ft : Value
  ftF : List Nat
  vt : Nat

def Side.cells (P : Side) (a : Ptr) : Array Value :=
  #[.int .i64 P.now, .bool P.synced, .int .i64 P.syncAt, .int .i64 P.inAt, .int .i64 P.sent, .int .i64 P.heard, a.ov, a.ev,
    .int .i64 P.o.window, .int .i64 P.o.delay, .int .i64 P.o.syncs, .int .i64 P.o.retry, .int .i64 P.o.timeout, .int .i64 P.o.report, .int .i64 P.phase, .int .i64 P.frame,
    .pointer (some ⟨if P.me = 0 then a.mb else a.ob, 0, none⟩), .pointer (some ⟨if P.me = 0 then a.ob else a.mb, 0, none⟩), .pointer (some ⟨a.mb, 0, none⟩), .pointer (some ⟨a.ob, 0, none⟩),
    .int .i64 P.me, .int .i64 P.seed, .int .i64 P.nonce, .int .i64 P.rounds, .int .i64 P.acked, .int .i64 P.told, .int .i64 P.dropped, a.fo, .map (some a.vo), a.ft, .map (some a.vt)]

def evCells : List (Int × Int) → List Value
  | [] => []
  | p :: r => .int .i64 p.1 :: .int .i64 p.2 :: evCells r
theorem evCells_append (a b : List (Int × Int)) : evCells (a ++ b) = evCells a ++ evCells b := by
  induction a with
  | nil => rfl
  | cons x a ih => simp [evCells, ih]

/-- Block m is a map of sums that holds just what G says. -/
def MapU (w : World) (m n : Nat) (G : Int → Option Int) : Prop :=
  ∃ D : DataW Unit, w.ownsMap Tryz.prog 3 (plainElem Tryz.prog 46) m n D ∧ ∀ k, (Lit.int .i64 k).wf = true → Maps.has D (.int .i64 k) = (G k).isSome ∧ D.atKey (.int .i64 k) (.lit (.int .u64 0)) = .lit (.int .u64 ((G k).getD 0))
theorem MapU.lt {w : World} {m n : Nat} {G : Int → Option Int} (h : MapU w m n G) : m < w.heap.size := by
  obtain ⟨D, h, _⟩ := h
  exact h.lt
theorem MapU.made (w : World) : MapU (w.alloc (.map #[] 0)) w.heap.size 0 (fun _ => none) :=
  ⟨.map [], World.ownsMap_made _ _ _ _, fun _ _ => ⟨rfl, rfl⟩⟩
theorem MapU.of_block {w w' : World} {m n : Nat} {G : Int → Option Int} (h : MapU w m n G) (hb : w'.heap[m]? = w.heap[m]?) : MapU w' m n G := by
  obtain ⟨D, ⟨es, clock, hb0, F, hs, hD⟩, h2⟩ := h
  exact ⟨D, ⟨es, clock, hb.trans hb0, F, hs, hD⟩, h2⟩
theorem MapU.kept {w w' : World} {m n : Nat} {G : Int → Option Int} {fp : List Nat} (h : MapU w m n G) (hk : Kept fp w w') (hn : m ∉ fp) : MapU w' m n G :=
  h.of_block (hk.block m h.lt hn)

/-- The blocks of a side's parts, its own block first. -/
def Ptr.fps (pb : Nat) (a : Ptr) : List (List Nat) := [[pb], [a.mb, a.mm, a.mg], [a.ob, a.om, a.og], a.outF, a.evF, a.foF, [a.vo], a.ftF, [a.vt]]

/-- Block pb is a side. -/
structure PAt (w : World) (pb : Nat) (a : Ptr) (P : Side) : Prop where
  cell : w.heap[pb]? = some (.cells (P.cells a) 111 (0, 0))
  mine : ∃ o cap n, QAt w a.mb a.mm a.mg o cap n P.mine
  other : ∃ o cap, QAt w a.ob a.om a.og o cap P.gn P.other
  out : RowN w 9 1 a.outF a.ov P.out.length (P.out.map Value.string)
  evs : RowN w 44 2 a.evF a.ev P.ev.length (evCells P.ev)
  own : RowN w 3 1 a.foF a.fo P.own.length (P.own.map (Value.int .i64))
  ownV : MapU w a.vo P.on P.ownV
  their : RowN w 3 1 a.ftF a.ft P.their.length (P.their.map (Value.int .i64))
  theirV : MapU w a.vt P.tn P.theirV
  sep : SepL (a.fps pb)
  small : ∀ l ∈ a.fps pb, ∀ x ∈ l, x < w.heap.size

section
variable {w w' : World} {pb : Nat} {a : Ptr} {P : Side}
theorem PAt.lt (h : PAt w pb a P) : pb < w.heap.size := (Array.getElem?_eq_some_iff.1 h.cell).1
theorem PAt.at (h : PAt w pb a P) (i : Nat) : w.cell? ⟨pb, i, none⟩ = (P.cells a)[i]? := by simp [World.cell?, h.cell]
theorem PAt.f (h : PAt w pb a P) (i : Nat) : w.frozen? ⟨pb, i, none⟩ = false := by simp [World.frozen?, h.cell]

theorem PAt.kept {fk : List Nat} (h : PAt w pb a P) (hk : Kept fk w w') (hd : ∀ l ∈ a.fps pb, ∀ x ∈ l, x ∉ fk) : PAt w' pb a P := by
  have d0 := hd [pb] (by simp [Ptr.fps])
  have d1 := hd [a.mb, a.mm, a.mg] (by simp [Ptr.fps])
  have d2 := hd [a.ob, a.om, a.og] (by simp [Ptr.fps])
  have d3 := hd a.outF (by simp [Ptr.fps])
  have d4 := hd a.evF (by simp [Ptr.fps])
  have d5 := hd a.foF (by simp [Ptr.fps])
  have d6 := hd [a.vo] (by simp [Ptr.fps])
  have d7 := hd a.ftF (by simp [Ptr.fps])
  have d8 := hd [a.vt] (by simp [Ptr.fps])
  obtain ⟨o1, c1, n1, q1⟩ := h.mine
  obtain ⟨o2, c2, q2⟩ := h.other
  have hm1 := h.ownV
  have hm2 := h.theirV
  exact ⟨(hk.block pb h.lt (d0 pb (by simp))).trans h.cell, ⟨o1, c1, n1, q1.kept hk (d1 _ (by simp)) (d1 _ (by simp)) (d1 _ (by simp))⟩, ⟨o2, c2, q2.kept hk (d2 _ (by simp)) (d2 _ (by simp)) (d2 _ (by simp))⟩,
    h.out.kept hk d3, h.evs.kept hk d4, h.own.kept hk d5, hm1.kept hk (d6 _ (by simp)), h.their.kept hk d7, hm2.kept hk (d8 _ (by simp)), h.sep, fun l hl x hx => by have := h.small l hl x hx; have := hk.size; omega⟩
theorem PAt.below (h : PAt w pb a P) (hb : Below w.heap.size w w') : PAt w' pb a P := h.kept (fk := []) (Kept.of_below hb) (by simp)
theorem PAt.drewN (h : PAt w pb a P) (k : Nat) : PAt (w.drewN k) pb a P := h.kept (Kept.drewN [] w k) (by simp)
/-- Its own block lies apart from its parts. -/
theorem PAt.apart (h : PAt w pb a P) : ∀ l ∈ (a.fps pb).tail, ∀ x ∈ l, x ≠ pb := by
  intro l hl x hx e
  have := List.rel_of_pairwise_cons h.sep (show l ∈ (a.fps pb).tail from hl) pb (by simp)
  exact this (by rw [← e]; exact hx)
/-- One of its own cells is turned, and nothing else. -/
theorem PAt.setCell (h : PAt w pb a P) (i : Nat) (v : Value) {P' : Side} (hc : (P.cells a).setIfInBounds i v = P'.cells a) (hm : P'.mine = P.mine) (ho : P'.other = P.other) (h1 : P'.out = P.out) (h2 : P'.ev = P.ev) (h3 : P'.own = P.own) (h4 : P'.ownV = P.ownV) (h5 : P'.their = P.their) (h6 : P'.theirV = P.theirV) (h7 : P'.gn = P.gn) (h8 : P'.on = P.on) (h9 : P'.tn = P.tn) : PAt (w.setCell ⟨pb, i, none⟩ v) pb a P' := by
  have hk := Kept.setCell w pb i v
  have hd := h.apart
  have d1 := hd [a.mb, a.mm, a.mg] (by simp [Ptr.fps])
  have d2 := hd [a.ob, a.om, a.og] (by simp [Ptr.fps])
  have d3 := hd a.outF (by simp [Ptr.fps])
  have d4 := hd a.evF (by simp [Ptr.fps])
  have d5 := hd a.foF (by simp [Ptr.fps])
  have d6 := hd [a.vo] (by simp [Ptr.fps])
  have d7 := hd a.ftF (by simp [Ptr.fps])
  have d8 := hd [a.vt] (by simp [Ptr.fps])
  have nn : ∀ {x : Nat}, x ≠ pb → x ∉ [pb] := fun hx => by simpa using hx
  obtain ⟨o1, c1, n1, q1⟩ := h.mine
  obtain ⟨o2, c2, q2⟩ := h.other
  have hm1 := h.ownV
  have hm2 := h.theirV
  refine ⟨by rw [heap_setCell_at h.cell, hc], ⟨o1, c1, n1, ?_⟩, ⟨o2, c2, ?_⟩, ?_, ?_, ?_, ?_, ?_, ?_, h.sep, fun l hl x hx => by have := h.small l hl x hx; have := hk.size; omega⟩
  · rw [hm]; exact q1.kept hk (nn (d1 _ (by simp))) (nn (d1 _ (by simp))) (nn (d1 _ (by simp)))
  · rw [ho, h7]; exact q2.kept hk (nn (d2 _ (by simp))) (nn (d2 _ (by simp))) (nn (d2 _ (by simp)))
  · rw [h1]; exact h.out.kept hk (fun x hx => nn (d3 x hx))
  · rw [h2]; exact h.evs.kept hk (fun x hx => nn (d4 x hx))
  · rw [h3]; exact h.own.kept hk (fun x hx => nn (d5 x hx))
  · rw [h4, h8]; exact hm1.kept hk (nn (d6 _ (by simp)))
  · rw [h5]; exact h.their.kept hk (fun x hx => nn (d7 x hx))
  · rw [h6, h9]; exact hm2.kept hk (nn (d8 _ (by simp)))
end

/-! The small methods -/
section
variable {w : World} {pb : Nat} {a : Ptr} {P : Side}

theorem phase_any (h : PAt w pb a P) : Calls Tryz.prog 13 #[.pointer (some ⟨pb, 0, none⟩)] w (fun e w' => e = .returned (.int .i64 P.phase) ∧ w = w') := by
  have c := h.at 14
  simp only [Side.cells, List.getElem?_toArray] at c
  replace c : w.cell? ⟨pb, 14, none⟩ = some (.int .i64 P.phase) := c
  clear h
  go_enter Tryz.func13, Tryz.ntmps13
  go_wp2
  go_ret
  exact ⟨rfl, rfl⟩
theorem frame_any (h : PAt w pb a P) : Calls Tryz.prog 21 #[.pointer (some ⟨pb, 0, none⟩)] w (fun e w' => e = .returned (.int .i64 P.frame) ∧ w = w') := by
  have c : w.cell? ⟨pb, 15, none⟩ = some (.int .i64 P.frame) := h.at 15
  clear h
  go_enter Tryz.func21, Tryz.ntmps21
  go_wp2
  go_ret
  exact ⟨rfl, rfl⟩
theorem due_any (h : PAt w pb a P) (s t : Int) (hs : -4000000000000000000 ≤ P.now - s) (hs2 : P.now - s ≤ 4000000000000000000) : Calls Tryz.prog 74 #[.pointer (some ⟨pb, 0, none⟩), .int .i64 s, .int .i64 t] w (fun e w' => e = .returned (.bool (decide (t ≤ P.now - s))) ∧ w = w') := by
  have c : w.cell? ⟨pb, 0, none⟩ = some (.int .i64 P.now) := h.at 0
  have e : IntKind.i64.wrap (P.now - s) = P.now - s := IntWalk.i64_in _ (by omega)
  clear h
  go_enter Tryz.func74, Tryz.ntmps74
  go_wp2
  go_ret
  exact ⟨rfl, rfl⟩
theorem pwithin_any (n low high : Int) (w : World) : Calls Tryz.prog 77 #[.int .i64 n, .int .i64 low, .int .i64 high] w fun e w' => e = .returned (.bool (decide (low ≤ n) && decide (n ≤ high))) ∧ w = w' := by
  by_cases h : low ≤ n
  · rw [decide_eq_true h]
    go_enter Tryz.func77, Tryz.ntmps77
    go_wp2
    go_ret
    exact ⟨rfl, rfl⟩
  · rw [decide_eq_false h]
    have q : decide (low ≤ n) = false := by simpa using h
    clear h
    go_enter Tryz.func77, Tryz.ntmps77
    go_wp2
    go_ret
    exact ⟨rfl, rfl⟩
end
end

section
open Go.RowKit Go.WideShapes
set_option linter.unusedSimpArgs false

theorem SepL.set {F : List (List Nat)} (h : SepL F) (i : Nat) (l' : List Nat) (n : Nat) (hs : ∀ l ∈ F, ∀ x ∈ l, x < n) (hl : ∀ x ∈ l', (∃ l, F[i]? = some l ∧ x ∈ l) ∨ n ≤ x) : SepL (F.set i l') := by
  induction F generalizing i with
  | nil => exact h
  | cons a r ih =>
    have h1 := List.pairwise_cons.1 h
    match i, hl with
    | 0, hl =>
      refine List.pairwise_cons.2 ⟨fun b hb x hx hxb => ?_, h1.2⟩
      rcases hl x hx with ⟨l, hl', hxl⟩ | hn
      · simp at hl'
        subst hl'
        exact h1.1 b hb x hxl hxb
      · have := hs b (by simp [hb]) x hxb
        omega
    | i + 1, hl =>
      refine List.pairwise_cons.2 ⟨fun b hb x hx hxb => ?_, ih h1.2 i (fun l hl' => hs l (by simp [hl'])) (fun x hx => by simpa using hl x hx)⟩
      rcases List.mem_or_eq_of_mem_set hb with hb | rfl
      · exact h1.1 b hb x hx hxb
      · rcases hl x hxb with ⟨l, hl', hxl⟩ | hn
        · have hm : l ∈ r := List.mem_of_getElem? (by simpa using hl')
          exact h1.1 l hm x hx hxl
        · have := hs a (by simp) x hx
          omega
theorem SepL.at {F : List (List Nat)} (h : SepL F) {i j : Nat} {l m : List Nat} (hi : F[i]? = some l) (hj : F[j]? = some m) (hij : i ≠ j) : ∀ x ∈ l, x ∉ m := by
  induction F generalizing i j with
  | nil => simp at hi
  | cons a r ih =>
    have h1 := List.pairwise_cons.1 h
    match i, j, hi, hj, hij with
    | 0, 0, _, _, hij => exact absurd rfl hij
    | 0, j + 1, hi, hj, _ =>
      simp at hi hj
      subst hi
      exact h1.1 m (List.mem_of_getElem? hj)
    | i + 1, 0, hi, hj, _ =>
      simp at hi hj
      subst hj
      exact fun x hx hxa => h1.1 l (List.mem_of_getElem? hi) x hxa hx
    | i + 1, j + 1, hi, hj, hij => exact ih h1.2 (by simpa using hi) (by simpa using hj) (by omega)

/-- What a method of a side leaves. -/
def PDone (w : World) (pb : Nat) (a : Ptr) (P' : Side) (v : Value) (e : Ending) (w' : World) : Prop :=
  e = .returned v ∧ ∃ a', PAt w' pb a' P' ∧ Kept (a.fps pb).flatten w w' ∧ (∀ x ∈ (a'.fps pb).flatten, x ∈ (a.fps pb).flatten ∨ w.heap.size ≤ x) ∧ a'.mb = a.mb ∧ a'.ob = a.ob

section
variable {w w1 : World} {pb : Nat} {a : Ptr} {P : Side}

theorem PAt.turnEv (h : PAt w pb a P) (hk : Kept a.evF w w1) {g' o' cap' : Nat} {L : List (Int × Int)} (hr : RowAt w1 44 2 g' o' cap' L.length (evCells L)) (hg : g' ∈ a.evF ∨ g' = w.heap.size) :
    PAt (w1.setCell ⟨pb, 7, none⟩ (.slice (some ⟨g', o', none⟩) L.length cap')) pb { a with ev := .slice (some ⟨g', o', none⟩) L.length cap', evF := [g'] } { P with ev := L } ∧ Kept (a.fps pb).flatten w (w1.setCell ⟨pb, 7, none⟩ (.slice (some ⟨g', o', none⟩) L.length cap')) ∧
      ∀ x ∈ (Ptr.fps pb { a with ev := .slice (some ⟨g', o', none⟩) L.length cap', evF := [g'] }).flatten, x ∈ (a.fps pb).flatten ∨ w.heap.size ≤ x := by
  have S := h.sep
  have d0 := S.at (i := 0) (j := 4) (l := [pb]) (m := a.evF) rfl rfl (by decide)
  have d1 := S.at (i := 1) (j := 4) (l := [a.mb, a.mm, a.mg]) (m := a.evF) rfl rfl (by decide)
  have d2 := S.at (i := 2) (j := 4) (l := [a.ob, a.om, a.og]) (m := a.evF) rfl rfl (by decide)
  have d3 := S.at (i := 3) (j := 4) (l := a.outF) (m := a.evF) rfl rfl (by decide)
  have d5 := S.at (i := 5) (j := 4) (l := a.foF) (m := a.evF) rfl rfl (by decide)
  have d6 := S.at (i := 6) (j := 4) (l := [a.vo]) (m := a.evF) rfl rfl (by decide)
  have d7 := S.at (i := 7) (j := 4) (l := a.ftF) (m := a.evF) rfl rfl (by decide)
  have d8 := S.at (i := 8) (j := 4) (l := [a.vt]) (m := a.evF) rfl rfl (by decide)
  have hpg : pb ≠ g' := by
    rcases hg with hg | hg
    · rintro rfl; exact d0 pb (by simp) hg
    · have := h.lt; omega
  have hfp : Ptr.fps pb { a with ev := .slice (some ⟨g', o', none⟩) L.length cap', evF := [g'] } = (a.fps pb).set 4 [g'] := rfl
  have hsub : ∀ x ∈ a.evF, x ∈ (a.fps pb).flatten := fun x hx => List.mem_flatten.2 ⟨a.evF, by simp [Ptr.fps], hx⟩
  have hk2 := Kept.setCell w1 pb 7 (.slice (some ⟨g', o', none⟩) L.length cap')
  have hd := h.apart
  have nn : ∀ {x : Nat}, x ≠ pb → x ∉ [pb] := fun hx => by simpa using hx
  have bb : ∀ {x : Nat}, (x ∈ a.evF → False) → x ≠ pb → x ∉ a.evF ∧ x ∉ [pb] := fun h1 h2 => ⟨h1, by simpa using h2⟩
  obtain ⟨o1, c1, n1, q1⟩ := h.mine
  obtain ⟨o2, c2, q2⟩ := h.other
  have hm1 := h.ownV
  have hm2 := h.theirV
  have hcell : w1.heap[pb]? = some (.cells (P.cells a) 111 (0, 0)) := (hk.block pb h.lt (d0 pb (by simp))).trans h.cell
  have e1 := hd [a.mb, a.mm, a.mg] (by simp [Ptr.fps])
  have e2 := hd [a.ob, a.om, a.og] (by simp [Ptr.fps])
  have e3 := hd a.outF (by simp [Ptr.fps])
  have e4 := hd a.evF (by simp [Ptr.fps])
  have e5 := hd a.foF (by simp [Ptr.fps])
  have e6 := hd [a.vo] (by simp [Ptr.fps])
  have e7 := hd a.ftF (by simp [Ptr.fps])
  have e8 := hd [a.vt] (by simp [Ptr.fps])
  refine ⟨⟨by rw [heap_setCell_at hcell]; rfl, ⟨o1, c1, n1, (q1.kept hk (d1 _ (by simp)) (d1 _ (by simp)) (d1 _ (by simp))).kept hk2 (nn (e1 _ (by simp))) (nn (e1 _ (by simp))) (nn (e1 _ (by simp)))⟩,
    ⟨o2, c2, (q2.kept hk (d2 _ (by simp)) (d2 _ (by simp)) (d2 _ (by simp))).kept hk2 (nn (e2 _ (by simp))) (nn (e2 _ (by simp))) (nn (e2 _ (by simp)))⟩,
    (h.out.kept hk d3).kept hk2 (fun x hx => nn (e3 x hx)), (.inr ⟨g', o', cap', rfl, by simp, hr.kept hk2 (by simpa using Ne.symm hpg)⟩), (h.own.kept hk d5).kept hk2 (fun x hx => nn (e5 x hx)), (hm1.kept hk (d6 _ (by simp))).kept hk2 (nn (e6 _ (by simp))), (h.their.kept hk d7).kept hk2 (fun x hx => nn (e7 x hx)), (hm2.kept hk (d8 _ (by simp))).kept hk2 (nn (e8 _ (by simp))), ?_, ?_⟩, (hk.mono (fun x hx => .inl (hsub x hx))).trans hk2 (fun x hx => .inl (by simp at hx; subst hx; exact List.mem_flatten.2 ⟨[x], by simp [Ptr.fps], by simp⟩)), ?_⟩
  · rw [hfp]
    refine S.set 4 [g'] w.heap.size h.small (fun x hx => ?_)
    simp at hx
    subst hx
    rcases hg with hg | hg
    · exact .inl ⟨a.evF, rfl, hg⟩
    · exact .inr (by omega)
  · rw [hfp]
    intro l hl x hx
    have s1 := hk.size
    have s2 := hk2.size
    rcases List.mem_or_eq_of_mem_set hl with hl | rfl
    · have := h.small l hl x hx; omega
    · simp at hx
      subst hx
      have := hr.lt; omega
  · rw [hfp]
    intro x hx
    obtain ⟨l, hl, hxl⟩ := List.mem_flatten.1 hx
    rcases List.mem_or_eq_of_mem_set hl with hl | rfl
    · exact .inl (List.mem_flatten.2 ⟨l, hl, hxl⟩)
    · simp at hxl
      subst hxl
      rcases hg with hg | hg
      · exact .inl (hsub _ hg)
      · exact .inr (by omega)

theorem PAt.turnOut (h : PAt w pb a P) (hk : Kept a.outF w w1) {g' o' cap' : Nat} {L : List ByteArray} (hr : RowAt w1 9 1 g' o' cap' L.length (L.map Value.string)) (hg : g' ∈ a.outF ∨ g' = w.heap.size) :
    PAt (w1.setCell ⟨pb, 6, none⟩ (.slice (some ⟨g', o', none⟩) L.length cap')) pb { a with ov := .slice (some ⟨g', o', none⟩) L.length cap', outF := [g'] } { P with out := L } ∧ Kept (a.fps pb).flatten w (w1.setCell ⟨pb, 6, none⟩ (.slice (some ⟨g', o', none⟩) L.length cap')) ∧
      ∀ x ∈ (Ptr.fps pb { a with ov := .slice (some ⟨g', o', none⟩) L.length cap', outF := [g'] }).flatten, x ∈ (a.fps pb).flatten ∨ w.heap.size ≤ x := by
  have S := h.sep
  have d0 := S.at (i := 0) (j := 3) (l := [pb]) (m := a.outF) rfl rfl (by decide)
  have d1 := S.at (i := 1) (j := 3) (l := [a.mb, a.mm, a.mg]) (m := a.outF) rfl rfl (by decide)
  have d2 := S.at (i := 2) (j := 3) (l := [a.ob, a.om, a.og]) (m := a.outF) rfl rfl (by decide)
  have d4 := S.at (i := 4) (j := 3) (l := a.evF) (m := a.outF) rfl rfl (by decide)
  have d5 := S.at (i := 5) (j := 3) (l := a.foF) (m := a.outF) rfl rfl (by decide)
  have d6 := S.at (i := 6) (j := 3) (l := [a.vo]) (m := a.outF) rfl rfl (by decide)
  have d7 := S.at (i := 7) (j := 3) (l := a.ftF) (m := a.outF) rfl rfl (by decide)
  have d8 := S.at (i := 8) (j := 3) (l := [a.vt]) (m := a.outF) rfl rfl (by decide)
  have hpg : pb ≠ g' := by
    rcases hg with hg | hg
    · rintro rfl; exact d0 pb (by simp) hg
    · have := h.lt; omega
  have hfp : Ptr.fps pb { a with ov := .slice (some ⟨g', o', none⟩) L.length cap', outF := [g'] } = (a.fps pb).set 3 [g'] := rfl
  have hsub : ∀ x ∈ a.outF, x ∈ (a.fps pb).flatten := fun x hx => List.mem_flatten.2 ⟨a.outF, by simp [Ptr.fps], hx⟩
  have hk2 := Kept.setCell w1 pb 6 (.slice (some ⟨g', o', none⟩) L.length cap')
  have hd := h.apart
  have nn : ∀ {x : Nat}, x ≠ pb → x ∉ [pb] := fun hx => by simpa using hx
  have bb : ∀ {x : Nat}, (x ∈ a.outF → False) → x ≠ pb → x ∉ a.outF ∧ x ∉ [pb] := fun h1 h2 => ⟨h1, by simpa using h2⟩
  obtain ⟨o1, c1, n1, q1⟩ := h.mine
  obtain ⟨o2, c2, q2⟩ := h.other
  have hm1 := h.ownV
  have hm2 := h.theirV
  have hcell : w1.heap[pb]? = some (.cells (P.cells a) 111 (0, 0)) := (hk.block pb h.lt (d0 pb (by simp))).trans h.cell
  have e1 := hd [a.mb, a.mm, a.mg] (by simp [Ptr.fps])
  have e2 := hd [a.ob, a.om, a.og] (by simp [Ptr.fps])
  have e3 := hd a.outF (by simp [Ptr.fps])
  have e4 := hd a.evF (by simp [Ptr.fps])
  have e5 := hd a.foF (by simp [Ptr.fps])
  have e6 := hd [a.vo] (by simp [Ptr.fps])
  have e7 := hd a.ftF (by simp [Ptr.fps])
  have e8 := hd [a.vt] (by simp [Ptr.fps])
  refine ⟨⟨by rw [heap_setCell_at hcell]; rfl, ⟨o1, c1, n1, (q1.kept hk (d1 _ (by simp)) (d1 _ (by simp)) (d1 _ (by simp))).kept hk2 (nn (e1 _ (by simp))) (nn (e1 _ (by simp))) (nn (e1 _ (by simp)))⟩,
    ⟨o2, c2, (q2.kept hk (d2 _ (by simp)) (d2 _ (by simp)) (d2 _ (by simp))).kept hk2 (nn (e2 _ (by simp))) (nn (e2 _ (by simp))) (nn (e2 _ (by simp)))⟩,
    (.inr ⟨g', o', cap', rfl, by simp, hr.kept hk2 (by simpa using Ne.symm hpg)⟩), (h.evs.kept hk d4).kept hk2 (fun x hx => nn (e4 x hx)), (h.own.kept hk d5).kept hk2 (fun x hx => nn (e5 x hx)), (hm1.kept hk (d6 _ (by simp))).kept hk2 (nn (e6 _ (by simp))), (h.their.kept hk d7).kept hk2 (fun x hx => nn (e7 x hx)), (hm2.kept hk (d8 _ (by simp))).kept hk2 (nn (e8 _ (by simp))), ?_, ?_⟩, (hk.mono (fun x hx => .inl (hsub x hx))).trans hk2 (fun x hx => .inl (by simp at hx; subst hx; exact List.mem_flatten.2 ⟨[x], by simp [Ptr.fps], by simp⟩)), ?_⟩
  · rw [hfp]
    refine S.set 3 [g'] w.heap.size h.small (fun x hx => ?_)
    simp at hx
    subst hx
    rcases hg with hg | hg
    · exact .inl ⟨a.outF, rfl, hg⟩
    · exact .inr (by omega)
  · rw [hfp]
    intro l hl x hx
    have s1 := hk.size
    have s2 := hk2.size
    rcases List.mem_or_eq_of_mem_set hl with hl | rfl
    · have := h.small l hl x hx; omega
    · simp at hx
      subst hx
      have := hr.lt; omega
  · rw [hfp]
    intro x hx
    obtain ⟨l, hl, hxl⟩ := List.mem_flatten.1 hx
    rcases List.mem_or_eq_of_mem_set hl with hl | rfl
    · exact .inl (List.mem_flatten.2 ⟨l, hl, hxl⟩)
    · simp at hxl
      subst hxl
      rcases hg with hg | hg
      · exact .inl (hsub _ hg)
      · exact .inr (by omega)

theorem PAt.turnOwn (h : PAt w pb a P) (hk : Kept a.foF w w1) {g' o' cap' : Nat} {L : List Int} (hr : RowAt w1 3 1 g' o' cap' L.length (L.map (Value.int .i64))) (hg : g' ∈ a.foF ∨ g' = w.heap.size) :
    PAt (w1.setCell ⟨pb, 27, none⟩ (.slice (some ⟨g', o', none⟩) L.length cap')) pb { a with fo := .slice (some ⟨g', o', none⟩) L.length cap', foF := [g'] } { P with own := L } ∧ Kept (a.fps pb).flatten w (w1.setCell ⟨pb, 27, none⟩ (.slice (some ⟨g', o', none⟩) L.length cap')) ∧
      ∀ x ∈ (Ptr.fps pb { a with fo := .slice (some ⟨g', o', none⟩) L.length cap', foF := [g'] }).flatten, x ∈ (a.fps pb).flatten ∨ w.heap.size ≤ x := by
  have S := h.sep
  have d0 := S.at (i := 0) (j := 5) (l := [pb]) (m := a.foF) rfl rfl (by decide)
  have d1 := S.at (i := 1) (j := 5) (l := [a.mb, a.mm, a.mg]) (m := a.foF) rfl rfl (by decide)
  have d2 := S.at (i := 2) (j := 5) (l := [a.ob, a.om, a.og]) (m := a.foF) rfl rfl (by decide)
  have d3 := S.at (i := 3) (j := 5) (l := a.outF) (m := a.foF) rfl rfl (by decide)
  have d4 := S.at (i := 4) (j := 5) (l := a.evF) (m := a.foF) rfl rfl (by decide)
  have d6 := S.at (i := 6) (j := 5) (l := [a.vo]) (m := a.foF) rfl rfl (by decide)
  have d7 := S.at (i := 7) (j := 5) (l := a.ftF) (m := a.foF) rfl rfl (by decide)
  have d8 := S.at (i := 8) (j := 5) (l := [a.vt]) (m := a.foF) rfl rfl (by decide)
  have hpg : pb ≠ g' := by
    rcases hg with hg | hg
    · rintro rfl; exact d0 pb (by simp) hg
    · have := h.lt; omega
  have hfp : Ptr.fps pb { a with fo := .slice (some ⟨g', o', none⟩) L.length cap', foF := [g'] } = (a.fps pb).set 5 [g'] := rfl
  have hsub : ∀ x ∈ a.foF, x ∈ (a.fps pb).flatten := fun x hx => List.mem_flatten.2 ⟨a.foF, by simp [Ptr.fps], hx⟩
  have hk2 := Kept.setCell w1 pb 27 (.slice (some ⟨g', o', none⟩) L.length cap')
  have hd := h.apart
  have nn : ∀ {x : Nat}, x ≠ pb → x ∉ [pb] := fun hx => by simpa using hx
  have bb : ∀ {x : Nat}, (x ∈ a.foF → False) → x ≠ pb → x ∉ a.foF ∧ x ∉ [pb] := fun h1 h2 => ⟨h1, by simpa using h2⟩
  obtain ⟨o1, c1, n1, q1⟩ := h.mine
  obtain ⟨o2, c2, q2⟩ := h.other
  have hm1 := h.ownV
  have hm2 := h.theirV
  have hcell : w1.heap[pb]? = some (.cells (P.cells a) 111 (0, 0)) := (hk.block pb h.lt (d0 pb (by simp))).trans h.cell
  have e1 := hd [a.mb, a.mm, a.mg] (by simp [Ptr.fps])
  have e2 := hd [a.ob, a.om, a.og] (by simp [Ptr.fps])
  have e3 := hd a.outF (by simp [Ptr.fps])
  have e4 := hd a.evF (by simp [Ptr.fps])
  have e5 := hd a.foF (by simp [Ptr.fps])
  have e6 := hd [a.vo] (by simp [Ptr.fps])
  have e7 := hd a.ftF (by simp [Ptr.fps])
  have e8 := hd [a.vt] (by simp [Ptr.fps])
  refine ⟨⟨by rw [heap_setCell_at hcell]; rfl, ⟨o1, c1, n1, (q1.kept hk (d1 _ (by simp)) (d1 _ (by simp)) (d1 _ (by simp))).kept hk2 (nn (e1 _ (by simp))) (nn (e1 _ (by simp))) (nn (e1 _ (by simp)))⟩,
    ⟨o2, c2, (q2.kept hk (d2 _ (by simp)) (d2 _ (by simp)) (d2 _ (by simp))).kept hk2 (nn (e2 _ (by simp))) (nn (e2 _ (by simp))) (nn (e2 _ (by simp)))⟩,
    (h.out.kept hk d3).kept hk2 (fun x hx => nn (e3 x hx)), (h.evs.kept hk d4).kept hk2 (fun x hx => nn (e4 x hx)), (.inr ⟨g', o', cap', rfl, by simp, hr.kept hk2 (by simpa using Ne.symm hpg)⟩), (hm1.kept hk (d6 _ (by simp))).kept hk2 (nn (e6 _ (by simp))), (h.their.kept hk d7).kept hk2 (fun x hx => nn (e7 x hx)), (hm2.kept hk (d8 _ (by simp))).kept hk2 (nn (e8 _ (by simp))), ?_, ?_⟩, (hk.mono (fun x hx => .inl (hsub x hx))).trans hk2 (fun x hx => .inl (by simp at hx; subst hx; exact List.mem_flatten.2 ⟨[x], by simp [Ptr.fps], by simp⟩)), ?_⟩
  · rw [hfp]
    refine S.set 5 [g'] w.heap.size h.small (fun x hx => ?_)
    simp at hx
    subst hx
    rcases hg with hg | hg
    · exact .inl ⟨a.foF, rfl, hg⟩
    · exact .inr (by omega)
  · rw [hfp]
    intro l hl x hx
    have s1 := hk.size
    have s2 := hk2.size
    rcases List.mem_or_eq_of_mem_set hl with hl | rfl
    · have := h.small l hl x hx; omega
    · simp at hx
      subst hx
      have := hr.lt; omega
  · rw [hfp]
    intro x hx
    obtain ⟨l, hl, hxl⟩ := List.mem_flatten.1 hx
    rcases List.mem_or_eq_of_mem_set hl with hl | rfl
    · exact .inl (List.mem_flatten.2 ⟨l, hl, hxl⟩)
    · simp at hxl
      subst hxl
      rcases hg with hg | hg
      · exact .inl (hsub _ hg)
      · exact .inr (by omega)

theorem PAt.turnTheir (h : PAt w pb a P) (hk : Kept a.ftF w w1) {g' o' cap' : Nat} {L : List Int} (hr : RowAt w1 3 1 g' o' cap' L.length (L.map (Value.int .i64))) (hg : g' ∈ a.ftF ∨ g' = w.heap.size) :
    PAt (w1.setCell ⟨pb, 29, none⟩ (.slice (some ⟨g', o', none⟩) L.length cap')) pb { a with ft := .slice (some ⟨g', o', none⟩) L.length cap', ftF := [g'] } { P with their := L } ∧ Kept (a.fps pb).flatten w (w1.setCell ⟨pb, 29, none⟩ (.slice (some ⟨g', o', none⟩) L.length cap')) ∧
      ∀ x ∈ (Ptr.fps pb { a with ft := .slice (some ⟨g', o', none⟩) L.length cap', ftF := [g'] }).flatten, x ∈ (a.fps pb).flatten ∨ w.heap.size ≤ x := by
  have S := h.sep
  have d0 := S.at (i := 0) (j := 7) (l := [pb]) (m := a.ftF) rfl rfl (by decide)
  have d1 := S.at (i := 1) (j := 7) (l := [a.mb, a.mm, a.mg]) (m := a.ftF) rfl rfl (by decide)
  have d2 := S.at (i := 2) (j := 7) (l := [a.ob, a.om, a.og]) (m := a.ftF) rfl rfl (by decide)
  have d3 := S.at (i := 3) (j := 7) (l := a.outF) (m := a.ftF) rfl rfl (by decide)
  have d4 := S.at (i := 4) (j := 7) (l := a.evF) (m := a.ftF) rfl rfl (by decide)
  have d5 := S.at (i := 5) (j := 7) (l := a.foF) (m := a.ftF) rfl rfl (by decide)
  have d6 := S.at (i := 6) (j := 7) (l := [a.vo]) (m := a.ftF) rfl rfl (by decide)
  have d8 := S.at (i := 8) (j := 7) (l := [a.vt]) (m := a.ftF) rfl rfl (by decide)
  have hpg : pb ≠ g' := by
    rcases hg with hg | hg
    · rintro rfl; exact d0 pb (by simp) hg
    · have := h.lt; omega
  have hfp : Ptr.fps pb { a with ft := .slice (some ⟨g', o', none⟩) L.length cap', ftF := [g'] } = (a.fps pb).set 7 [g'] := rfl
  have hsub : ∀ x ∈ a.ftF, x ∈ (a.fps pb).flatten := fun x hx => List.mem_flatten.2 ⟨a.ftF, by simp [Ptr.fps], hx⟩
  have hk2 := Kept.setCell w1 pb 29 (.slice (some ⟨g', o', none⟩) L.length cap')
  have hd := h.apart
  have nn : ∀ {x : Nat}, x ≠ pb → x ∉ [pb] := fun hx => by simpa using hx
  have bb : ∀ {x : Nat}, (x ∈ a.ftF → False) → x ≠ pb → x ∉ a.ftF ∧ x ∉ [pb] := fun h1 h2 => ⟨h1, by simpa using h2⟩
  obtain ⟨o1, c1, n1, q1⟩ := h.mine
  obtain ⟨o2, c2, q2⟩ := h.other
  have hm1 := h.ownV
  have hm2 := h.theirV
  have hcell : w1.heap[pb]? = some (.cells (P.cells a) 111 (0, 0)) := (hk.block pb h.lt (d0 pb (by simp))).trans h.cell
  have e1 := hd [a.mb, a.mm, a.mg] (by simp [Ptr.fps])
  have e2 := hd [a.ob, a.om, a.og] (by simp [Ptr.fps])
  have e3 := hd a.outF (by simp [Ptr.fps])
  have e4 := hd a.evF (by simp [Ptr.fps])
  have e5 := hd a.foF (by simp [Ptr.fps])
  have e6 := hd [a.vo] (by simp [Ptr.fps])
  have e7 := hd a.ftF (by simp [Ptr.fps])
  have e8 := hd [a.vt] (by simp [Ptr.fps])
  refine ⟨⟨by rw [heap_setCell_at hcell]; rfl, ⟨o1, c1, n1, (q1.kept hk (d1 _ (by simp)) (d1 _ (by simp)) (d1 _ (by simp))).kept hk2 (nn (e1 _ (by simp))) (nn (e1 _ (by simp))) (nn (e1 _ (by simp)))⟩,
    ⟨o2, c2, (q2.kept hk (d2 _ (by simp)) (d2 _ (by simp)) (d2 _ (by simp))).kept hk2 (nn (e2 _ (by simp))) (nn (e2 _ (by simp))) (nn (e2 _ (by simp)))⟩,
    (h.out.kept hk d3).kept hk2 (fun x hx => nn (e3 x hx)), (h.evs.kept hk d4).kept hk2 (fun x hx => nn (e4 x hx)), (h.own.kept hk d5).kept hk2 (fun x hx => nn (e5 x hx)), (hm1.kept hk (d6 _ (by simp))).kept hk2 (nn (e6 _ (by simp))), (.inr ⟨g', o', cap', rfl, by simp, hr.kept hk2 (by simpa using Ne.symm hpg)⟩), (hm2.kept hk (d8 _ (by simp))).kept hk2 (nn (e8 _ (by simp))), ?_, ?_⟩, (hk.mono (fun x hx => .inl (hsub x hx))).trans hk2 (fun x hx => .inl (by simp at hx; subst hx; exact List.mem_flatten.2 ⟨[x], by simp [Ptr.fps], by simp⟩)), ?_⟩
  · rw [hfp]
    refine S.set 7 [g'] w.heap.size h.small (fun x hx => ?_)
    simp at hx
    subst hx
    rcases hg with hg | hg
    · exact .inl ⟨a.ftF, rfl, hg⟩
    · exact .inr (by omega)
  · rw [hfp]
    intro l hl x hx
    have s1 := hk.size
    have s2 := hk2.size
    rcases List.mem_or_eq_of_mem_set hl with hl | rfl
    · have := h.small l hl x hx; omega
    · simp at hx
      subst hx
      have := hr.lt; omega
  · rw [hfp]
    intro x hx
    obtain ⟨l, hl, hxl⟩ := List.mem_flatten.1 hx
    rcases List.mem_or_eq_of_mem_set hl with hl | rfl
    · exact .inl (List.mem_flatten.2 ⟨l, hl, hxl⟩)
    · simp at hxl
      subst hxl
      rcases hg with hg | hg
      · exact .inl (hsub _ hg)
      · exact .inr (by omega)
end
end

section
open Go.RowKit Go.WideShapes
set_option linter.unusedSimpArgs false
attribute [local go_sem] max2_int min2_int max_two min_two

theorem info44 : (Tryz.prog.info? 44).map (fun i => (i.zero, i.size, i.bytes)) = some (some (.agg #[.int .i64 0, .int .i64 0]), 2, 16) := by kernel_rfl

/-- The less of two. -/
def mn (x y : Int) : Int := if y < x then y else x
def Side.confirmed (P : Side) : Int :=
  if 0 < P.other.wrong then mn (if P.phase = 3 then P.frame else mn P.frame P.other.last) (P.other.wrong - 1) else if P.phase = 3 then P.frame else mn P.frame P.other.last
def Side.agreed (P : Side) : Int := mn P.confirmed P.other.last

section
variable {w : World} {pb : Nat} {a : Ptr} {P : Side}
theorem PAt.c18 (h : PAt w pb a P) : w.cell? ⟨pb, 18, none⟩ = some (.pointer (some ⟨a.mb, 0, none⟩)) := h.at 18
theorem PAt.c19 (h : PAt w pb a P) : w.cell? ⟨pb, 19, none⟩ = some (.pointer (some ⟨a.ob, 0, none⟩)) := h.at 19
theorem PAt.c14 (h : PAt w pb a P) : w.cell? ⟨pb, 14, none⟩ = some (.int .i64 P.phase) := h.at 14
theorem PAt.c15 (h : PAt w pb a P) : w.cell? ⟨pb, 15, none⟩ = some (.int .i64 P.frame) := h.at 15

theorem olast_any (h : PAt w pb a P) (hok : P.other.ok) : Calls Tryz.prog 51 #[.pointer (some ⟨a.ob, 0, none⟩)] w (Reads w (.int .i64 P.other.last)) := by
  obtain ⟨o, c, q⟩ := h.other
  exact last_any q hok
theorem mlast_any (h : PAt w pb a P) (hok : P.mine.ok) : Calls Tryz.prog 51 #[.pointer (some ⟨a.mb, 0, none⟩)] w (Reads w (.int .i64 P.mine.last)) := by
  obtain ⟨o, c, n, q⟩ := h.mine
  exact last_any q hok
theorem owrong_any (h : PAt w pb a P) : Calls Tryz.prog 69 #[.pointer (some ⟨a.ob, 0, none⟩)] w (fun e w' => e = .returned (.int .i64 P.other.wrong) ∧ w = w') := by
  obtain ⟨o, c, q⟩ := h.other
  exact wrong_any q

set_option maxRecDepth 100000 in
theorem confirmed_any (h : PAt w pb a P) (hok : P.other.ok) (hw : P.other.wrong ≤ 4000000000) (hw0 : 0 ≤ P.other.wrong) : Calls Tryz.prog 23 #[.pointer (some ⟨pb, 0, none⟩)] w (Reads w (.int .i64 P.confirmed)) := by
  unfold Side.confirmed
  have LA := Lib.hid (olast_any h hok)
  have WR := Lib.hid (fun k => owrong_any (h.drewN k))
  have c14 := h.c14
  have c15 := h.c15
  have c19 := h.c19
  obtain ⟨L, hL⟩ : ∃ x, P.other.last = x := ⟨_, rfl⟩
  obtain ⟨W, hW⟩ : ∃ x, P.other.wrong = x := ⟨_, rfl⟩
  obtain ⟨ph, hph⟩ : ∃ x, P.phase = x := ⟨_, rfl⟩
  obtain ⟨fr, hfr⟩ : ∃ x, P.frame = x := ⟨_, rfl⟩
  rw [hL] at LA ⊢
  rw [hW] at WR hw hw0 ⊢
  rw [hph] at c14 ⊢
  rw [hfr] at c15 ⊢
  have ew : IntKind.i64.wrap (W - 1) = W - 1 := IntWalk.i64_in _ (by omega)
  have PH := Lib.hid (fun k => h.drewN k)
  clear h hok hL hW hph hfr
  have FIN : Hid (∀ x : Int, ∀ k : Nat, x = (if 0 < W then mn (if ph = 3 then fr else mn fr L) (W - 1) else if ph = 3 then fr else mn fr L) → Reads w (.int .i64 (if 0 < W then mn (if ph = 3 then fr else mn fr L) (W - 1) else if ph = 3 then fr else mn fr L)) (.returned (.int .i64 x)) (w.drewN k)) := Lib.hid (fun x k hx => by rw [hx]; exact ⟨rfl, k, rfl⟩)
  obtain ⟨R, hR⟩ : ∃ R, (if 0 < W then mn (if ph = 3 then fr else mn fr L) (W - 1) else if ph = 3 then fr else mn fr L) = R := ⟨_, rfl⟩
  rw [hR] at FIN ⊢
  by_cases h3 : ph = 3
  · subst h3
    rw [if_pos rfl] at hR
    by_cases hW0 : 0 < W
    · rw [if_pos hW0] at hR
      have HR := Lib.hid hR
      have t1 : decide (0 < W) = true := by simpa using hW0
      clear hR
      go_enter Tryz.func23, Tryz.ntmps23
      go_wp2_with fail
      refine (WR.out 0).mono ?_
      rintro e w1 ⟨rfl, rfl⟩
      go_wp2
      all_goals go_ret
      all_goals exact FIN.out _ 0 (by rw [← HR.out]; unfold mn; first | rfl | (rw [if_pos (by omega)]) | (rw [if_neg (by omega)]))
    · rw [if_neg hW0] at hR
      have HR := Lib.hid hR
      have t1 : decide (0 < W) = false := by simpa using hW0
      clear hR
      go_enter Tryz.func23, Tryz.ntmps23
      go_wp2_with fail
      refine (WR.out 0).mono ?_
      rintro e w1 ⟨rfl, rfl⟩
      go_wp2
      go_ret
      exact FIN.out _ 0 HR.out
  · rw [if_neg h3] at hR
    have t3 : (ph != 3) = true := by simpa using h3
    by_cases hW0 : 0 < W
    · rw [if_pos hW0] at hR
      have HR := Lib.hid hR
      have t1 : decide (0 < W) = true := by simpa using hW0
      clear hR
      go_enter Tryz.func23, Tryz.ntmps23
      go_wp2_with fail
      refine LA.out.mono ?_
      rintro e w1 ⟨rfl, k, rfl⟩
      have d19 := (PH.out k).c19
      go_wp2_with fail
      all_goals refine (WR.out k).mono ?_
      all_goals rintro e w1 ⟨rfl, rfl⟩
      all_goals go_wp2
      all_goals go_ret
      all_goals exact FIN.out _ k (by rw [← HR.out]; unfold mn; first | rfl | (repeat' split) <;> omega)
    · rw [if_neg hW0] at hR
      have HR := Lib.hid hR
      have t1 : decide (0 < W) = false := by simpa using hW0
      clear hR
      go_enter Tryz.func23, Tryz.ntmps23
      go_wp2_with fail
      refine LA.out.mono ?_
      rintro e w1 ⟨rfl, k, rfl⟩
      have d19 := (PH.out k).c19
      go_wp2_with fail
      all_goals refine (WR.out k).mono ?_
      all_goals rintro e w1 ⟨rfl, rfl⟩
      all_goals go_wp2
      all_goals go_ret
      all_goals exact FIN.out _ k (by rw [← HR.out]; unfold mn; first | rfl | (repeat' split) <;> omega)

theorem src_event (w : World) (x y : Int) : Src Tryz.prog 2 41 (.slice (some ⟨w.heap.size, 0, none⟩) 1 1) 1 [.int .i64 x, .int .i64 y] (w.alloc (.cells #[.int .i64 x, .int .i64 y] 44)) :=
  Src.ofSlice _ Tryz.underlying41 _ 1 1 _ rfl (fun j u hj => by
    rw [add_plain, World.cell?_alloc_new]
    match j, hj with
    | 0, hj => cases hj; rfl
    | 1, hj => cases hj; rfl
    | j + 2, hj => cases hj) (fun u hu => by simp at hu; rcases hu with rfl | rfl <;> rfl)

/-- Something happened. -/
theorem event_any (h : PAt w pb a P) (hl : P.ev.length ≤ 1000000) (k f : Int) : Calls Tryz.prog 114 #[.pointer (some ⟨pb, 6, none⟩), .int .i64 k, .int .i64 f] w (PDone w pb a { P with ev := P.ev ++ [(k, f)] } (.tuple #[])) := by
  obtain ⟨W, hW⟩ : ∃ W, W = w.alloc (.cells #[.int .i64 k, .int .i64 f] 44) := ⟨_, rfl⟩
  have BW : Below w.heap.size w W := by rw [hW]; exact (Below.refl _ _).alloc (Nat.le_refl _) _
  have hA := h.below BW
  have c7 : w.cell? ⟨pb, 7, none⟩ = some a.ev := h.at 7
  have HA := Lib.hid hA
  have BB := Lib.hid BW
  have ROW := Lib.hid hA.evs
  have sp := src_event w k f
  rw [← hW] at sp
  have HW := Lib.hid hW
  have HL := Lib.hid hl
  have FX : Hid (∀ w1, Kept a.evF W w1 → w1.cell? ⟨pb, 7, none⟩ = some a.ev ∧ w1.frozen? ⟨pb, 7, none⟩ = false) := Lib.hid (fun w1 hk => by
    have d0 := HA.out.sep.at (i := 0) (j := 4) (l := [pb]) (m := a.evF) rfl rfl (by decide)
    have hc := (hk.block pb HA.out.lt (d0 pb (by simp))).trans HA.out.cell
    exact ⟨by simp [World.cell?, hc, Side.cells], by simp [World.frozen?, hc]⟩)
  have EQ : Hid (evCells (P.ev ++ [(k, f)]) = evCells P.ev ++ [.int .i64 k, .int .i64 f] ∧ (P.ev ++ [(k, f)]).length = P.ev.length + 1) := Lib.hid ⟨by rw [evCells_append]; rfl, by simp⟩
  obtain ⟨evv, hevv⟩ : ∃ x, a.ev = x := ⟨_, rfl⟩
  rw [hevv] at c7 ROW FX
  clear h hA BW hl hevv
  go_enter Tryz.func114, Tryz.ntmps114
  go_wp2_with (first
    | (at_builtin; (try rw [← HW.out]); refine wpList_append_rown rfl _ _ 41 41 rfl 44 (.agg #[.int .i64 0, .int .i64 0]) 2 16 Tryz.underlying41 info44 rfl P.ev.length (evCells P.ev) rfl ROW.out _ rfl 1 [.int .i64 k, .int .i64 f] sp (by omega) (by have := HL.out; simp [maxLen]; omega) (by have := HL.out; omega) ?_; intro g1 o1 cap1 w1 hr1 hk1 hg1; have d1 := (FX.out _ hk1).1; have f1 := (FX.out _ hk1).2)
    | fail)
  go_end0
  have hr : RowAt w1 44 2 g1 o1 cap1 (P.ev ++ [(k, f)]).length (evCells (P.ev ++ [(k, f)])) := by rw [EQ.out.1, EQ.out.2]; exact hr1
  obtain ⟨t1, t2, t3⟩ := HA.out.turnEv hk1 hr hg1
  rw [EQ.out.2] at t1 t2 t3
  have s1 := BB.out.size
  exact ⟨rfl, _, t1, (Kept.of_below BB.out).trans t2 (fun x hx => .inl hx), fun x hx => (t3 x hx).imp id (fun h => by omega), rfl, rfl⟩
end
end

section
open Go.RowKit Go.WideShapes
set_option linter.unusedSimpArgs false
attribute [local go_sem] max2_int min2_int max_two min_two

section
variable {w : World} {pb : Nat} {a : Ptr} {P : Side}
theorem PDone.same (h : PAt w pb a P) (k : Nat) (v : Value) : PDone w pb a P v (.returned v) (w.drewN k) :=
  ⟨rfl, a, h.drewN k, Kept.drewN _ w k, fun _ hx => .inl hx, rfl, rfl⟩
theorem PDone.cell (h : PAt w pb a P) {k : Nat} (i : Nat) (x : Value) (v : Value) {P' : Side} (hP : PAt ((w.drewN k).setCell ⟨pb, i, none⟩ x) pb a P') : PDone w pb a P' v (.returned v) ((w.drewN k).setCell ⟨pb, i, none⟩ x) :=
  ⟨rfl, a, hP, (Kept.drewN _ w k).trans (Kept.setCell _ pb i x) (fun y hy => .inl (by simp at hy; subst hy; exact List.mem_flatten.2 ⟨[y], by simp [Ptr.fps], by simp⟩)), fun y hy => .inl hy, rfl, rfl⟩

/-- An ack is taken. -/
def Side.ack (P : Side) (n : Int) : Side := if P.acked < n ∧ n ≤ P.mine.last then { P with acked := n } else P
theorem ack_any (h : PAt w pb a P) (hok : P.mine.ok) (n : Int) : Calls Tryz.prog 59 #[.pointer (some ⟨pb, 0, none⟩), .int .i64 n] w (PDone w pb a (P.ack n) (.tuple #[])) := by
  unfold Side.ack
  have LA := Lib.hid (mlast_any h hok)
  have c24 : w.cell? ⟨pb, 24, none⟩ = some (.int .i64 P.acked) := h.at 24
  have c18 := h.c18
  have H := Lib.hid h
  have ff := fun k => (h.drewN k).f 24
  obtain ⟨L, hL⟩ : ∃ x, P.mine.last = x := ⟨_, rfl⟩
  obtain ⟨A, hA⟩ : ∃ x, P.acked = x := ⟨_, rfl⟩
  rw [hL] at LA ⊢
  rw [hA] at c24 ⊢
  have FS := Lib.hid (fun k => (H.out.drewN k).setCell 24 (.int .i64 n) (P' := { P with acked := n }) rfl rfl rfl rfl rfl rfl rfl rfl rfl rfl rfl rfl)
  clear h hok hL hA
  by_cases h1 : A < n
  · have t1 : decide (A < n) = true := by simpa using h1
    by_cases h2 : n ≤ L
    · rw [if_pos ⟨h1, h2⟩]
      have t2 : decide (n ≤ L) = true := by simpa using h2
      clear h1 h2
      go_enter Tryz.func59, Tryz.ntmps59
      go_wp2_with fail
      refine LA.out.mono ?_
      rintro e w1 ⟨rfl, k, rfl⟩
      have f2 := ff k
      have c2 := (H.out.drewN k).at 24
      go_wp2
      go_end0
      exact PDone.cell H.out 24 _ _ (FS.out k)
    · rw [if_neg (fun e => h2 e.2)]
      have t2 : decide (n ≤ L) = false := by simpa using h2
      clear h1 h2
      go_enter Tryz.func59, Tryz.ntmps59
      go_wp2_with fail
      refine LA.out.mono ?_
      rintro e w1 ⟨rfl, k, rfl⟩
      go_wp2
      go_end0
      exact PDone.same H.out k _
  · rw [if_neg (fun e => h1 e.1)]
    have t1 : decide (A < n) = false := by simpa using h1
    clear h1
    go_enter Tryz.func59, Tryz.ntmps59
    go_wp2
    go_end0
    exact PDone.same H.out 0 _

/-- A new nonce. -/
def Side.draw (P : Side) : Side := { P with seed := nextS P.seed, nonce := drawN P.seed 4294967296 }
theorem pdraw_any (h : PAt w pb a P) : Calls Tryz.prog 86 #[.pointer (some ⟨pb, 0, none⟩)] w (PDone w pb a P.draw (.tuple #[])) := by
  have c21 : w.cell? ⟨pb, 21, none⟩ = some (.int .i64 P.seed) := h.at 21
  have H := Lib.hid h
  have DR := Lib.hid (draw_any P.seed 4294967296 w (by decide))
  obtain ⟨s, hs⟩ : ∃ x, P.seed = x := ⟨_, rfl⟩
  have SS := Lib.hid hs
  rw [hs] at c21 DR
  clear h hs
  go_enter Tryz.func86, Tryz.ntmps86
  go_wp2_with fail
  refine DR.out.mono ?_
  rintro e w1 ⟨rfl, k, rfl⟩
  have f1 := (H.out.drewN k).f 21
  have d1 : (w.drewN k).cell? ⟨pb, 21, none⟩ = some (.int .i64 P.seed) := (H.out.drewN k).at 21
  have X1 := (H.out.drewN k).setCell 21 (.int .i64 (nextS s)) (P' := { P with seed := nextS s }) rfl rfl rfl rfl rfl rfl rfl rfl rfl rfl rfl rfl
  have f2 := X1.f 22
  have d2 : ((w.drewN k).setCell ⟨pb, 21, none⟩ (.int .i64 (nextS s))).cell? ⟨pb, 22, none⟩ = some (.int .i64 P.nonce) := X1.at 22
  have X2 := Lib.hid (X1.setCell 22 (.int .i64 (drawN s 4294967296)) (P' := { P with seed := nextS s, nonce := drawN s 4294967296 }) rfl rfl rfl rfl rfl rfl rfl rfl rfl rfl rfl rfl)
  clear X1
  go_wp2
  go_end0
  refine ⟨rfl, a, ?_, ((Kept.drewN _ w k).trans (Kept.setCell _ pb 21 _) ?_).trans (Kept.setCell _ pb 22 _) ?_, fun y hy => .inl hy, rfl, rfl⟩
  · unfold Side.draw
    rw [SS.out]
    exact X2.out
  all_goals
    intro y hy
    simp at hy
    subst hy
    exact .inl (List.mem_flatten.2 ⟨[y], by simp [Ptr.fps], by simp⟩)

/-- What goes out is handed over. -/
theorem out_any (h : PAt w pb a P) : Calls Tryz.prog 15 #[.pointer (some ⟨pb, 0, none⟩)] w fun e w' =>
    e = .returned a.ov ∧ PAt w' pb { a with ov := .slice none 0 0, outF := [] } { P with out := [] } ∧ RowN w' 9 1 a.outF a.ov P.out.length (P.out.map Value.string) ∧ Kept [pb] w w' := by
  have c6 : w.cell? ⟨pb, 6, none⟩ = some a.ov := h.at 6
  have f6 := h.f 6
  have hk := Kept.setCell w pb 6 (.slice none 0 0)
  have S := h.sep
  have d0 := S.at (i := 0) (j := 3) (l := [pb]) (m := a.outF) rfl rfl (by decide)
  have F : Hid (PAt (w.setCell ⟨pb, 6, none⟩ (.slice none 0 0)) pb { a with ov := .slice none 0 0, outF := [] } { P with out := [] } ∧ RowN (w.setCell ⟨pb, 6, none⟩ (.slice none 0 0)) 9 1 a.outF a.ov P.out.length (P.out.map Value.string) ∧ Kept [pb] w (w.setCell ⟨pb, 6, none⟩ (.slice none 0 0))) := Lib.hid (by
    have hd := h.apart
    have nn : ∀ {x : Nat}, x ≠ pb → x ∉ [pb] := fun hx => by simpa using hx
    have e1 := hd [a.mb, a.mm, a.mg] (by simp [Ptr.fps])
    have e2 := hd [a.ob, a.om, a.og] (by simp [Ptr.fps])
    have e3 := hd a.outF (by simp [Ptr.fps])
    have e4 := hd a.evF (by simp [Ptr.fps])
    have e5 := hd a.foF (by simp [Ptr.fps])
    have e6 := hd [a.vo] (by simp [Ptr.fps])
    have e7 := hd a.ftF (by simp [Ptr.fps])
    have e8 := hd [a.vt] (by simp [Ptr.fps])
    obtain ⟨o1, c1, n1, q1⟩ := h.mine
    obtain ⟨o2, c2, q2⟩ := h.other
    have hm1 := h.ownV
    have hm2 := h.theirV
    refine ⟨⟨by rw [heap_setCell_at h.cell]; rfl, ⟨o1, c1, n1, q1.kept hk (nn (e1 _ (by simp))) (nn (e1 _ (by simp))) (nn (e1 _ (by simp)))⟩, ⟨o2, c2, q2.kept hk (nn (e2 _ (by simp))) (nn (e2 _ (by simp))) (nn (e2 _ (by simp)))⟩,
      .inl ⟨rfl, rfl, rfl⟩, h.evs.kept hk (fun x hx => nn (e4 x hx)), h.own.kept hk (fun x hx => nn (e5 x hx)), hm1.kept hk (nn (e6 _ (by simp))), h.their.kept hk (fun x hx => nn (e7 x hx)), hm2.kept hk (nn (e8 _ (by simp))), ?_, ?_⟩, h.out.kept hk (fun x hx => nn (e3 x hx)), hk⟩
    · exact S.set 3 [] w.heap.size h.small (fun x hx => by cases hx)
    · intro l hl x hx
      have s1 := hk.size
      have hl' : l ∈ (a.fps pb).set 3 [] := hl
      rcases List.mem_or_eq_of_mem_set hl' with hl | rfl
      · have := h.small l hl x hx; omega
      · cases hx)
  obtain ⟨ov, hov⟩ : ∃ x, a.ov = x := ⟨_, rfl⟩
  rw [hov] at c6 F ⊢
  clear h S d0 hk hov
  go_enter Tryz.func15, Tryz.ntmps15
  go_wp2
  go_ret
  exact ⟨rfl, F.out⟩
end
end

section
open Go.RowKit Go.WideShapes
set_option linter.unusedSimpArgs false

/-- What a row of calls on a side leaves. -/
def PLeft (w : World) (pb : Nat) (a : Ptr) (P' : Side) (w' : World) : Prop :=
  ∃ a', PAt w' pb a' P' ∧ Kept (a.fps pb).flatten w w' ∧ (∀ x ∈ (a'.fps pb).flatten, x ∈ (a.fps pb).flatten ∨ w.heap.size ≤ x) ∧ a'.mb = a.mb ∧ a'.ob = a.ob
/-- The side lies far from what came in, which is as it was. -/
def Far (w0 w : World) (pb : Nat) (a : Ptr) : Prop := Below w0.heap.size w0 w ∧ ∀ x ∈ (a.fps pb).flatten, w0.heap.size ≤ x

section
variable {w w0 w1 w2 : World} {pb : Nat} {a a1 : Ptr} {P P1 P2 : Side}
theorem pb_mem (pb : Nat) (a : Ptr) : pb ∈ (a.fps pb).flatten := List.mem_flatten.2 ⟨[pb], by simp [Ptr.fps], by simp⟩
theorem PLeft.refl (h : PAt w pb a P) : PLeft w pb a P w := ⟨a, h, Kept.refl _ _, fun _ hx => .inl hx, rfl, rfl⟩
theorem PLeft.done {v : Value} {e : Ending} (he : e = .returned v) (h : PLeft w pb a P w1) : PDone w pb a P v e w1 := ⟨he, h⟩
theorem Far.left (hf : Far w0 w pb a) (h2 : Kept (a.fps pb).flatten w w1) (h3 : ∀ x ∈ (a1.fps pb).flatten, x ∈ (a.fps pb).flatten ∨ w.heap.size ≤ x) : Far w0 w1 pb a1 := by
  refine ⟨below_kept hf.1 h2 hf.2 (Nat.le_refl _), fun x hx => ?_⟩
  rcases h3 x hx with h | h
  · exact hf.2 x h
  · have := hf.1.size; omega
theorem Far.below (hf : Far w0 w pb a) (hb : Below w.heap.size w w1) : Far w0 w1 pb a := ⟨hf.1.trans (hb.mono hf.1.size), hf.2⟩
theorem PLeft.step {f : FuncId} {args : Array Value} {v : Value} (h : PLeft w pb a P1 w1) (hc : ∀ a1, PAt w1 pb a1 P1 → a1.mb = a.mb → a1.ob = a.ob → (∀ w0, Far w0 w pb a → Far w0 w1 pb a1) → Calls Tryz.prog f args w1 (PDone w1 pb a1 P2 v)) :
    Calls Tryz.prog f args w1 fun e w2 => e = .returned v ∧ PLeft w pb a P2 w2 := by
  obtain ⟨a1, h1, h2, h3, h4, h5⟩ := h
  have s := h2.size
  refine (hc a1 h1 h4 h5 (fun w0 hf => hf.left h2 h3)).mono ?_
  rintro e w2 ⟨rfl, a2, k1, k2, k3, k4, k5⟩
  refine ⟨rfl, a2, k1, h2.trans k2 h3, fun x hx => ?_, k4.trans h4, k5.trans h5⟩
  rcases k3 x hx with h | h
  · exact h3 x h
  · exact .inr (by omega)
theorem PLeft.below (h : PLeft w pb a P w1) (hb : Below w1.heap.size w1 w2) : PLeft w pb a P w2 := by
  obtain ⟨a1, h1, h2, h3, h4, h5⟩ := h
  exact ⟨a1, h1.below hb, h2.trans (Kept.of_below (fp := []) hb) (by simp), h3, h4, h5⟩
theorem PLeft.bel (h : PLeft w pb a P w1) (hf : Far w0 w pb a) : Below w0.heap.size w0 w1 := by
  obtain ⟨a1, h1, h2, h3, h4, h5⟩ := h
  exact (hf.left h2 h3).1
theorem PLeft.drewN (h : PLeft w pb a P w1) (k : Nat) : PLeft w pb a P (w1.drewN k) := h.below ⟨rfl, rfl, rfl, Nat.le_refl _, fun _ _ => rfl⟩
theorem PLeft.c (h : PLeft w pb a P w1) (i : Nat) (v : Value) (hv : ∀ a1, a1.mb = a.mb → a1.ob = a.ob → (P.cells a1)[i]? = some v) : w1.cell? ⟨pb, i, none⟩ = some v := by
  obtain ⟨a1, h1, h2, h3, h4, h5⟩ := h
  rw [h1.at]
  exact hv a1 h4 h5
theorem PLeft.f (h : PLeft w pb a P w1) (i : Nat) : w1.frozen? ⟨pb, i, none⟩ = false := by
  obtain ⟨a1, h1, h2, h3, h4, h5⟩ := h
  exact h1.f i
theorem PLeft.set (h : PLeft w pb a P w1) (i : Nat) (v : Value) {P' : Side} (hc : ∀ a1, (P.cells a1).setIfInBounds i v = P'.cells a1) (hm : P'.mine = P.mine) (ho : P'.other = P.other) (h1 : P'.out = P.out) (h2 : P'.ev = P.ev) (h3 : P'.own = P.own) (h4 : P'.ownV = P.ownV) (h5 : P'.their = P.their) (h6 : P'.theirV = P.theirV) (h7 : P'.gn = P.gn) (h8 : P'.on = P.on) (h9 : P'.tn = P.tn) : PLeft w pb a P' (w1.setCell ⟨pb, i, none⟩ v) := by
  obtain ⟨a1, k1, k2, k3, k4, k5⟩ := h
  refine ⟨a1, k1.setCell i v (hc a1) hm ho h1 h2 h3 h4 h5 h6 h7 h8 h9, k2.trans (Kept.setCell w1 pb i v) (fun x hx => ?_), k3, k4, k5⟩
  simp at hx
  subst hx
  exact k3 _ (pb_mem _ _)

/-- The queue of its own inputs is turned. -/
theorem PAt.turnMine (h : PAt w pb a P) (hk : Kept [a.mb, a.mm, a.mg] w w1) {g' o' cap' n' : Nat} {q' : Que} (q : QAt w1 a.mb a.mm g' o' cap' n' q') (hg : g' = a.mg ∨ w.heap.size ≤ g') : PLeft w pb a { P with mine := q' } w1 := by
  have S := h.sep
  have d0 := S.at (i := 0) (j := 1) (l := [pb]) (m := [a.mb, a.mm, a.mg]) rfl rfl (by decide)
  have d2 := S.at (i := 2) (j := 1) (l := [a.ob, a.om, a.og]) (m := [a.mb, a.mm, a.mg]) rfl rfl (by decide)
  have d3 := S.at (i := 3) (j := 1) (l := a.outF) (m := [a.mb, a.mm, a.mg]) rfl rfl (by decide)
  have d4 := S.at (i := 4) (j := 1) (l := a.evF) (m := [a.mb, a.mm, a.mg]) rfl rfl (by decide)
  have d5 := S.at (i := 5) (j := 1) (l := a.foF) (m := [a.mb, a.mm, a.mg]) rfl rfl (by decide)
  have d6 := S.at (i := 6) (j := 1) (l := [a.vo]) (m := [a.mb, a.mm, a.mg]) rfl rfl (by decide)
  have d7 := S.at (i := 7) (j := 1) (l := a.ftF) (m := [a.mb, a.mm, a.mg]) rfl rfl (by decide)
  have d8 := S.at (i := 8) (j := 1) (l := [a.vt]) (m := [a.mb, a.mm, a.mg]) rfl rfl (by decide)
  obtain ⟨o1, c1, n1, q1⟩ := h.mine
  obtain ⟨o2, c2, q2⟩ := h.other
  have hm1 := h.ownV
  have hm2 := h.theirV
  have hcell : w1.heap[pb]? = some (.cells (P.cells a) 111 (0, 0)) := (hk.block pb h.lt (d0 pb (by simp))).trans h.cell
  have hfp : Ptr.fps pb { a with mg := g' } = (a.fps pb).set 1 [a.mb, a.mm, g'] := rfl
  have hsub : ∀ x ∈ [a.mb, a.mm, a.mg], x ∈ (a.fps pb).flatten := fun x hx => List.mem_flatten.2 ⟨[a.mb, a.mm, a.mg], by simp [Ptr.fps], hx⟩
  refine ⟨{ a with mg := g' }, ⟨hcell, ⟨_, _, _, q⟩, ⟨o2, c2, q2.kept hk (d2 _ (by simp)) (d2 _ (by simp)) (d2 _ (by simp))⟩, h.out.kept hk d3, h.evs.kept hk d4, h.own.kept hk d5, hm1.kept hk (d6 _ (by simp)), h.their.kept hk d7, hm2.kept hk (d8 _ (by simp)), ?_, ?_⟩, hk.mono (fun x hx => .inl (hsub x hx)), ?_, rfl, rfl⟩
  · rw [hfp]
    refine S.set 1 _ w.heap.size h.small (fun x hx => ?_)
    simp at hx
    rcases hx with rfl | rfl | rfl
    · exact .inl ⟨[a.mb, a.mm, a.mg], rfl, by simp⟩
    · exact .inl ⟨[a.mb, a.mm, a.mg], rfl, by simp⟩
    · rcases hg with rfl | hg
      · exact .inl ⟨[a.mb, a.mm, a.mg], rfl, by simp⟩
      · exact .inr hg
  · rw [hfp]
    intro l hl x hx
    have s1 := hk.size
    rcases List.mem_or_eq_of_mem_set hl with hl | rfl
    · have := h.small l hl x hx; omega
    · simp at hx
      rcases hx with rfl | rfl | rfl
      · exact q.lt
      · exact q.map.lt
      · exact q.row.lt
  · rw [hfp]
    intro x hx
    obtain ⟨l, hl, hxl⟩ := List.mem_flatten.1 hx
    rcases List.mem_or_eq_of_mem_set hl with hl | rfl
    · exact .inl (List.mem_flatten.2 ⟨l, hl, hxl⟩)
    · simp at hxl
      rcases hxl with rfl | rfl | rfl
      · exact .inl (hsub _ (by simp))
      · exact .inl (hsub _ (by simp))
      · rcases hg with rfl | hg
        · exact .inl (hsub _ (by simp))
        · exact .inr hg

/-- The queue of the other's inputs is turned. -/
theorem PAt.turnOther (h : PAt w pb a P) (hk : Kept [a.ob, a.om, a.og] w w1) {g' o' cap' n' : Nat} {q' : Que} (q : QAt w1 a.ob a.om g' o' cap' n' q') (hg : g' = a.og ∨ w.heap.size ≤ g') : PLeft w pb a { P with other := q', gn := n' } w1 := by
  have S := h.sep
  have d0 := S.at (i := 0) (j := 2) (l := [pb]) (m := [a.ob, a.om, a.og]) rfl rfl (by decide)
  have d1 := S.at (i := 1) (j := 2) (l := [a.mb, a.mm, a.mg]) (m := [a.ob, a.om, a.og]) rfl rfl (by decide)
  have d3 := S.at (i := 3) (j := 2) (l := a.outF) (m := [a.ob, a.om, a.og]) rfl rfl (by decide)
  have d4 := S.at (i := 4) (j := 2) (l := a.evF) (m := [a.ob, a.om, a.og]) rfl rfl (by decide)
  have d5 := S.at (i := 5) (j := 2) (l := a.foF) (m := [a.ob, a.om, a.og]) rfl rfl (by decide)
  have d6 := S.at (i := 6) (j := 2) (l := [a.vo]) (m := [a.ob, a.om, a.og]) rfl rfl (by decide)
  have d7 := S.at (i := 7) (j := 2) (l := a.ftF) (m := [a.ob, a.om, a.og]) rfl rfl (by decide)
  have d8 := S.at (i := 8) (j := 2) (l := [a.vt]) (m := [a.ob, a.om, a.og]) rfl rfl (by decide)
  obtain ⟨o1, c1, n1, q1⟩ := h.mine
  obtain ⟨o2, c2, q2⟩ := h.other
  have hm1 := h.ownV
  have hm2 := h.theirV
  have hcell : w1.heap[pb]? = some (.cells (P.cells a) 111 (0, 0)) := (hk.block pb h.lt (d0 pb (by simp))).trans h.cell
  have hfp : Ptr.fps pb { a with og := g' } = (a.fps pb).set 2 [a.ob, a.om, g'] := rfl
  have hsub : ∀ x ∈ [a.ob, a.om, a.og], x ∈ (a.fps pb).flatten := fun x hx => List.mem_flatten.2 ⟨[a.ob, a.om, a.og], by simp [Ptr.fps], hx⟩
  refine ⟨{ a with og := g' }, ⟨hcell, ⟨o1, c1, n1, q1.kept hk (d1 _ (by simp)) (d1 _ (by simp)) (d1 _ (by simp))⟩, ⟨_, _, q⟩, h.out.kept hk d3, h.evs.kept hk d4, h.own.kept hk d5, hm1.kept hk (d6 _ (by simp)), h.their.kept hk d7, hm2.kept hk (d8 _ (by simp)), ?_, ?_⟩, hk.mono (fun x hx => .inl (hsub x hx)), ?_, rfl, rfl⟩
  · rw [hfp]
    refine S.set 2 _ w.heap.size h.small (fun x hx => ?_)
    simp at hx
    rcases hx with rfl | rfl | rfl
    · exact .inl ⟨[a.ob, a.om, a.og], rfl, by simp⟩
    · exact .inl ⟨[a.ob, a.om, a.og], rfl, by simp⟩
    · rcases hg with rfl | hg
      · exact .inl ⟨[a.ob, a.om, a.og], rfl, by simp⟩
      · exact .inr hg
  · rw [hfp]
    intro l hl x hx
    have s1 := hk.size
    rcases List.mem_or_eq_of_mem_set hl with hl | rfl
    · have := h.small l hl x hx; omega
    · simp at hx
      rcases hx with rfl | rfl | rfl
      · exact q.lt
      · exact q.map.lt
      · exact q.row.lt
  · rw [hfp]
    intro x hx
    obtain ⟨l, hl, hxl⟩ := List.mem_flatten.1 hx
    rcases List.mem_or_eq_of_mem_set hl with hl | rfl
    · exact .inl (List.mem_flatten.2 ⟨l, hl, hxl⟩)
    · simp at hxl
      rcases hxl with rfl | rfl | rfl
      · exact .inl (hsub _ (by simp))
      · exact .inl (hsub _ (by simp))
      · rcases hg with rfl | hg
        · exact .inl (hsub _ (by simp))
        · exact .inr hg

/-! The queues' methods, at the side -/
theorem mput_any (h : PAt w pb a P) (hok : P.mine.ok) (f x : Int) (he : P.mine.err f x = none) : Calls Tryz.prog 78 #[.pointer (some ⟨a.mb, 0, none⟩), .int .i64 f, .int .i64 x] w (PDone w pb a { P with mine := P.mine.put f x } .nilIface) := by
  obtain ⟨o, c, n, q⟩ := h.mine
  refine (put_ok q hok f x he).mono ?_
  rintro e w' ⟨rfl, g', o', c', q', hk, hg⟩
  exact ⟨rfl, h.turnMine hk q' hg⟩
theorem oput_any (h : PAt w pb a P) (hok : P.other.ok) (f x : Int) (he : P.other.err f x = none) : Calls Tryz.prog 78 #[.pointer (some ⟨a.ob, 0, none⟩), .int .i64 f, .int .i64 x] w (PDone w pb a { P with other := P.other.put f x } .nilIface) := by
  obtain ⟨o, c, q⟩ := h.other
  refine (put_ok q hok f x he).mono ?_
  rintro e w' ⟨rfl, g', o', c', q', hk, hg⟩
  exact ⟨rfl, h.turnOther hk q' hg⟩
theorem mget_any (h : PAt w pb a P) (hok : P.mine.ok) (f : Int) : Calls Tryz.prog 82 #[.pointer (some ⟨a.mb, 0, none⟩), .int .i64 f] w (Reads w (.tuple #[.int .i64 (P.mine.get f).1, .bool (P.mine.get f).2])) := by
  obtain ⟨o, c, n, q⟩ := h.mine
  exact get_any q hok f
theorem oget_any (h : PAt w pb a P) (hok : P.other.ok) (f : Int) : Calls Tryz.prog 82 #[.pointer (some ⟨a.ob, 0, none⟩), .int .i64 f] w (Reads w (.tuple #[.int .i64 (P.other.get f).1, .bool (P.other.get f).2])) := by
  obtain ⟨o, c, q⟩ := h.other
  exact get_any q hok f
theorem ouse_any (h : PAt w pb a P) (hok : P.other.ok) (hn : P.gn < 1000000) (f : Int) (hf : (Lit.int .i64 f).wf = true) (hx : (Lit.int .i64 (P.other.get f).1).wf = true) : Calls Tryz.prog 155 #[.pointer (some ⟨a.ob, 0, none⟩), .int .i64 f] w (PDone w pb a { P with other := P.other.use f, gn := P.gn + 1 } (.tuple #[.int .i64 (P.other.get f).1, .bool (P.other.get f).2])) := by
  obtain ⟨o, c, q⟩ := h.other
  refine (use_any q hok hn f hf hx).mono ?_
  rintro e w' ⟨rfl, q', hk⟩
  exact ⟨rfl, h.turnOther (hk.mono (fun y hy => .inl (by simp at hy; simp [hy]))) q' (.inl rfl)⟩
theorem oright_any (h : PAt w pb a P) : Calls Tryz.prog 131 #[.pointer (some ⟨a.ob, 0, none⟩)] w (PDone w pb a { P with other := P.other.right, gn := 0 } (.tuple #[])) := by
  obtain ⟨o, c, q⟩ := h.other
  refine (right_any q).mono ?_
  rintro e w' ⟨rfl, q', hk⟩
  exact ⟨rfl, h.turnOther (hk.mono (fun y hy => .inl (by simp at hy; rcases hy with rfl | rfl <;> simp))) q' (.inl rfl)⟩

/-- What a queue is behind Forget. -/
def Que.fgt (q : Que) (f : Int) : Que := if q.first < f ∧ 0 < q.xs.length then q.forget (if (q.xs.length : Int) - 1 < f - q.first then (q.xs.length : Int) - 1 else f - q.first).toNat else q
theorem fgt_any {qb m g o cap n : Nat} {q : Que} (h : QAt w qb m g o cap n q) (hok : q.ok) (f : Int) (hf2 : f ≤ 9223372036854775807) : Calls Tryz.prog 132 #[.pointer (some ⟨qb, 0, none⟩), .int .i64 f] w (DoneF w qb m g n (q.fgt f)) := by
  unfold Que.fgt
  by_cases h1 : q.first < f ∧ 0 < q.xs.length
  · rw [if_pos h1]
    exact forget_some h hok f h1.1 hf2 h1.2 _ (by split <;> omega)
  · rw [if_neg h1]
    exact forget_none h f (by omega)
theorem mforget_any (h : PAt w pb a P) (hok : P.mine.ok) (f : Int) (hf2 : f ≤ 9223372036854775807) : Calls Tryz.prog 132 #[.pointer (some ⟨a.mb, 0, none⟩), .int .i64 f] w (PDone w pb a { P with mine := P.mine.fgt f } (.tuple #[])) := by
  obtain ⟨o, c, n, q⟩ := h.mine
  refine (fgt_any q hok f hf2).mono ?_
  rintro e w' ⟨rfl, o', c', q', hk⟩
  exact ⟨rfl, h.turnMine (hk.mono (fun y hy => .inl (by simp at hy; simp [hy]))) q' (.inl rfl)⟩
theorem oforget_any (h : PAt w pb a P) (hok : P.other.ok) (f : Int) (hf2 : f ≤ 9223372036854775807) : Calls Tryz.prog 132 #[.pointer (some ⟨a.ob, 0, none⟩), .int .i64 f] w (PDone w pb a { P with other := P.other.fgt f } (.tuple #[])) := by
  obtain ⟨o, c, q⟩ := h.other
  refine (fgt_any q hok f hf2).mono ?_
  rintro e w' ⟨rfl, o', c', q', hk⟩
  exact ⟨rfl, h.turnOther (hk.mono (fun y hy => .inl (by simp at hy; simp [hy]))) q' (.inl rfl)⟩

/-- What List lists from f on. -/
def Que.list (q : Que) (f : Int) : List Int := q.xs.drop (if (q.xs.length : Int) < (if f < q.first then q.first else f) - q.first then (q.xs.length : Int) else (if f < q.first then q.first else f) - q.first).toNat
theorem mlist_any (h : PAt w pb a P) (hok : P.mine.ok) (f : Int) (hf2 : f ≤ 9223372036854775807) : Calls Tryz.prog 128 #[.pointer (some ⟨a.mb, 0, none⟩), .int .i64 f] w (Cloned w ((P.mine.list f).map (Value.int .i64))) := by
  obtain ⟨o, c, n, q⟩ := h.mine
  unfold Que.list
  rw [List.map_drop]
  exact list_any q hok f hf2 _ (by repeat' split <;> omega)
end
end

end Go.Proofs.YtpidjmgapiekaaaGreatDoor
