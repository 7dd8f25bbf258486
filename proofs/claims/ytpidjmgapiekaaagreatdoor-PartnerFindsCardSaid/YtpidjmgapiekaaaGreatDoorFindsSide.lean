/- This text plays two sides that find each other, in plain Lean. -/
import Derived.Test.YtpidjmgapiekaaaGreatDoorDice
import Derived.Test.YtpidjmgapiekaaaGreatDoorSmall
import Derived.Test.YtpidjmgapiekaaaGreatDoorHear
namespace Go.Proofs.YtpidjmgapiekaaaGreatDoor
section
open Go.RowKit

/-- What of a side matters before anything is played; its packets as kind and number. -/
structure Mini where
  now : Int
  synced : Bool
  syncAt : Int
  sent : Int
  heard : Int
  phase : Int
  seed : Int
  nonce : Int
  rounds : Int
  out : List (Int × Int)
  ev : List (Int × Int)
deriving DecidableEq

def Mini.send (m : Mini) (k n : Int) : Mini := { m with out := m.out ++ [(k, n)], sent := m.now }
def Mini.sendSync (m : Mini) : Mini := { m.send 1 m.nonce with synced := true, syncAt := m.now }
def Mini.tick (r : Int) (m : Mini) : Mini :=
  let m := { m with now := m.now + 1 }
  if m.phase = 1 then (if m.synced = false ∨ r ≤ m.now - m.syncAt then m.sendSync else m)
  else if m.phase = 2 then (if r ≤ m.now - m.sent then m.send 5 0 else m) else m
def Mini.answered (s : Int) (m : Mini) (n : Int) : Mini :=
  if m.phase ≠ 1 ∨ n ≠ m.nonce then m
  else if s ≤ m.rounds + 1 then { m with rounds := m.rounds + 1, phase := 2, ev := m.ev ++ [(1, 0)] }
  else { m with rounds := m.rounds + 1, seed := nextS m.seed, nonce := drawN m.seed 4294967296 }.sendSync
def Mini.hear (s : Int) (m : Mini) (x : Int × Int) : Mini :=
  let m := { m with heard := m.now }
  if x.1 = 1 then m.send 2 x.2 else if x.1 = 2 then m.answered s x.2 else m
def Mini.hears (s : Int) (m : Mini) (l : List (Int × Int)) : Mini := l.foldl (Mini.hear s) m
def Mini.new (seed : Int) : Mini := ⟨0, false, 0, 0, 0, 1, nextS seed, drawN seed 4294967296, 0, [], []⟩

/-- Both sides, behind a turn: 0 a tick, 1 and 3 to the second one, 2 and 4 to the first one. -/
def turnM (s r : Int) (i : Nat) (p : Mini × Mini) : Mini × Mini :=
  if i % 5 = 0 then (p.1.tick r, p.2.tick r)
  else if i % 5 = 1 ∨ i % 5 = 3 then ({ p.1 with out := [] }, p.2.hears s p.1.out)
  else (p.1.hears s p.2.out, { p.2 with out := [] })
def runM (s r : Int) : Nat → Mini × Mini
  | 0 => (Mini.new 1, Mini.new 2)
  | i + 1 => turnM s r i (runM s r i)

/-- Not silent for too long. -/
def loudM (r : Int) (m : Mini) : Bool := decide (m.phase = 2 → m.now + 1 - m.heard < r + 1)
/-- Small enough. -/
def fineM (m : Mini) : Bool :=
  decide (0 ≤ m.now ∧ m.now ≤ 1000 ∧ 0 ≤ m.syncAt ∧ m.syncAt ≤ 1000 ∧ 0 ≤ m.sent ∧ m.sent ≤ 1000 ∧ 0 ≤ m.heard ∧ m.heard ≤ 1000 ∧ (m.phase = 1 ∨ m.phase = 2) ∧ 0 ≤ m.rounds ∧ m.rounds ≤ 100 ∧ 0 ≤ m.nonce ∧ m.nonce ≤ 4294967295 ∧ m.out.length ≤ 20 ∧ m.ev.length ≤ 5) &&
  m.out.all fun x => decide ((x.1 = 1 ∨ x.1 = 2 ∨ x.1 = 5) ∧ 0 ≤ x.2 ∧ x.2 ≤ 4294967295)
def hearsOk (s : Int) : Mini → List (Int × Int) → Bool
  | m, [] => fineM m
  | m, x :: t => fineM m && hearsOk s (m.hear s x) t
def goM (s r : Int) : Nat → Nat → Mini × Mini → Bool
  | 0, _, p => fineM p.1 && fineM p.2
  | n + 1, i, p => fineM p.1 && fineM p.2 && (if i % 5 = 0 then loudM r p.1 && loudM r p.2 else if i % 5 = 1 ∨ i % 5 = 3 then hearsOk s p.2 p.1.out else hearsOk s p.1 p.2.out) && goM s r n (i + 1) (turnM s r i p)
/-- How it ends. -/
def endM (p : Mini × Mini) : Bool := decide (p.1.phase = 2 ∧ p.2.phase = 2 ∧ p.1.ev = [(1, 0)] ∧ p.2.ev = [(1, 0)])


theorem all_go : ∀ s ∈ [1, 2, 3, 4, 5], ∀ r ∈ [1, 2, 3, 4, 5, 6, 7, 8, 9], goM s r (5 * (s.toNat + 2)) 0 (runM s r 0) = true ∧ endM (runM s r (5 * (s.toNat + 2))) = true := by decide +kernel

theorem hearsOk_take (s : Int) : ∀ (l : List (Int × Int)) (m : Mini), hearsOk s m l = true → ∀ k, fineM (m.hears s (l.take k)) = true
  | [], m, h, k => by
    rw [List.take_nil]
    exact h
  | x :: t, m, h, k => by
    unfold hearsOk at h
    rw [Bool.and_eq_true] at h
    cases k with
    | zero => exact h.1
    | succ k => exact hearsOk_take s t (m.hear s x) h.2 k
theorem go_all (s r : Int) : ∀ (n i : Nat), goM s r n i (runM s r i) = true → ∀ j, i ≤ j → j ≤ i + n →
    (fineM (runM s r j).1 = true ∧ fineM (runM s r j).2 = true) ∧ (j < i + n → (j % 5 = 0 → loudM r (runM s r j).1 = true ∧ loudM r (runM s r j).2 = true) ∧ (j % 5 = 1 ∨ j % 5 = 3 → hearsOk s (runM s r j).2 (runM s r j).1.out = true) ∧
      (¬ j % 5 = 0 → ¬ (j % 5 = 1 ∨ j % 5 = 3) → hearsOk s (runM s r j).1 (runM s r j).2.out = true))
  | 0, i, h, j, h1, h2 => by
    obtain rfl : j = i := by omega
    unfold goM at h
    rw [Bool.and_eq_true] at h
    exact ⟨h, fun h => by omega⟩
  | n + 1, i, h, j, h1, h2 => by
    unfold goM at h
    rw [Bool.and_eq_true, Bool.and_eq_true, Bool.and_eq_true] at h
    by_cases e : j = i
    · subst e
      refine ⟨h.1.1, fun _ => ⟨fun h0 => ?_, fun h3 => ?_, fun h0 h3 => ?_⟩⟩
      · have := h.1.2
        rw [if_pos h0, Bool.and_eq_true] at this
        exact this
      · have := h.1.2
        rw [if_neg (by omega), if_pos h3] at this
        exact this
      · have := h.1.2
        rw [if_neg h0, if_neg h3] at this
        exact this
    · have := go_all s r n (i + 1) h.2 j (by omega) (by omega)
      exact ⟨this.1, fun hj => this.2 (by omega)⟩

/-- How the rounds go, for every options that can be. -/
theorem rounds_go (s r : Int) (hs : 1 ≤ s ∧ s ≤ 5) (hr : 1 ≤ r ∧ r ≤ 9) : goM s r (5 * (s.toNat + 2)) 0 (runM s r 0) = true ∧ endM (runM s r (5 * (s.toNat + 2))) = true :=
  all_go s (by simp; omega) r (by simp; omega)
end

section
open Go.RowKit Go.WideShapes
set_option linter.unusedSimpArgs false
set_option linter.unusedVariables false

/-- Two sides apart from each other and from a row of texts; what came in is as it was. -/
def TwoL (W0 : World) (pa pb : Nat) (P1 P2 : Side) (X : Option Addr) (xs : List Value) (K : List (Nat × Obj)) (wr : World) : Prop :=
  ∃ aa ab, PAt wr pa aa P1 ∧ PAt wr pb ab P2 ∧ Far W0 wr pa aa ∧ Far W0 wr pb ab ∧ (∀ x ∈ (aa.fps pa).flatten, x ∉ (ab.fps pb).flatten) ∧ Cells wr X xs ∧
    (∀ b o, X = some ⟨b, o, none⟩ → b ∉ (aa.fps pa).flatten ∧ b ∉ (ab.fps pb).flatten ∧ b < wr.heap.size ∧ W0.heap.size ≤ b) ∧ ∀ p ∈ K, wr.heap[p.1]? = some p.2 ∧ p.1 ∉ (aa.fps pa).flatten ∧ p.1 ∉ (ab.fps pb).flatten

section
variable {W0 wr w' : World} {pa pb : Nat} {P1 P2 P1' : Side} {X : Option Addr} {xs : List Value} {K : List (Nat × Obj)}
theorem TwoL.swap (h : TwoL W0 pa pb P1 P2 X xs K wr) : TwoL W0 pb pa P2 P1 X xs K wr := by
  obtain ⟨aa, ab, h1, h2, h3, h4, h5, h6, h7, h8⟩ := h
  exact ⟨ab, aa, h2, h1, h4, h3, fun x hx hy => h5 x hy hx, h6, fun b o e => ⟨(h7 b o e).2.1, (h7 b o e).1, (h7 b o e).2.2⟩, fun p hp => ⟨(h8 p hp).1, (h8 p hp).2.2, (h8 p hp).2.1⟩⟩
theorem TwoL.bel (h : TwoL W0 pa pb P1 P2 X xs K wr) : Below W0.heap.size W0 wr := by
  obtain ⟨aa, ab, h1, h2, h3, _⟩ := h
  exact h3.1
theorem TwoL.below (h : TwoL W0 pa pb P1 P2 X xs K wr) (hb : Below wr.heap.size wr w') : TwoL W0 pa pb P1 P2 X xs K w' := by
  obtain ⟨aa, ab, h1, h2, h3, h4, h5, h6, h7, h8⟩ := h
  refine ⟨aa, ab, h1.below hb, h2.below hb, h3.below hb, h4.below hb, h5, h6.below hb, fun b o e => ?_, fun p hp => ?_⟩
  · obtain ⟨k1, k2, k3, k4⟩ := h7 b o e
    exact ⟨k1, k2, Nat.lt_of_lt_of_le k3 hb.size, k4⟩
  · obtain ⟨k1, k2, k3⟩ := h8 p hp
    exact ⟨(hb.block _ (Array.getElem?_eq_some_iff.1 k1).1).trans k1, k2, k3⟩
theorem TwoL.drewN (h : TwoL W0 pa pb P1 P2 X xs K wr) (k : Nat) : TwoL W0 pa pb P1 P2 X xs K (wr.drewN k) := h.below ⟨rfl, rfl, rfl, Nat.le_refl _, fun _ _ => rfl⟩
theorem TwoL.cell (h : TwoL W0 pa pb P1 P2 X xs K wr) (i : Nat) (v : Value) (hi : xs[i]? = some v) : ∃ b o, X = some ⟨b, o, none⟩ ∧ wr.cell? ⟨b, o + i, none⟩ = some v := by
  obtain ⟨aa, ab, h1, h2, h3, h4, h5, h6, h7, h8⟩ := h
  exact h6 i v hi
theorem small_of {w : World} {pb : Nat} {a : Ptr} {P : Side} (h : PAt w pb a P) : ∀ x ∈ (a.fps pb).flatten, x < w.heap.size := fun x hx => by
  obtain ⟨l, hl, hxl⟩ := List.mem_flatten.1 hx
  exact h.small l hl x hxl
theorem TwoL.stepA {f : FuncId} {args : Array Value} {v : Value} (h : TwoL W0 pa pb P1 P2 X xs K wr) (hc : ∀ aa, PAt wr pa aa P1 → Far W0 wr pa aa → Calls Tryz.prog f args wr (PDone wr pa aa P1' v)) :
    Calls Tryz.prog f args wr fun e w' => e = .returned v ∧ TwoL W0 pa pb P1' P2 X xs K w' := by
  obtain ⟨aa, ab, h1, h2, h3, h4, h5, h6, h7, h8⟩ := h
  refine (hc aa h1 h3).mono ?_
  rintro e w' ⟨rfl, a2, k1, k2, k3, k4, k5⟩
  have sa := small_of h1
  have sb := small_of h2
  have ss := k2.size
  refine ⟨rfl, a2, ab, k1, h2.kept k2 (fun l hl x hx hm => h5 x hm (List.mem_flatten.2 ⟨l, hl, hx⟩)), h3.left k2 k3, ⟨(h3.left k2 k3).1, h4.2⟩, fun x hx hy => ?_, h6.kept k2 (fun b o e => (h7 b o e).1), fun b o e => ?_, fun p hp => ?_⟩
  · rcases k3 x hx with h | h
    · exact h5 x h hy
    · have := sb x hy; omega
  · obtain ⟨m1, m2, m3, m4⟩ := h7 b o e
    refine ⟨fun hm => ?_, m2, by omega, m4⟩
    rcases k3 b hm with h | h
    · exact m1 h
    · omega
  · obtain ⟨m1, m2, m3⟩ := h8 p hp
    have hlt := (Array.getElem?_eq_some_iff.1 m1).1
    refine ⟨(k2.block _ hlt m2).trans m1, fun hm => ?_, m3⟩
    rcases k3 p.1 hm with h | h
    · exact m2 h
    · omega
theorem TwoL.stepB {f : FuncId} {args : Array Value} {v : Value} {P2' : Side} (h : TwoL W0 pa pb P1 P2 X xs K wr) (hc : ∀ ab, PAt wr pb ab P2 → Far W0 wr pb ab → Calls Tryz.prog f args wr (PDone wr pb ab P2' v)) :
    Calls Tryz.prog f args wr fun e w' => e = .returned v ∧ TwoL W0 pa pb P1 P2' X xs K w' :=
  (h.swap.stepA hc).mono fun e w' hh => ⟨hh.1, hh.2.swap⟩
theorem TwoL.readA {f : FuncId} {args : Array Value} {Q : Ending → World → Prop} (h : TwoL W0 pa pb P1 P2 X xs K wr) (hc : ∀ aa, PAt wr pa aa P1 → Calls Tryz.prog f args wr Q) : Calls Tryz.prog f args wr Q := by
  obtain ⟨aa, ab, h1, _⟩ := h
  exact hc aa h1
/-- What goes out of the first one is handed over. -/
theorem TwoL.outA (h : TwoL W0 pa pb P1 P2 X xs K wr) : Calls Tryz.prog 15 #[.pointer (some ⟨pa, 0, none⟩)] wr fun e w' => ∃ X' c, e = .returned (.slice X' P1.out.length c) ∧ TwoL W0 pa pb { P1 with out := [] } P2 X' (P1.out.map Value.string) K w' := by
  obtain ⟨aa, ab, h1, h2, h3, h4, h5, h6, h7, h8⟩ := h
  refine (out_any h1).mono ?_
  rintro e w' ⟨rfl, k1, k2, k3⟩
  have S := h1.sep
  have sa := small_of h1
  have hsub : ∀ x ∈ (Ptr.fps pa { aa with ov := .slice none 0 0, outF := [] }).flatten, x ∈ (aa.fps pa).flatten := fun x hx => by
    obtain ⟨l, hl, hxl⟩ := List.mem_flatten.1 hx
    have hl' : l ∈ (aa.fps pa).set 3 [] := hl
    rcases List.mem_or_eq_of_mem_set hl' with hl | rfl
    · exact List.mem_flatten.2 ⟨l, hl, hxl⟩
    · cases hxl
  have hpa : ∀ x ∈ [pa], x ∈ (aa.fps pa).flatten := fun x hx => by simp at hx; subst hx; exact pb_mem _ _
  have hk : Kept (aa.fps pa).flatten wr w' := k3.mono (fun x hx => .inl (hpa x hx))
  have ss := hk.size
  have F1 : Far W0 w' pa { aa with ov := .slice none 0 0, outF := [] } := h3.left hk (fun x hx => .inl (hsub x hx))
  have hrow : ∃ X' c, aa.ov = .slice X' P1.out.length c ∧ Cells w' X' (P1.out.map Value.string) ∧ ∀ b o, X' = some ⟨b, o, none⟩ → b ∈ aa.outF := by
    rcases k2 with ⟨e1, e2, e3⟩ | ⟨g, o, cap, e1, e2, e3⟩
    · exact ⟨none, 0, by rw [e1, e2], by rw [e3]; exact Cells.nil _ _, fun b o e => (by cases e)⟩
    · exact ⟨some ⟨g, o, none⟩, cap, e1, e3.cells, fun b o' e => by cases e; exact e2⟩
  obtain ⟨X', c, e1, e2, e3⟩ := hrow
  refine ⟨X', c, by rw [e1], _, ab, k1, h2.kept hk (fun l hl x hx hm => h5 x hm (List.mem_flatten.2 ⟨l, hl, hx⟩)), F1, ⟨F1.1, h4.2⟩, fun x hx => h5 x (hsub x hx), e2, fun b o e => ?_, fun p hp => ⟨(hk.block _ (Array.getElem?_eq_some_iff.1 (h8 p hp).1).1 (h8 p hp).2.1).trans (h8 p hp).1, fun hm => (h8 p hp).2.1 (hsub _ hm), (h8 p hp).2.2⟩⟩
  have hb := e3 b o e
  have hbf : b ∈ (aa.fps pa).flatten := List.mem_flatten.2 ⟨aa.outF, by simp [Ptr.fps], hb⟩
  refine ⟨fun hm => ?_, h5 b hbf, by have := sa b hbf; omega, h3.2 b hbf⟩
  obtain ⟨l, hl, hxl⟩ := List.mem_flatten.1 hm
  have hl' : l ∈ (aa.fps pa).set 3 [] := hl
  obtain ⟨i, hi⟩ := List.mem_iff_getElem?.1 hl'
  by_cases h3i : i = 3
  · subst h3i
    rw [List.getElem?_set_self (by simp [Ptr.fps])] at hi
    cases hi
    cases hxl
  · rw [List.getElem?_set_ne (by omega)] at hi
    exact S.at (i := i) (j := 3) hi rfl h3i b hxl hb
theorem TwoL.outB (h : TwoL W0 pa pb P1 P2 X xs K wr) : Calls Tryz.prog 15 #[.pointer (some ⟨pb, 0, none⟩)] wr fun e w' => ∃ X' c, e = .returned (.slice X' P2.out.length c) ∧ TwoL W0 pa pb P1 { P2 with out := [] } X' (P2.out.map Value.string) K w' :=
  h.swap.outA.mono fun e w' ⟨X', c, h1, h2⟩ => ⟨X', c, h1, h2.swap⟩
/-- Two sides, made one behind the other. -/
theorem TwoL.start {w1 w2 : World} {aa ab : Ptr} (h1 : PAt w1 pa aa P1) (f1 : Far W0 w1 pa aa) (h2 : PAt w2 pb ab P2) (f2 : Far w1 w2 pb ab) : TwoL W0 pa pb P1 P2 none [] [] w2 := by
  have sa := small_of h1
  refine ⟨aa, ab, h1.below f2.1, h2, f1.below f2.1, ⟨f1.1.trans (f2.1.mono f1.1.size), fun x hx => Nat.le_trans f1.1.size (f2.2 x hx)⟩, fun x hx hy => ?_, Cells.nil _ _, fun b o e => (by cases e), fun p hp => by cases hp⟩
  have := sa x hx
  have := f2.2 x hy
  omega
theorem TwoL.at {p : Nat × Obj} (h : TwoL W0 pa pb P1 P2 X xs K wr) (hp : p ∈ K) : wr.heap[p.1]? = some p.2 := by
  obtain ⟨aa, ab, h1, h2, h3, h4, h5, h6, h7, h8⟩ := h
  exact (h8 p hp).1
theorem TwoL.less {K' : List (Nat × Obj)} (h : TwoL W0 pa pb P1 P2 X xs K wr) (hK : ∀ p ∈ K', p ∈ K) : TwoL W0 pa pb P1 P2 X xs K' wr := by
  obtain ⟨aa, ab, h1, h2, h3, h4, h5, h6, h7, h8⟩ := h
  exact ⟨aa, ab, h1, h2, h3, h4, h5, h6, h7, fun p hp => h8 p (hK p hp)⟩
/-- A new block is laid beside them. -/
theorem TwoL.add (h : TwoL W0 pa pb P1 P2 X xs K wr) (o : Obj) : TwoL W0 pa pb P1 P2 X xs ((wr.heap.size, o) :: K) (wr.alloc o) := by
  have hb := (Below.refl wr.heap.size wr).alloc (Nat.le_refl _) o
  obtain ⟨aa, ab, h1', h2', h3', h4', h5', h6', h7', h8'⟩ := h
  have sa := small_of h1'
  have sb := small_of h2'
  refine ⟨aa, ab, h1'.below hb, h2'.below hb, h3'.below hb, h4'.below hb, h5', h6'.below hb, fun b o e => ?_, fun p hp => ?_⟩
  · obtain ⟨k1, k2, k3, k4⟩ := h7' b o e
    exact ⟨k1, k2, Nat.lt_of_lt_of_le k3 hb.size, k4⟩
  · rcases List.mem_cons.1 hp with rfl | hp
    · exact ⟨heap_alloc_new wr o, fun hm => by have := sa _ hm; dsimp only at this; omega, fun hm => by have := sb _ hm; dsimp only at this; omega⟩
    · obtain ⟨k1, k2, k3⟩ := h8' p hp
      exact ⟨(hb.block _ (Array.getElem?_eq_some_iff.1 k1).1).trans k1, k2, k3⟩
theorem TwoL.base {W : World} (h : TwoL W0 pa pb P1 P2 X xs K wr) (hb : Below W.heap.size W W0) : TwoL W pa pb P1 P2 X xs K wr := by
  obtain ⟨aa, ab, h1, h2, h3, h4, h5, h6, h7, h8⟩ := h
  have s := hb.size
  exact ⟨aa, ab, h1, h2, ⟨hb.trans (h3.1.mono s), fun x hx => Nat.le_trans s (h3.2 x hx)⟩, ⟨hb.trans (h4.1.mono s), fun x hx => Nat.le_trans s (h4.2 x hx)⟩, h5, h6, fun b o e => ⟨(h7 b o e).1, (h7 b o e).2.1, (h7 b o e).2.2.1, Nat.le_trans s (h7 b o e).2.2.2⟩, h8⟩
/-- No row beside them. -/
theorem TwoL.norow (h : TwoL W0 pa pb P1 P2 X xs K wr) : TwoL W0 pa pb P1 P2 none [] K wr := by
  obtain ⟨aa, ab, h1, h2, h3, h4, h5, h6, h7, h8⟩ := h
  exact ⟨aa, ab, h1, h2, h3, h4, h5, Cells.nil _ _, fun b o e => (by cases e), h8⟩
end
end

section
open Go.RowKit Go.WideShapes
set_option linter.unusedSimpArgs false
set_option linter.unusedVariables false

/-- A packet of those rounds. -/
def mpar (d : Int) (x : Int × Int) : Par := if x.1 = 5 then pkt 5 0 0 0 [] d 0 else pkt x.1 x.2 0 0 [] 0 0
def mtext (d : Int) (x : Int × Int) : ByteArray := strB (encP (mpar d x))
/-- The side of those rounds. -/
def Mini.side (o : Opt) (me : Int) (m : Mini) : Side :=
  { now := m.now, synced := m.synced, syncAt := m.syncAt, inAt := 0, sent := m.sent, heard := m.heard, out := m.out.map (mtext o.delay), ev := m.ev, o := o, phase := m.phase, frame := 0, mine := Que.new o.delay.toNat, other := Que.new o.delay.toNat, me := me, seed := m.seed, nonce := m.nonce, rounds := m.rounds, acked := o.delay, told := 0, dropped := 0, own := [], ownV := fun _ => none, their := [], theirV := fun _ => none, gn := 0, on := 0, tn := 0 }

theorem new_side (o : Opt) (me seed : Int) : Side.new o me seed = (Mini.new seed).side o me := rfl

theorem good12 {k n : Int} (hk : k = 1 ∨ k = 2) (hn : 0 ≤ n ∧ n ≤ 4294967295) : (pkt k n 0 0 [] 0 0).good = true := by
  rcases hk with rfl | rfl <;> simp [pkt, Par.good, Par.own, Par.same, within, hn.1, hn.2]
theorem good5 {d : Int} (hn : 0 ≤ d ∧ d ≤ 6) : (pkt 5 0 0 0 [] d 0).good = true := by
  have : d = 0 ∨ d = 1 ∨ d = 2 ∨ d = 3 ∨ d = 4 ∨ d = 5 ∨ d = 6 := by omega
  rcases this with rfl | rfl | rfl | rfl | rfl | rfl | rfl <;> rfl

theorem new_last {d : Int} (hd : 0 ≤ d ∧ d ≤ 6) : (Que.new d.toNat).last = d := by
  unfold Que.last Que.new
  simp
  omega
theorem new_fine {d : Int} (hd : 0 ≤ d ∧ d ≤ 6) : (Que.new d.toNat).fine := by
  refine ⟨⟨by unfold Que.new; simp, ?_, ?_⟩, fun x hx => ?_⟩
  · unfold Que.new; simp; omega
  · unfold Que.new; simp; omega
  · unfold Que.new at hx
    simp at hx
    omega

/-- What a packet of those rounds is. -/
def XOk (x : Int × Int) : Prop := (x.1 = 1 ∨ x.1 = 2 ∨ x.1 = 5) ∧ 0 ≤ x.2 ∧ x.2 ≤ 4294967295
theorem mpar_good {d : Int} (hd : 0 ≤ d ∧ d ≤ 6) {x : Int × Int} (hx : XOk x) : (mpar d x).good = true := by
  unfold mpar
  split
  · exact good5 hd
  · rename_i h
    exact good12 (by rcases hx.1 with h1 | h1 | h1; exact .inl h1; exact .inr h1; exact absurd h1 h) hx.2
theorem mpar_kind (d : Int) {x : Int × Int} (hx : XOk x) : (mpar d x).kind = x.1 ∧ (mpar d x).nonce = (if x.1 = 5 then 0 else x.2) ∧ (mpar d x).ack = (if x.1 = 5 then d else 0) ∧ (mpar d x).sum = 0 := by
  unfold mpar
  split
  · rename_i h
    exact ⟨h.symm, rfl, rfl, rfl⟩
  · exact ⟨rfl, rfl, rfl, rfl⟩

structure MFine (m : Mini) : Prop where
  now : 0 ≤ m.now ∧ m.now ≤ 1000
  syncAt : 0 ≤ m.syncAt ∧ m.syncAt ≤ 1000
  sent : 0 ≤ m.sent ∧ m.sent ≤ 1000
  heard : 0 ≤ m.heard ∧ m.heard ≤ 1000
  phase : m.phase = 1 ∨ m.phase = 2
  rounds : 0 ≤ m.rounds ∧ m.rounds ≤ 100
  nonce : 0 ≤ m.nonce ∧ m.nonce ≤ 4294967295
  out : m.out.length ≤ 20
  ev : m.ev.length ≤ 5
  pkts : ∀ x ∈ m.out, XOk x
theorem fineM_iff {m : Mini} (h : fineM m = true) : MFine m := by
  unfold fineM at h
  rw [Bool.and_eq_true, decide_eq_true_iff, List.all_eq_true] at h
  obtain ⟨⟨h1, h2, h3, h4, h5, h6, h7, h8, h9, h10, h11, h12, h13, h14, h15⟩, h16⟩ := h
  exact ⟨⟨h1, h2⟩, ⟨h3, h4⟩, ⟨h5, h6⟩, ⟨h7, h8⟩, h9, ⟨h10, h11⟩, ⟨h12, h13⟩, h14, h15, fun x hx => by
    have := h16 x hx
    rw [decide_eq_true_iff] at this
    exact this⟩

theorem MFine.small {m : Mini} (h : MFine m) {o : Opt} (ho : o.good) (me : Int) : (m.side o me).small := by
  have hd := ho.delay
  refine ⟨?_, ?_, ?_, ?_, ?_, ?_, ?_, new_fine hd, new_fine hd, ?_, h.nonce, ?_⟩
  · have := h.now; exact ⟨this.1, by show m.now ≤ _; omega⟩
  · have := h.syncAt; exact ⟨this.1, by show m.syncAt ≤ _; omega⟩
  · exact ⟨Int.le_refl _, by show (0 : Int) ≤ _; omega⟩
  · have := h.sent; exact ⟨this.1, by show m.sent ≤ _; omega⟩
  · have := h.heard; exact ⟨this.1, by show m.heard ≤ _; omega⟩
  · have := h.out
    show (m.out.map _).length ≤ _
    rw [List.length_map]
    omega
  · have := h.ev
    show m.ev.length ≤ _
    omega
  · show 0 ≤ o.delay ∧ o.delay ≤ _
    omega
  · have := h.rounds; exact ⟨this.1, by show m.rounds ≤ _; omega⟩

theorem side_send {m : Mini} {o : Opt} (me : Int) {k n : Int} (ho : o.good) (hx : XOk (k, n)) : (m.side o me).send (mpar o.delay (k, n)) = (m.send k n).side o me := by
  rw [send_good (mpar_good ho.delay hx)]
  unfold Mini.side Mini.send
  simp [mtext]
theorem mpar12 (d k n : Int) (hk : k = 1 ∨ k = 2) : mpar d (k, n) = pkt k n 0 0 [] 0 0 := by
  unfold mpar
  rw [if_neg (by dsimp only; omega)]
theorem side_sync {m : Mini} {o : Opt} (me : Int) (ho : o.good) (hn : 0 ≤ m.nonce ∧ m.nonce ≤ 4294967295) : (m.side o me).sendSync = m.sendSync.side o me := by
  unfold Side.sendSync Mini.sendSync
  have := side_send (m := m) (o := o) me (k := 1) (n := m.nonce) ho ⟨.inl rfl, hn⟩
  rw [mpar12 _ _ _ (.inl rfl)] at this
  show ({ (m.side o me).send (pkt 1 m.nonce 0 0 [] 0 0) with synced := true, syncAt := m.now } : Side) = _
  rw [this]
  rfl

theorem side_tick {m : Mini} {o : Opt} (me : Int) (ho : o.good) (hm : MFine m) : (m.side o me).tick = (m.tick o.retry).side o me := by
  have hl := new_last ho.delay
  have h1 : ({ m.side o me with now := (m.side o me).now + 1 } : Side) = ({ m with now := m.now + 1 } : Mini).side o me := rfl
  have S := side_sync (m := { m with now := m.now + 1 }) me ho hm.nonce
  have A := side_send (m := { m with now := m.now + 1 }) (o := o) me (k := 5) (n := 0) ho ⟨.inr (.inr rfl), by decide, by decide⟩
  have e5 : mpar o.delay (5, 0) = pkt 5 0 0 0 [] o.delay 0 := rfl
  rw [e5] at A
  show (if m.phase = 1 then (if m.synced = false ∨ o.retry ≤ m.now + 1 - m.syncAt then (({ m with now := m.now + 1 } : Mini).side o me).sendSync else ({ m with now := m.now + 1 } : Mini).side o me) else if m.phase = 2 then (if o.delay < (Que.new o.delay.toNat).last ∧ o.retry ≤ m.now + 1 - 0 then (({ m with now := m.now + 1 } : Mini).side o me).sendInputs else if o.retry ≤ m.now + 1 - m.sent then (({ m with now := m.now + 1 } : Mini).side o me).send (pkt 5 0 0 0 [] (Que.new o.delay.toNat).last 0) else ({ m with now := m.now + 1 } : Mini).side o me) else ({ m with now := m.now + 1 } : Mini).side o me) = _
  unfold Mini.tick
  dsimp only
  rw [hl, S, A, if_neg (show ¬ (o.delay < o.delay ∧ o.retry ≤ m.now + 1 - 0) by omega)]
  (repeat' split) <;> rfl

theorem side_answered {m : Mini} {o : Opt} (me n : Int) (ho : o.good) : (m.side o me).answered n = (m.answered o.syncs n).side o me := by
  unfold Side.answered Mini.answered
  have S := side_sync (m := { m with rounds := m.rounds + 1, seed := nextS m.seed, nonce := drawN m.seed 4294967296 }) (o := o) me ho (by
    have := drawN_range m.seed 4294967296
    refine ⟨this.1, ?_⟩
    have := this.2 (by omega)
    show drawN m.seed 4294967296 ≤ _
    omega)
  show (if m.phase ≠ 1 ∨ n ≠ m.nonce then _ else if o.syncs ≤ m.rounds + 1 then _ else _) = _
  split
  · rfl
  · split
    · rfl
    · exact S

theorem side_hear {m : Mini} {o : Opt} (me : Int) (ho : o.good) (hm : MFine m) {x : Int × Int} (hx : XOk x) : (m.side o me).hearS (mpar o.delay x) = (m.hear o.syncs x).side o me := by
  obtain ⟨k, n⟩ := x
  obtain ⟨e1, e2, e3, e4⟩ := mpar_kind o.delay hx
  dsimp only at e1 e2 e3
  have h1 : ({ m.side o me with heard := (m.side o me).now } : Side) = ({ m with heard := m.now } : Mini).side o me := rfl
  unfold Side.hearS Mini.hear
  dsimp only
  rw [h1, e1, e2, e3]
  show (if m.phase = 3 then _ else _) = _
  rw [if_neg (by rcases hm.phase with h | h <;> omega)]
  rcases hx.1 with h | h | h
  · dsimp only at h
    subst h
    rw [if_pos rfl, if_pos rfl, if_neg (by decide)]
    have := side_send (m := { m with heard := m.now }) (o := o) me (k := 2) (n := n) ho ⟨.inr (.inl rfl), hx.2⟩
    rw [mpar12 _ _ _ (.inr rfl)] at this
    exact this
  · dsimp only at h
    subst h
    rw [if_neg (by decide), if_pos rfl, if_neg (by decide), if_pos rfl, if_neg (by decide)]
    exact side_answered me n ho
  · dsimp only at h
    subst h
    rw [if_neg (by decide), if_neg (by decide), if_pos rfl, if_neg (by decide), if_neg (by decide)]
    unfold Side.ack
    rw [if_neg (by show ¬ (o.delay < o.delay ∧ _); omega)]

section
variable {w w0 w1 : World} {pb : Nat} {a : Ptr}
theorem tick_mini {A : Nat → Addr} {m : Mini} {o : Opt} {me : Int} (h : PAt w pb a (m.side o me)) (hf : Far w0 w pb a) (hA : s_Apart 5 w0 A) (hm : MFine m) (hl : loudM o.retry m = true) (ho : o.good) : Calls Tryz.prog 25 #[.pointer (some ⟨pb, 0, none⟩)] w (PDone w pb a ((m.tick o.retry).side o me) (.tuple #[])) := by
  rw [← side_tick me ho hm]
  refine tick_any h hf (hA.glob (by decide)) (hm.small ho me) (fun hp => ?_)
  unfold loudM at hl
  rw [decide_eq_true_iff] at hl
  have := hl hp
  have h2 := ho.timeout
  show m.now + 1 - m.heard < o.timeout
  omega
theorem hear_mini {A : Nat → Addr} {m : Mini} {o : Opt} {me : Int} (h : PAt w pb a (m.side o me)) (hf : Far w0 w pb a) (hA : s_Apart 5 w0 A) (hm : MFine m) (ho : o.good) {x : Int × Int} (hx : XOk x) : Calls Tryz.prog 18 #[.pointer (some ⟨pb, 0, none⟩), .string (mtext o.delay x)] w (PDone w pb a ((m.hear o.syncs x).side o me) .nilIface) := by
  rw [← side_hear me ho hm hx]
  have hg := mpar_good ho.delay hx
  obtain ⟨e1, e2, e3, e4⟩ := mpar_kind o.delay hx
  have hd := dec_enc hg (by rw [e4]; omega)
  have ht : (mtext o.delay x).data.toList = encP (mpar o.delay x) := by unfold mtext; simp [strB]
  have hs : (mtext o.delay x).size ≤ 100000 := by
    have := encP_short hg
    show (strB (encP (mpar o.delay x))).size ≤ _
    rw [strB_size]
    omega
  exact hearS_any h hf hA (hm.small ho me) (mtext o.delay x) hs (mpar o.delay x) (by rw [ht]; exact hd.1) (by rw [ht]; exact hd.2) (by rw [e1]; exact hx.1) (by rw [e2]; have := hx.2; split <;> omega)
end
end

end Go.Proofs.YtpidjmgapiekaaaGreatDoor
