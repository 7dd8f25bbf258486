/- This text proves what a packet's own fields are and whether it can be, over the loaded program. -/
import Derived.Test.YtpidjmgapiekaaaGreatDoorPar2
import Derived.Deep.DeepCutAuto
import Derived.Tactics2
namespace Go.Proofs.YtpidjmgapiekaaaGreatDoor
open Go.RowKit Go.WideShapes
set_option linter.unusedSimpArgs false

/-- own. -/
def Par.bare (k : Int) : Par := ⟨k, 0, 0, 0, [], 0, 0, none, 0⟩
def Par.own (p : Par) : Par × Bool :=
  if p.kind = 1 ∨ p.kind = 2 then (⟨p.kind, p.nonce, 0, 0, [], 0, 0, none, 0⟩, within p.nonce 0 4294967295) else
  if p.kind = 4 then (⟨p.kind, 0, p.frm, 0, [], 0, p.sum, none, 0⟩, within p.frm 0 1073741824) else
  if p.kind = 6 then (⟨p.kind, 0, p.frm, 0, [], 0, 0, none, 0⟩, within p.frm 0 1073741824) else
  if p.kind = 3 then (if p.isIn then (⟨p.kind, 0, p.frm, p.base, p.ins, p.ack, 0, p.X, p.c⟩, within p.ack 0 1073741824) else (Par.bare p.kind, false)) else
  if p.kind = 5 then (⟨p.kind, 0, 0, 0, [], p.ack, 0, none, 0⟩, within p.ack 0 1073741824) else (Par.bare p.kind, false)
def OwnB (p : Par) (w : World) (e : Ending) (w' : World) : Prop := e = .returned (.tuple #[p.own.1.v, .bool p.own.2]) ∧ Below w.heap.size w w'
theorem below_twoD (w : World) (a b : Obj) (k : Nat) : Below w.heap.size w (((w.alloc a).alloc b).drewN k) := (below_two w a b).trans ⟨rfl, rfl, rfl, Nat.le_refl _, fun _ _ => rfl⟩
theorem w2_cell (w : World) (a : Obj) (cs : Array Value) (T : TypeId) (j : Nat) : ((w.alloc a).alloc (.cells cs T)).cell? ⟨w.heap.size + 1, j, none⟩ = cs[j]? := by
  have e := heap_alloc_new (w.alloc a) (.cells cs T)
  rw [size_alloc1] at e
  simp only [World.cell?, e]
  rfl
theorem w2_cellD (w : World) (a : Obj) (cs : Array Value) (T : TypeId) (j : Nat) : ((w.alloc a).alloc (.cells cs T)).drew.cell? ⟨w.heap.size + 1, j, none⟩ = cs[j]? := w2_cell w a cs T j

/-- What holds where a statement ends as it should. -/
def AtN (R : Act → World → Prop) : Exit → Act → World → Prop
  | .normal, a, w => R a w
  | _, _, _ => False
theorem AtN.out {R : Act → World → Prop} {e : Exit} {a : Act} {w : World} (h : AtN R e a w) : e = .normal ∧ R a w := by
  cases e <;> first | exact ⟨rfl, h⟩ | exact h.elim
/-- All ways of a statement meet behind it. -/
theorem meetF {P : Program} {c : Code} {Q : Exit → Act → World → Prop} {a : Act} {w : World} (F : Act) (R : World → Prop) (h : c.wp P (AtN fun a' wx => a' = F ∧ R wx) a w) (k : ∀ wx, R wx → Q .normal F wx) : c.wp P Q a w :=
  wp_mono h fun e a' wx hat => by
    obtain ⟨rfl, rfl, hr⟩ := hat.out
    exact k wx hr
theorem kept_dr {fp : List Nat} {w0 w : World} (h : Kept fp w0 w) : Kept fp w0 w.drew := h.drew
theorem kept_set {fp : List Nat} {w0 w : World} {b i : Nat} {v : Value} (h : Kept fp w0 w) (hb : b ∈ fp) : Kept fp w0 (w.setCell ⟨b, i, none⟩ v) := h.trans (Kept.setCell w b i v) (fun x hx => by simp at hx; subst hx; exact .inl hb)
theorem below_dr {n : Nat} {w0 w : World} (h : Below n w0 w) : Below n w0 w.drew := h.trans ⟨rfl, rfl, rfl, Nat.le_refl _, fun _ _ => rfl⟩

set_option maxRecDepth 100000 in
set_option maxHeartbeats 3200000 in
theorem own_any (p : Par) (w : World) (h : p.ok w) : Calls Tryz.prog 121 #[p.v] w (OwnB p w) := by
  have hI := Lib.hid (fun w' (hb : Below w.heap.size w w') => isInputs_any p w' (h.below hb))
  obtain ⟨kind, nonce, frm, base, ins, ack, sum, X, c⟩ := p
  clear h
  by_cases k1 : kind = 1
  · subst k1
    have O : Hid (Par.own ⟨1, nonce, frm, base, ins, ack, sum, X, c⟩ = (⟨1, nonce, 0, 0, [], 0, 0, none, 0⟩, within nonce 0 4294967295)) := Lib.hid rfl
    clear hI
    unfold Par.v
    dsimp only
    go_enter Tryz.func121, Tryz.ntmps121
    go_wp2_with fail
    go_region_with ((first | (go_at_call 147; refine (within_any _ _ _ _).mono ?_; rintro e w' ⟨rfl, rfl⟩)))
    all_goals go_wp2_with fail
    all_goals exact bodyPost_ret (v := .tuple #[.agg #[.int .i64 1, .int .i64 nonce, .int .i64 0, .int .i64 0, .slice none 0 0, .int .i64 0, .int .u64 0], .bool (within nonce 0 4294967295)]) (by simp [results, Tryz.results121, go_sem, w2_cellD, Act.put]) rfl ⟨by rw [O.out]; rfl, (below_two ..).trans ⟨rfl, rfl, rfl, Nat.le_refl _, fun _ _ => rfl⟩⟩
  by_cases k2 : kind = 2
  · subst k2
    have O : Hid (Par.own ⟨2, nonce, frm, base, ins, ack, sum, X, c⟩ = (⟨2, nonce, 0, 0, [], 0, 0, none, 0⟩, within nonce 0 4294967295)) := Lib.hid rfl
    clear hI
    unfold Par.v
    dsimp only
    go_enter Tryz.func121, Tryz.ntmps121
    go_wp2_with fail
    go_region_with ((first | (go_at_call 147; refine (within_any _ _ _ _).mono ?_; rintro e w' ⟨rfl, rfl⟩)))
    all_goals go_wp2_with fail
    all_goals exact bodyPost_ret (v := .tuple #[.agg #[.int .i64 2, .int .i64 nonce, .int .i64 0, .int .i64 0, .slice none 0 0, .int .i64 0, .int .u64 0], .bool (within nonce 0 4294967295)]) (by simp [results, Tryz.results121, go_sem, w2_cellD, Act.put]) rfl ⟨by rw [O.out]; rfl, (below_two ..).trans ⟨rfl, rfl, rfl, Nat.le_refl _, fun _ _ => rfl⟩⟩
  by_cases k4 : kind = 4
  · subst k4
    have O : Hid (Par.own ⟨4, nonce, frm, base, ins, ack, sum, X, c⟩ = (⟨4, 0, frm, 0, [], 0, sum, none, 0⟩, within frm 0 1073741824)) := Lib.hid rfl
    clear hI
    unfold Par.v
    dsimp only
    go_enter Tryz.func121, Tryz.ntmps121
    go_wp2_with fail
    go_region_with ((first | (go_at_call 147; refine (within_any _ _ _ _).mono ?_; rintro e w' ⟨rfl, rfl⟩)))
    all_goals go_wp2_with fail
    all_goals exact bodyPost_ret (v := .tuple #[.agg #[.int .i64 4, .int .i64 0, .int .i64 frm, .int .i64 0, .slice none 0 0, .int .i64 0, .int .u64 sum], .bool (within frm 0 1073741824)]) (by simp [results, Tryz.results121, go_sem, w2_cellD, Act.put]) rfl ⟨by rw [O.out]; rfl, (below_two ..).trans ⟨rfl, rfl, rfl, Nat.le_refl _, fun _ _ => rfl⟩⟩
  by_cases k6 : kind = 6
  · subst k6
    have O : Hid (Par.own ⟨6, nonce, frm, base, ins, ack, sum, X, c⟩ = (⟨6, 0, frm, 0, [], 0, 0, none, 0⟩, within frm 0 1073741824)) := Lib.hid rfl
    clear hI
    unfold Par.v
    dsimp only
    go_enter Tryz.func121, Tryz.ntmps121
    go_wp2_with fail
    go_region_with ((first | (go_at_call 147; refine (within_any _ _ _ _).mono ?_; rintro e w' ⟨rfl, rfl⟩)))
    all_goals go_wp2_with fail
    all_goals exact bodyPost_ret (v := .tuple #[.agg #[.int .i64 6, .int .i64 0, .int .i64 frm, .int .i64 0, .slice none 0 0, .int .i64 0, .int .u64 0], .bool (within frm 0 1073741824)]) (by simp [results, Tryz.results121, go_sem, w2_cellD, Act.put]) rfl ⟨by rw [O.out]; rfl, (below_two ..).trans ⟨rfl, rfl, rfl, Nat.le_refl _, fun _ _ => rfl⟩⟩
  by_cases k5 : kind = 5
  · subst k5
    have O : Hid (Par.own ⟨5, nonce, frm, base, ins, ack, sum, X, c⟩ = (⟨5, 0, 0, 0, [], ack, 0, none, 0⟩, within ack 0 1073741824)) := Lib.hid rfl
    clear hI
    unfold Par.v
    dsimp only
    go_enter Tryz.func121, Tryz.ntmps121
    go_wp2_with fail
    go_region_with ((first | (go_at_call 147; refine (within_any _ _ _ _).mono ?_; rintro e w' ⟨rfl, rfl⟩)))
    all_goals go_wp2_with fail
    all_goals exact bodyPost_ret (v := .tuple #[.agg #[.int .i64 5, .int .i64 0, .int .i64 0, .int .i64 0, .slice none 0 0, .int .i64 ack, .int .u64 0], .bool (within ack 0 1073741824)]) (by simp [results, Tryz.results121, go_sem, w2_cellD, Act.put]) rfl ⟨by rw [O.out]; rfl, (below_two ..).trans ⟨rfl, rfl, rfl, Nat.le_refl _, fun _ _ => rfl⟩⟩
  by_cases k3 : kind = 3
  · subst k3
    obtain ⟨r, hr⟩ : ∃ r, Par.isIn ⟨3, nonce, frm, base, ins, ack, sum, X, c⟩ = r := ⟨_, rfl⟩
    have RI := Lib.hid hr
    have hb0 := below_two w (.cells #[.int .i64 3, .int .i64 nonce, .int .i64 frm, .int .i64 base, .slice X ins.length c, .int .i64 ack, .int .u64 sum] 57) (.cells #[.int .i64 3, .int .i64 0, .int .i64 0, .int .i64 0, .slice none 0 0, .int .i64 0, .int .u64 0] 57)
    have I := Lib.hid (hI.out _ hb0)
    have B0 := Lib.hid hb0
    unfold Par.v at I ⊢
    dsimp only at I ⊢
    rw [hr] at I
    have b1 := heap_alloc_new (w.alloc (.cells #[.int .i64 3, .int .i64 nonce, .int .i64 frm, .int .i64 base, .slice X ins.length c, .int .i64 ack, .int .u64 sum] 57)) (.cells #[.int .i64 3, .int .i64 0, .int .i64 0, .int .i64 0, .slice none 0 0, .int .i64 0, .int .u64 0] 57)
    have b0 := (alloc_old (w.alloc (.cells #[.int .i64 3, .int .i64 nonce, .int .i64 frm, .int .i64 base, .slice X ins.length c, .int .i64 ack, .int .u64 sum] 57)) (.cells #[.int .i64 3, .int .i64 0, .int .i64 0, .int .i64 0, .slice none 0 0, .int .i64 0, .int .u64 0] 57) w.heap.size (by rw [size_alloc1]; omega)).trans (heap_alloc_new w _)
    rw [size_alloc1] at b1
    have HH := Lib.hid (And.intro b0 b1)
    clear hI hb0 b0 b1 hr
    cases r with
    | false =>
      have O : Hid (Par.own ⟨3, nonce, frm, base, ins, ack, sum, X, c⟩ = (Par.bare 3, false)) := Lib.hid (by unfold Par.own; simp [RI.out])
      go_enter Tryz.func121, Tryz.ntmps121
      go_wp2_with fail
      refine I.out.mono ?_
      rintro e w3 ⟨rfl, hb3⟩
      have B3 := Lib.hid (B0.out.trans (hb3.mono B0.out.size))
      have c1 := (hb3.block (w.heap.size + 1) (by rw [size_alloc1, size_alloc1]; omega)).trans HH.out.2
      clear hb3
      have g0 : w3.cell? ⟨w.heap.size + 1, 0, none⟩ = some (.int .i64 3) := by simp only [World.cell?, c1]; rfl
      have g1 : w3.cell? ⟨w.heap.size + 1, 1, none⟩ = some (.int .i64 0) := by simp only [World.cell?, c1]; rfl
      have g2 : w3.cell? ⟨w.heap.size + 1, 2, none⟩ = some (.int .i64 0) := by simp only [World.cell?, c1]; rfl
      have g3 : w3.cell? ⟨w.heap.size + 1, 3, none⟩ = some (.int .i64 0) := by simp only [World.cell?, c1]; rfl
      have g4 : w3.cell? ⟨w.heap.size + 1, 4, none⟩ = some (.slice none 0 0) := by simp only [World.cell?, c1]; rfl
      have g5 : w3.cell? ⟨w.heap.size + 1, 5, none⟩ = some (.int .i64 0) := by simp only [World.cell?, c1]; rfl
      have g6 : w3.cell? ⟨w.heap.size + 1, 6, none⟩ = some (.int .u64 0) := by simp only [World.cell?, c1]; rfl
      have fg0 : w3.frozen? ⟨w.heap.size + 1, 0, none⟩ = false := by simp only [World.frozen?, c1]; rfl
      have fg1 : w3.frozen? ⟨w.heap.size + 1, 1, none⟩ = false := by simp only [World.frozen?, c1]; rfl
      have fg2 : w3.frozen? ⟨w.heap.size + 1, 2, none⟩ = false := by simp only [World.frozen?, c1]; rfl
      have fg3 : w3.frozen? ⟨w.heap.size + 1, 3, none⟩ = false := by simp only [World.frozen?, c1]; rfl
      have fg4 : w3.frozen? ⟨w.heap.size + 1, 4, none⟩ = false := by simp only [World.frozen?, c1]; rfl
      have fg5 : w3.frozen? ⟨w.heap.size + 1, 5, none⟩ = false := by simp only [World.frozen?, c1]; rfl
      have fg6 : w3.frozen? ⟨w.heap.size + 1, 6, none⟩ = false := by simp only [World.frozen?, c1]; rfl
      have CC := Lib.hid c1
      clear c1
      go_wp2_with fail
      exact bodyPost_ret (v := .tuple #[.agg #[.int .i64 3, .int .i64 0, .int .i64 0, .int .i64 0, .slice none 0 0, .int .i64 0, .int .u64 0], .bool false]) (by simp [results, Tryz.results121, go_sem, g0, g1, g2, g3, g4, g5, g6]) rfl ⟨by rw [O.out]; rfl, by
        repeat (first | (with_reducible exact B3.out) | (with_reducible apply below_dr) | (with_reducible refine Below.setCell ?_ (by simp) _))⟩
    | true =>
      have O : Hid (Par.own ⟨3, nonce, frm, base, ins, ack, sum, X, c⟩ = (⟨3, 0, frm, base, ins, ack, 0, X, c⟩, within ack 0 1073741824)) := Lib.hid (by unfold Par.own; simp [RI.out])
      go_enter Tryz.func121, Tryz.ntmps121
      go_wp2_with fail
      refine I.out.mono ?_
      rintro e w3 ⟨rfl, hb3⟩
      have B3 := Lib.hid (B0.out.trans (hb3.mono B0.out.size))
      have c1 := (hb3.block (w.heap.size + 1) (by rw [size_alloc1, size_alloc1]; omega)).trans HH.out.2
      have c0 := (hb3.block w.heap.size (by rw [size_alloc1, size_alloc1]; omega)).trans HH.out.1
      clear hb3
      have g0 : w3.cell? ⟨w.heap.size + 1, 0, none⟩ = some (.int .i64 3) := by simp only [World.cell?, c1]; rfl
      have g1 : w3.cell? ⟨w.heap.size + 1, 1, none⟩ = some (.int .i64 0) := by simp only [World.cell?, c1]; rfl
      have g2 : w3.cell? ⟨w.heap.size + 1, 2, none⟩ = some (.int .i64 0) := by simp only [World.cell?, c1]; rfl
      have g3 : w3.cell? ⟨w.heap.size + 1, 3, none⟩ = some (.int .i64 0) := by simp only [World.cell?, c1]; rfl
      have g4 : w3.cell? ⟨w.heap.size + 1, 4, none⟩ = some (.slice none 0 0) := by simp only [World.cell?, c1]; rfl
      have g5 : w3.cell? ⟨w.heap.size + 1, 5, none⟩ = some (.int .i64 0) := by simp only [World.cell?, c1]; rfl
      have g6 : w3.cell? ⟨w.heap.size + 1, 6, none⟩ = some (.int .u64 0) := by simp only [World.cell?, c1]; rfl
      have fg0 : w3.frozen? ⟨w.heap.size + 1, 0, none⟩ = false := by simp only [World.frozen?, c1]; rfl
      have fg1 : w3.frozen? ⟨w.heap.size + 1, 1, none⟩ = false := by simp only [World.frozen?, c1]; rfl
      have fg2 : w3.frozen? ⟨w.heap.size + 1, 2, none⟩ = false := by simp only [World.frozen?, c1]; rfl
      have fg3 : w3.frozen? ⟨w.heap.size + 1, 3, none⟩ = false := by simp only [World.frozen?, c1]; rfl
      have fg4 : w3.frozen? ⟨w.heap.size + 1, 4, none⟩ = false := by simp only [World.frozen?, c1]; rfl
      have fg5 : w3.frozen? ⟨w.heap.size + 1, 5, none⟩ = false := by simp only [World.frozen?, c1]; rfl
      have fg6 : w3.frozen? ⟨w.heap.size + 1, 6, none⟩ = false := by simp only [World.frozen?, c1]; rfl
      have p0 : w3.cell? ⟨w.heap.size, 0, none⟩ = some (.int .i64 3) := by simp only [World.cell?, c0]; rfl
      have p1 : w3.cell? ⟨w.heap.size, 1, none⟩ = some (.int .i64 nonce) := by simp only [World.cell?, c0]; rfl
      have p2 : w3.cell? ⟨w.heap.size, 2, none⟩ = some (.int .i64 frm) := by simp only [World.cell?, c0]; rfl
      have p3 : w3.cell? ⟨w.heap.size, 3, none⟩ = some (.int .i64 base) := by simp only [World.cell?, c0]; rfl
      have p4 : w3.cell? ⟨w.heap.size, 4, none⟩ = some (.slice X ins.length c) := by simp only [World.cell?, c0]; rfl
      have p5 : w3.cell? ⟨w.heap.size, 5, none⟩ = some (.int .i64 ack) := by simp only [World.cell?, c0]; rfl
      have p6 : w3.cell? ⟨w.heap.size, 6, none⟩ = some (.int .u64 sum) := by simp only [World.cell?, c0]; rfl
      have CC := Lib.hid (And.intro c0 c1)
      clear c0 c1
      have HC0 := CC.out.1
      have HC1 := CC.out.2
      go_upto_region 13 with (fail)
      apply meetF (R := fun wx => wx.heap[w.heap.size + 1]? = some (.cells #[.int .i64 3, .int .i64 0, .int .i64 frm, .int .i64 base, .slice X ins.length c, .int .i64 0, .int .u64 0] 57 (0, 0)) ∧ Kept [w.heap.size + 1] w3 wx)
      case h =>
        go_region_with (fail)
        all_goals exact ⟨rfl, (heap_setCell_of' (heap_setCell_of' (heap_setCell_of' CC.out.2 _ _) _ _) _ _).trans rfl, by repeat (first | exact Kept.refl _ _ | apply kept_dr | refine kept_set ?_ (by simp))⟩
      case k =>
        rintro wx ⟨d1, dk⟩
        have B5 := Lib.hid (below_kept B3.out dk (by simp) (Nat.le_refl _))
        have d0 := (dk.block w.heap.size (Array.getElem?_eq_some_iff.1 CC.out.1).1 (by simp)).trans CC.out.1
        clear g0 g1 g2 g3 g4 g5 g6 fg0 fg1 fg2 fg3 fg4 fg5 fg6 p0 p1 p2 p3 p4 p5 p6 HC0 HC1
        have g0 : wx.cell? ⟨w.heap.size + 1, 0, none⟩ = some (.int .i64 3) := by simp only [World.cell?, d1]; rfl
        have g1 : wx.cell? ⟨w.heap.size + 1, 1, none⟩ = some (.int .i64 0) := by simp only [World.cell?, d1]; rfl
        have g2 : wx.cell? ⟨w.heap.size + 1, 2, none⟩ = some (.int .i64 frm) := by simp only [World.cell?, d1]; rfl
        have g3 : wx.cell? ⟨w.heap.size + 1, 3, none⟩ = some (.int .i64 base) := by simp only [World.cell?, d1]; rfl
        have g4 : wx.cell? ⟨w.heap.size + 1, 4, none⟩ = some (.slice X ins.length c) := by simp only [World.cell?, d1]; rfl
        have g5 : wx.cell? ⟨w.heap.size + 1, 5, none⟩ = some (.int .i64 0) := by simp only [World.cell?, d1]; rfl
        have g6 : wx.cell? ⟨w.heap.size + 1, 6, none⟩ = some (.int .u64 0) := by simp only [World.cell?, d1]; rfl
        have fg0 : wx.frozen? ⟨w.heap.size + 1, 0, none⟩ = false := by simp only [World.frozen?, d1]; rfl
        have fg1 : wx.frozen? ⟨w.heap.size + 1, 1, none⟩ = false := by simp only [World.frozen?, d1]; rfl
        have fg2 : wx.frozen? ⟨w.heap.size + 1, 2, none⟩ = false := by simp only [World.frozen?, d1]; rfl
        have fg3 : wx.frozen? ⟨w.heap.size + 1, 3, none⟩ = false := by simp only [World.frozen?, d1]; rfl
        have fg4 : wx.frozen? ⟨w.heap.size + 1, 4, none⟩ = false := by simp only [World.frozen?, d1]; rfl
        have fg5 : wx.frozen? ⟨w.heap.size + 1, 5, none⟩ = false := by simp only [World.frozen?, d1]; rfl
        have fg6 : wx.frozen? ⟨w.heap.size + 1, 6, none⟩ = false := by simp only [World.frozen?, d1]; rfl
        have p5 : wx.cell? ⟨w.heap.size, 5, none⟩ = some (.int .i64 ack) := by simp only [World.cell?, d0]; rfl
        clear d0 d1 dk
        go_wp2_with fail
        go_region_held3 (fun w' => w'.cell? ⟨w.heap.size, 5, none⟩ = some (.int .i64 ack)) (go_keep) (first | (go_at_call 147; refine (within_any _ _ _ _).mono ?_; rintro e w' ⟨rfl, rfl⟩))
        all_goals go_wp2_with fail
        all_goals exact bodyPost_ret (v := .tuple #[.agg #[.int .i64 3, .int .i64 0, .int .i64 frm, .int .i64 base, .slice X ins.length c, .int .i64 ack, .int .u64 0], .bool (within ack 0 1073741824)]) (by simp [results, Tryz.results121, go_sem, g0, g1, g2, g3, g4, g5, g6, Act.put]) rfl ⟨by rw [O.out]; rfl, by
          repeat (first | (with_reducible exact B5.out) | (with_reducible apply below_dr) | (with_reducible refine Below.setCell ?_ (by simp) _))⟩
  have O : Hid (Par.own ⟨kind, nonce, frm, base, ins, ack, sum, X, c⟩ = (Par.bare kind, false)) := Lib.hid (by unfold Par.own; simp [k1, k2, k3, k4, k5, k6])
  clear hI
  unfold Par.v
  dsimp only
  go_enter Tryz.func121, Tryz.ntmps121
  go_wp2_with fail
  exact bodyPost_ret (v := .tuple #[.agg #[.int .i64 kind, .int .i64 0, .int .i64 0, .int .i64 0, .slice none 0 0, .int .i64 0, .int .u64 0], .bool false]) (by simp [results, Tryz.results121, go_sem, w2_cell]) rfl ⟨by rw [O.out]; rfl, below_two ..⟩

end Go.Proofs.YtpidjmgapiekaaaGreatDoor
