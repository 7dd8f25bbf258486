/- This text proves what the line's small methods compute, over the loaded program: a line as a list of texts and six counts. -/
import Derived.Test.YtkpbjahjiajodaaDoorIs
import Derived.Test.YtkpbjahjiajodaaDoorRowN
import Derived.WalkLawsBesides
import Derived.WalkSpells
import Derived.IntWalk
import Derived.KernelRfl
import Derived.Lib.Hide
import Derived.BigQuiet
import Derived.StillTailTactics
import Derived.Deep.RegionHeld3
import Derived.Deep.RegionLaw
import Derived.Deep.QuietTactic
import Derived.Deep.LoopGhost
import Derived.Outline
namespace Go.Proofs.YtkpbjahjiajodaaDoor
open Go.RowKit Go.WideShapes

theorem info100 : (Tryd.prog.info? 100).map (fun i => (i.zero, i.size, i.bytes)) = some (some (.agg #[.string ByteArray.empty, .string ByteArray.empty]), 2, 32) := by kernel_rfl

/-- What a line holds. -/
structure Lin where
  most : Int
  ts : List (ByteArray × ByteArray)
  c0 : Int
  c1 : Int
  c2 : Int
  c3 : Int
  c4 : Int
  c5 : Int

/-- Texts as cells. -/
def textCells : List (ByteArray × ByteArray) → List Value
  | [] => []
  | t :: r => .string t.1 :: .string t.2 :: textCells r

theorem textCells_len (l : List (ByteArray × ByteArray)) : (textCells l).length = l.length * 2 := by
  induction l with
  | nil => rfl
  | cons t r ih => simp [textCells, ih]; omega
theorem textCells_append (l r : List (ByteArray × ByteArray)) : textCells (l ++ r) = textCells l ++ textCells r := by
  induction l with
  | nil => rfl
  | cons t l ih => simp [textCells, ih]
theorem textCells_now (l : List (ByteArray × ByteArray)) (i : Nat) (t : ByteArray × ByteArray) (h : l[i]? = some t) : (textCells l)[i * 2]? = some (.string t.1) := by
  induction l generalizing i with
  | nil => simp at h
  | cons x r ih =>
    cases i with
    | zero => simp at h; subst h; rfl
    | succ i =>
      rw [show (i + 1) * 2 = i * 2 + 1 + 1 by omega]
      simp at h
      simpa [textCells] using ih i h
theorem textCells_was (l : List (ByteArray × ByteArray)) (i : Nat) (t : ByteArray × ByteArray) (h : l[i]? = some t) : (textCells l)[i * 2 + 1]? = some (.string t.2) := by
  induction l generalizing i with
  | nil => simp at h
  | cons x r ih =>
    cases i with
    | zero => simp at h; subst h; rfl
    | succ i =>
      rw [show (i + 1) * 2 + 1 = i * 2 + 1 + 1 + 1 by omega]
      simp at h
      simpa [textCells] using ih i h
theorem textCells_set (l : List (ByteArray × ByteArray)) (i : Nat) (t : ByteArray × ByteArray) (h : l[i]? = some t) (s : ByteArray) : textCells (l.set i (s, t.2)) = (textCells l).set (i * 2) (.string s) := by
  induction l generalizing i with
  | nil => simp at h
  | cons x r ih =>
    cases i with
    | zero => simp at h; subst h; rfl
    | succ i =>
      rw [show (i + 1) * 2 = i * 2 + 1 + 1 by omega]
      simp at h
      simp [textCells, ih i h]
theorem textCells_drop (l : List (ByteArray × ByteArray)) (i : Nat) : textCells (l.drop i) = (textCells l).drop (i * 2) := by
  induction l generalizing i with
  | nil => simp [textCells]
  | cons x r ih =>
    cases i with
    | zero => rfl
    | succ i =>
      rw [show (i + 1) * 2 = i * 2 + 1 + 1 by omega]
      simp [textCells, ih i]
theorem textCells_take (l : List (ByteArray × ByteArray)) (i : Nat) : textCells (l.take i) = (textCells l).take (i * 2) := by
  induction l generalizing i with
  | nil => simp [textCells]
  | cons x r ih =>
    cases i with
    | zero => simp [textCells]
    | succ i =>
      rw [show (i + 1) * 2 = i * 2 + 1 + 1 by omega]
      simp [textCells, ih i]
theorem textCells_one (l : List (ByteArray × ByteArray)) : ∀ u ∈ textCells l, u.oneCell' = true := by
  induction l with
  | nil => simp [textCells]
  | cons t r ih =>
    intro u hu
    simp [textCells] at hu
    rcases hu with rfl | rfl | hu
    · rfl
    · rfl
    · exact ih u hu

def Lin.cells (L : Lin) (sv : Value) : Array Value := #[.int .i64 L.most, sv, .int .i64 L.c0, .int .i64 L.c1, .int .i64 L.c2, .int .i64 L.c3, .int .i64 L.c4, .int .i64 L.c5]

/-- Block lb is a line; its texts lie in one of the blocks gp. -/
structure LAt (w : World) (lb : Nat) (gp : List Nat) (sv : Value) (L : Lin) : Prop where
  cell : w.heap[lb]? = some (.cells (L.cells sv) 97 (0, 0))
  row : RowN w 100 2 gp sv L.ts.length (textCells L.ts)
  ne : lb ∉ gp
  typ : ∀ x ∈ gp, ∃ C, w.heap[x]? = some (.cells C 100 (0, 0))

/-- Its numbers are small. -/
def Lin.ok (L : Lin) : Prop := 0 ≤ L.c0 ∧ L.c0 ≤ 1000000 ∧ 0 ≤ L.c1 ∧ L.c1 ≤ 1000000 ∧ 0 ≤ L.c2 ∧ L.c2 ≤ 1000000 ∧ 0 ≤ L.c3 ∧ L.c3 ≤ 1000000 ∧ 0 ≤ L.c4 ∧ L.c4 ≤ 1000000 ∧ 0 ≤ L.c5 ∧ L.c5 ≤ 1000000 ∧ L.ts.length ≤ 64 ∧ L.most ≤ 64

section
variable {w : World} {lb : Nat} {gp : List Nat} {sv : Value} {L : Lin}
theorem LAt.lt (h : LAt w lb gp sv L) : lb < w.heap.size := (Array.getElem?_eq_some_iff.1 h.cell).1
theorem LAt.small (h : LAt w lb gp sv L) : ∀ x ∈ gp, x < w.heap.size := fun x hx => by obtain ⟨C, hC⟩ := h.typ x hx; exact (Array.getElem?_eq_some_iff.1 hC).1
theorem LAt.at0 (h : LAt w lb gp sv L) : w.cell? ⟨lb, 0, none⟩ = some (.int .i64 L.most) := by simp [World.cell?, h.cell, Lin.cells]
theorem LAt.at1 (h : LAt w lb gp sv L) : w.cell? ⟨lb, 1, none⟩ = some sv := by simp [World.cell?, h.cell, Lin.cells]
theorem LAt.at2 (h : LAt w lb gp sv L) : w.cell? ⟨lb, 2, none⟩ = some (.int .i64 L.c0) := by simp [World.cell?, h.cell, Lin.cells]
theorem LAt.at3 (h : LAt w lb gp sv L) : w.cell? ⟨lb, 3, none⟩ = some (.int .i64 L.c1) := by simp [World.cell?, h.cell, Lin.cells]
theorem LAt.at4 (h : LAt w lb gp sv L) : w.cell? ⟨lb, 4, none⟩ = some (.int .i64 L.c2) := by simp [World.cell?, h.cell, Lin.cells]
theorem LAt.at5 (h : LAt w lb gp sv L) : w.cell? ⟨lb, 5, none⟩ = some (.int .i64 L.c3) := by simp [World.cell?, h.cell, Lin.cells]
theorem LAt.at6 (h : LAt w lb gp sv L) : w.cell? ⟨lb, 6, none⟩ = some (.int .i64 L.c4) := by simp [World.cell?, h.cell, Lin.cells]
theorem LAt.at7 (h : LAt w lb gp sv L) : w.cell? ⟨lb, 7, none⟩ = some (.int .i64 L.c5) := by simp [World.cell?, h.cell, Lin.cells]
theorem LAt.f (h : LAt w lb gp sv L) (i : Nat) : w.frozen? ⟨lb, i, none⟩ = false := by simp [World.frozen?, h.cell]
theorem LAt.kept {w' : World} {fp : List Nat} (h : LAt w lb gp sv L) (hk : Kept fp w w') (h1 : lb ∉ fp) (h2 : ∀ x ∈ gp, x ∉ fp) : LAt w' lb gp sv L :=
  ⟨(hk.block lb h.lt h1).trans h.cell, h.row.kept hk h2, h.ne, fun x hx => by obtain ⟨C, hC⟩ := h.typ x hx; exact ⟨C, (hk.block x (Array.getElem?_eq_some_iff.1 hC).1 (h2 x hx)).trans hC⟩⟩
theorem LAt.below {w' : World} (h : LAt w lb gp sv L) (hb : Below w.heap.size w w') : LAt w' lb gp sv L := h.kept (Kept.of_below (fp := []) hb) (by simp) (by simp)
theorem LAt.drewN (h : LAt w lb gp sv L) (n : Nat) : LAt (w.drewN n) lb gp sv L := h.kept (Kept.drewN [] w n) (by simp) (by simp)
/-- One of its cells is turned. -/
theorem LAt.setCell (h : LAt w lb gp sv L) (i : Nat) (v : Value) {L' : Lin} {sv' : Value} (hc : (L.cells sv).setIfInBounds i v = L'.cells sv') {gp' : List Nat} (hr : RowN (w.setCell ⟨lb, i, none⟩ v) 100 2 gp' sv' L'.ts.length (textCells L'.ts)) (hn : lb ∉ gp') (hsm : ∀ x ∈ gp', ∃ C, w.heap[x]? = some (.cells C 100 (0, 0))) :
    LAt (w.setCell ⟨lb, i, none⟩ v) lb gp' sv' L' :=
  ⟨by rw [show (w.setCell ⟨lb, i, none⟩ v).heap[lb]? = some (.cells ((L.cells sv).setIfInBounds i v) 97 (0, 0)) from by unfold World.setCell; simp [Array.getElem?_modify, h.cell], hc], hr, hn, fun x hx => by obtain ⟨C, hC⟩ := hsm x hx; exact ⟨C, ((Kept.setCell w lb i v).block x (Array.getElem?_eq_some_iff.1 hC).1 (by simp; rintro rfl; exact hn hx)).trans hC⟩⟩
theorem LAt.setNum (h : LAt w lb gp sv L) (i : Nat) (v : Value) {L' : Lin} (hc : (L.cells sv).setIfInBounds i v = L'.cells sv) (ht : L'.ts = L.ts) : LAt (w.setCell ⟨lb, i, none⟩ v) lb gp sv L' :=
  h.setCell i v hc (by rw [ht]; exact h.row.kept (Kept.setCell w lb i v) (fun x hx => by simp; rintro rfl; exact h.ne hx)) h.ne h.typ
end

/-- An error that wraps one of the api's, in a block of an error's type. -/
def WrapsT (w : World) (v : Value) (a : Addr) : Prop := ∃ b C, v = .iface 126 (.pointer (some ⟨b, 0, none⟩)) ∧ w.heap[b]? = some (.cells C 128 (0, 0)) ∧ C[1]? = some (.iface 129 (.pointer (some a)))
theorem WrapsT.wraps {w : World} {v : Value} {a : Addr} (h : WrapsT w v a) : Wraps w v a := by
  obtain ⟨b, C, hv, hb, hc⟩ := h
  exact ⟨b, hv, by simp only [World.cell?, hb]; exact hc⟩
/-- What a refusal leaves: an error that wraps it, and nothing else. -/
def RefT (w : World) (a : Addr) (e : Ending) (w' : World) : Prop := ∃ v, e = .returned v ∧ WrapsT w' v a ∧ Below w.heap.size w w' ∧ ∃ b, v = .iface 126 (.pointer (some ⟨b, 0, none⟩)) ∧ w.heap.size ≤ b
/-- A refusal of a line's. -/
theorem lwrong_any (a : Addr) (w : World) : Calls Tryd.prog 58 #[.iface 129 (.pointer (some a))] w (RefT w a) := by
  go_enter Tryd.func58, Tryd.ntmps58
  go_wp2_with fail
  refine (at_any _ _ _ _).mono ?_
  rintro e w1 ⟨rfl, rfl⟩
  go_wp2
  go_ret
  exact ⟨_, rfl, ⟨_, _, rfl, heap_alloc_new _ _, rfl⟩, (Below.refl _ _).alloc (Nat.le_refl _) _, _, rfl, Nat.le_refl _⟩

/-- New. -/
def Lin.new (m : Int) : Lin := { most := m, ts := [], c0 := 0, c1 := 0, c2 := 0, c3 := 0, c4 := 0, c5 := 0 }
theorem lnew_any (m : Int) (w : World) (h1 : 1 ≤ m) (h2 : m ≤ 64) :
    Calls Tryd.prog 25 #[.int .i64 m] w fun e w' => e = .returned (.tuple #[.pointer (some ⟨w.heap.size, 0, none⟩), .nilIface]) ∧ LAt w' w.heap.size [] (.slice none 0 0) (Lin.new m) ∧ Below w.heap.size w w' := by
  have t1 : decide (m < 1) = false := by simp; omega
  have t2 : decide (64 < m) = false := by simp; omega
  go_enter Tryd.func25, Tryd.ntmps25
  go_wp2_with fail
  go_ret2
  refine ⟨rfl, ⟨?_, .inl ⟨rfl, rfl, rfl⟩, by simp, by simp⟩, (Below.refl _ _).alloc (Nat.le_refl _) _⟩
  rw [heap_alloc_new]
  rfl
theorem lnew_err (m : Int) (w : World) (h : m < 1 ∨ 64 < m) (a : Addr) (hs : w.cell? ⟨0, 0, none⟩ = some (.iface 129 (.pointer (some a)))) :
    Calls Tryd.prog 25 #[.int .i64 m] w fun e w' => ∃ v, e = .returned (.tuple #[.pointer none, v]) ∧ RefT w a (.returned v) w' := by
  go_enter Tryd.func25, Tryd.ntmps25
  go_wp2_with fail
  all_goals refine (lwrong_any a _).mono ?_
  all_goals rintro e w1 ⟨v, rfl, hR⟩
  all_goals go_wp2
  all_goals go_ret2
  all_goals exact ⟨v, rfl, v, rfl, hR⟩

theorem heap_setCell_of {w : World} {b : Nat} {cs : Array Value} {T : TypeId} (h : w.heap[b]? = some (.cells cs T (0, 0))) (i : Nat) (v : Value) : (w.setCell ⟨b, i, none⟩ v).heap[b]? = some (.cells (cs.setIfInBounds i v) T (0, 0)) := by
  unfold World.setCell
  simp [Array.getElem?_modify, h]

/-- All but lines and their texts is as it was. -/
def FrameT (w w' : World) : Prop := ∀ x, x < w.heap.size → (∀ C, w.heap[x]? ≠ some (.cells C 97 (0, 0))) → (∀ C, w.heap[x]? ≠ some (.cells C 100 (0, 0))) → w'.heap[x]? = w.heap[x]?
theorem FrameT.refl (w : World) : FrameT w w := fun _ _ _ _ => rfl
theorem FrameT.of_below {w w' : World} (h : Below w.heap.size w w') : FrameT w w' := fun x hx _ _ => h.block x hx
theorem FrameT.trans {a b c : World} (h : FrameT a b) (k : FrameT b c) : FrameT a c := fun x hx h1 h2 => by
  have e := h x hx h1 h2
  have hb : x < b.heap.size := by
    have : a.heap[x]? = some a.heap[x] := by simp [hx]
    rw [this] at e
    exact (Array.getElem?_eq_some_iff.1 e).1
  rw [k x hb (fun C => by rw [e]; exact h1 C) (fun C => by rw [e]; exact h2 C), e]
theorem WrapsT.frame {w w' : World} {v : Value} {a : Addr} (h : WrapsT w v a) (hf : FrameT w w') : WrapsT w' v a := by
  obtain ⟨b, C, hv, hb, hc⟩ := h
  exact ⟨b, C, hv, (hf b (Array.getElem?_eq_some_iff.1 hb).1 (fun D hd => by simp [hb] at hd) (fun D hd => by simp [hb] at hd)).trans hb, hc⟩
theorem LAt.frame {w w' : World} {lb : Nat} {gp : List Nat} {sv : Value} {L : Lin} (h : LAt w lb gp sv L) (hk : Kept (lb :: gp) w w') : FrameT w w' := fun x hx h1 h2 => hk.block x hx (by
  intro hm
  rcases List.mem_cons.1 hm with rfl | hm
  · exact h1 _ h.cell
  · obtain ⟨C, hC⟩ := h.typ x hm
    exact h2 C hC)

/-- What a call leaves that touches a line: the line, its new blocks, and all else as it was. -/
def LLeft (w : World) (lb : Nat) (gp : List Nat) (L' : Lin) (w' : World) : Prop := ∃ gp' sv', LAt w' lb gp' sv' L' ∧ Kept (lb :: gp) w w' ∧ ∀ x ∈ gp', x ∈ gp ∨ w.heap.size ≤ x
def LDone (w : World) (lb : Nat) (gp : List Nat) (L' : Lin) (v : Value) (e : Ending) (w' : World) : Prop := e = .returned v ∧ LLeft w lb gp L' w'
/-- A refusal, the line with it. -/
def LBad (w : World) (lb : Nat) (gp : List Nat) (L' : Lin) (a : Addr) (mk : Value → Value) (e : Ending) (w' : World) : Prop :=
  ∃ v b, v = .iface 126 (.pointer (some ⟨b, 0, none⟩)) ∧ e = .returned (mk v) ∧ WrapsT w' v a ∧ w.heap.size ≤ b ∧ LLeft w lb gp L' w'

section
variable {w : World} {lb : Nat} {gp : List Nat} {sv : Value} {L : Lin}

theorem llen_any (h : LAt w lb gp sv L) : Calls Tryd.prog 30 #[.pointer (some ⟨lb, 0, none⟩)] w (fun e w' => e = .returned (.int .i64 L.ts.length) ∧ w = w') := by
  have c1 := h.at1
  obtain ⟨A, cap, rfl, hl1, hl2, _⟩ := h.row.slice
  clear h
  obtain ⟨l, hl⟩ : ∃ l, L.ts.length = l := ⟨_, rfl⟩
  rw [hl] at c1 hl1 ⊢
  clear hl
  go_enter Tryd.func30, Tryd.ntmps30
  go_wp2
  go_ret
  exact ⟨rfl, rfl⟩
theorem llen_nil (w : World) : Calls Tryd.prog 30 #[.pointer none] w (fun e w' => e = .returned (.int .i64 0) ∧ w = w') := by
  go_enter Tryd.func30, Tryd.ntmps30
  go_wp2
  go_ret
  exact ⟨rfl, rfl⟩

def Lin.full (L : Lin) : Lin := { L with c1 := L.c1 + 1 }
def Lin.push (L : Lin) (t : ByteArray × ByteArray) : Lin := { L with ts := L.ts ++ [t] }

set_option maxRecDepth 100000 in
set_option maxHeartbeats 1600000 in
theorem add_full (h : LAt w lb gp sv L) (hok : L.ok) (s t : ByteArray) (K : Nat) (hf : L.most ≤ L.ts.length) (a : Addr) (hs : w.cell? ⟨4, 0, none⟩ = some (.iface 129 (.pointer (some a)))) :
    Calls Tryd.prog 59 #[.pointer (some ⟨lb, 0, none⟩), .agg #[.string s, .string t], .pointer (some ⟨lb, K, none⟩)] w (LBad w lb gp L.full a id) := by
  obtain ⟨A, cap, hsv, hl1, hl2, _⟩ := h.row.slice
  obtain ⟨W, hW⟩ : ∃ W, W = w.alloc (.cells #[.string s, .string t] 100) := ⟨_, rfl⟩
  have hA : LAt W lb gp sv L := by rw [hW]; exact h.below ((Below.refl _ _).alloc (Nat.le_refl _) _)
  have h4 : lb ≠ 4 := by rintro rfl; have := h.at0.symm.trans hs; cases this
  have hsW : W.cell? ⟨4, 0, none⟩ = some (.iface 129 (.pointer (some a))) := by rw [hW]; exact (Kept.alloc w _).cell hs (by simp)
  subst hsv
  obtain ⟨l, hl⟩ : ∃ l, L.ts.length = l := ⟨_, rfl⟩
  rw [hl] at hA hf
  have c0 := hA.at0
  have c1 := hA.at1
  have c3 := hA.at3
  have f3 := hA.f 3
  obtain ⟨_, _, hk1, hk2, _, _, _, _, _, _, _, _, hk3, _⟩ := hok
  rw [hl] at hk3
  obtain ⟨m, hm⟩ : ∃ m, L.most = m := ⟨_, rfl⟩
  obtain ⟨cc, hcc⟩ : ∃ m, L.c1 = m := ⟨_, rfl⟩
  rw [hm] at c0 hf
  rw [hcc] at c3 hk1 hk2
  have CC := Lib.hid hcc
  have H := Lib.hid hA
  have HW := Lib.hid hW
  have hB : Below w.heap.size w W := by rw [hW]; exact (Below.refl _ _).alloc (Nat.le_refl _) _
  have BW := Lib.hid hB
  clear h hA hl hm hcc hW hB
  go_enter Tryd.func59, Tryd.ntmps59
  go_wp2_with fail
  rw [← HW.out]
  go_quiet (fail)
  go_wp2_with fail
  refine (lwrong_any a _).mono ?_
  rintro e w1 ⟨v, rfl, hR, hB, b, rfl, hb⟩
  have h1 : LAt ((W.drewN nq).setCell ⟨lb, 3, none⟩ (.int .i64 (cc + 1))) lb gp (.slice A l cap) L.full := (H.out.drewN nq).setNum 3 _ (by rw [← CC.out]; rfl) rfl
  have hk1 : Kept (lb :: gp) w ((W.drewN nq).setCell ⟨lb, 3, none⟩ (.int .i64 (cc + 1))) := ((Kept.of_below BW.out).trans (Kept.drewN [] W nq) (by simp)).trans (Kept.setCell _ lb 3 _) (by simp)
  have hout : LBad w lb gp L.full a id (.returned (.iface 126 (.pointer (some ⟨b, 0, none⟩)))) w1 :=
    ⟨_, b, rfl, rfl, hR, Nat.le_trans hk1.size hb, gp, _, h1.below hB, hk1.trans (Kept.of_below (fp := []) hB) (by simp), fun x hx => .inl hx⟩
  have O := Lib.hid hout
  clear hR hB hb h1 hk1 hout
  go_wp2
  go_ret
  exact O.out

theorem add_more {w' : World} {g o cap l : Nat} {sv : Value} {L : Lin} (h : LAt w lb gp sv L) (hk : Kept gp w w') (hlen : L.ts.length = l) {t : ByteArray × ByteArray} (hr : RowAt w' 100 2 g o cap (l + 1) (textCells L.ts ++ textCells [t])) :
    LAt (w'.setCell ⟨lb, 1, none⟩ (.slice (some ⟨g, o, none⟩) (l + 1) cap)) lb [g] (.slice (some ⟨g, o, none⟩) (l + 1) cap) (L.push t) := by
  have hc : w'.heap[lb]? = _ := (hk.block lb h.lt h.ne).trans h.cell
  have hne : lb ≠ g := by
    rintro rfl
    obtain ⟨_, _, _, cur, hb, _⟩ := hr
    have := hb.symm.trans hc
    simp at this
  refine ⟨?_, ?_, by simpa using hne, fun x hx => by
    simp at hx; subst hx
    obtain ⟨_, _, _, cur, hb, _⟩ := hr.kept (Kept.setCell w' lb 1 (.slice (some ⟨x, o, none⟩) (l + 1) cap)) (by simpa using hne.symm)
    exact ⟨cur, hb⟩⟩
  · rw [heap_setCell_of hc]; rfl
  · subst hlen
    refine .inr ⟨g, o, cap, by simp [Lin.push], by simp, ?_⟩
    rw [show (L.push t).ts = L.ts ++ [t] from rfl, textCells_append, List.length_append]
    exact hr.kept (Kept.setCell w' lb 1 _) (by simpa using hne.symm)

theorem add_facts {V w1 : World} {A : Option Addr} {l cap b : Nat} {s t : Value} {c : Obj} (H : LAt V lb gp (.slice A l cap) L) (hn : lb ∉ gp) (hb : b ∉ gp) (d0 : V.cell? ⟨b, 0, none⟩ = some s) (d1 : V.cell? ⟨b, 1, none⟩ = some t) (hk : Kept gp ((V.alloc c).drew) w1) :
    (w1.cell? ⟨lb, 1, none⟩ = some (.slice A l cap) ∧ w1.cell? ⟨b, 0, none⟩ = some s ∧ w1.cell? ⟨b, 1, none⟩ = some t) ∧ w1.frozen? ⟨lb, 1, none⟩ = false ∧ Hid (Kept gp V w1 ∧ w1.heap[lb]? = some (.cells (L.cells (.slice A l cap)) 97 (0, 0))) := by
  have k : Kept gp V w1 := ((Kept.alloc V c).drew.mono (by simp)).trans hk (fun y hy => .inl hy)
  have hc : w1.heap[lb]? = _ := (k.block lb H.lt hn).trans H.cell
  exact ⟨⟨by simp [World.cell?, hc, Lin.cells], k.cell d0 hb, k.cell d1 hb⟩, by simp [World.frozen?, hc], Lib.hid ⟨k, hc⟩⟩

theorem add_fin {V w1 : World} {A : Option Addr} {l cap g o cap' K : Nat} {cK : Int} {s t : ByteArray} {L' : Lin} (H : LAt V lb gp (.slice A l cap) L) (hl : L.ts.length = l) (hts : L'.ts = L.ts ++ [(s, t)]) (hL : ∀ sv, ((L.push (s, t)).cells sv).setIfInBounds K (.int .i64 (cK + 1)) = L'.cells sv)
    (hk : Kept gp V w1) (hr : RowAt w1 100 2 g o cap' (l + 1) (textCells L.ts ++ textCells [(s, t)])) (hg : g ∈ gp ∨ V.heap.size ≤ g) :
    LAt (((w1.setCell ⟨lb, 1, none⟩ (.slice (some ⟨g, o, none⟩) (l + 1) cap')).setCell ⟨lb, K, none⟩ (.int .i64 (cK + 1)))) lb [g] (.slice (some ⟨g, o, none⟩) (l + 1) cap') L' ∧
    Kept (lb :: gp) V (((w1.setCell ⟨lb, 1, none⟩ (.slice (some ⟨g, o, none⟩) (l + 1) cap')).setCell ⟨lb, K, none⟩ (.int .i64 (cK + 1)))) ∧ ∀ x ∈ [g], x ∈ gp ∨ V.heap.size ≤ x := by
  have h1 := (add_more H hk hl hr).setNum K (.int .i64 (cK + 1)) (L' := L') (hL _) (by rw [hts]; rfl)
  refine ⟨h1, ?_, by simpa using hg⟩
  exact ((hk.mono (fun x hx => .inl (by simp [hx]))).trans (Kept.setCell w1 lb 1 _) (by simp)).trans (Kept.setCell _ lb K _) (by simp)

theorem lleft_of {V w' : World} {g : Nat} {sv : Value} {L' : Lin} (h0 : Kept [] w V) (h : LAt w' lb [g] sv L') (hk : Kept (lb :: gp) V w') (hg : ∀ x ∈ [g], x ∈ gp ∨ V.heap.size ≤ x) : LLeft w lb gp L' w' :=
  ⟨[g], sv, h, (h0.mono (by simp)).trans hk (fun x hx => .inl hx), fun x hx => (hg x hx).imp id (fun h => Nat.le_trans h0.size h)⟩

set_option maxRecDepth 100000 in
set_option maxHeartbeats 3200000 in
theorem add_ok0 (h : LAt w lb gp sv L) (hok : L.ok) (s t : ByteArray) (K : Nat) (hf : ¬ L.most ≤ L.ts.length) (hK : K = 2 ∨ K = 6) (cK : Int) (hcK : w.cell? ⟨lb, K, none⟩ = some (.int .i64 cK)) (hcK1 : 0 ≤ cK) (hcK2 : cK ≤ 1000000)
    (L' : Lin) (hL' : ∀ sv, ((L.push (s, t)).cells sv).setIfInBounds K (.int .i64 (cK + 1)) = L'.cells sv) (hts : L'.ts = L.ts ++ [(s, t)]) :
    Calls Tryd.prog 59 #[.pointer (some ⟨lb, 0, none⟩), .agg #[.string s, .string t], .pointer (some ⟨lb, K, none⟩)] w
      (LDone w lb gp L' .nilIface) := by
  obtain ⟨A, cap, hsv, hl1, hl2, _⟩ := h.row.slice
  obtain ⟨W, hW⟩ : ∃ W, W = w.alloc (.cells #[.string s, .string t] 100) := ⟨_, rfl⟩
  have hA : LAt W lb gp sv L := by rw [hW]; exact h.below ((Below.refl _ _).alloc (Nat.le_refl _) _)
  have hcW : W.cell? ⟨lb, K, none⟩ = some (.int .i64 cK) := by rw [hW]; exact (Kept.alloc w _).cell hcK (by simp)
  subst hsv
  obtain ⟨l, hl⟩ : ∃ l, L.ts.length = l := ⟨_, rfl⟩
  rw [hl] at hA hf
  have c0 := hA.at0
  have c1 := hA.at1
  have f1 := hA.f 1
  obtain ⟨_, _, _, _, _, _, _, _, _, _, _, _, hk3, _⟩ := hok
  rw [hl] at hk3
  obtain ⟨m, hm⟩ : ∃ m, L.most = m := ⟨_, rfl⟩
  rw [hm] at c0 hf
  have t1 : decide (m ≤ (l : Int)) = false := by simp; omega
  have b0 : W.cell? ⟨w.heap.size, 0, none⟩ = some (.string s) := by rw [hW, World.cell?_alloc_new]; rfl
  have b1 : W.cell? ⟨w.heap.size, 1, none⟩ = some (.string t) := by rw [hW, World.cell?_alloc_new]; rfl
  have H := Lib.hid hA
  have HW := Lib.hid hW
  have LEN := Lib.hid hl
  have hB : Below w.heap.size w W := by rw [hW]; exact (Below.refl _ _).alloc (Nat.le_refl _) _
  have BW := Lib.hid hB
  have NE := Lib.hid h.ne
  have SM := Lib.hid h.small
  have HL := Lib.hid hL'
  have HT := Lib.hid hts
  clear hL' hts
  have hws : w.heap.size ≠ lb := by have := h.lt; omega
  have fK := (h.drewN 0).f K
  have fKW := hA.f K
  clear h hA hl hm hW hB hf hcK fK
  have KH := Lib.hid hK
  clear hK
  go_enter Tryd.func59, Tryd.ntmps59
  go_wp2_with fail
  rw [← HW.out]
  go_quiet (fail)
  go_wp2_with fail
  obtain ⟨V, hV⟩ : ∃ V, V = W.drewN nq := ⟨_, rfl⟩
  rw [← hV]
  have HV : LAt V lb gp (.slice A l cap) L := by rw [hV]; exact H.out.drewN nq
  have d0 : V.cell? ⟨w.heap.size, 0, none⟩ = some (.string s) := by rw [hV]; exact b0
  have d1 : V.cell? ⟨w.heap.size, 1, none⟩ = some (.string t) := by rw [hV]; exact b1
  have dK : V.cell? ⟨lb, K, none⟩ = some (.int .i64 cK) := by rw [hV]; exact hcW
  have e1 := HV.at1
  have ef1 := HV.f 1
  have efK : V.frozen? ⟨lb, K, none⟩ = false := by rw [hV]; exact fKW
  have RW : Hid (∀ c, RowN ((V.alloc c).drew) 100 2 gp (.slice A l cap) l (textCells L.ts)) := Lib.hid (fun c => by
    have := (HV.row.kept (Kept.alloc V c) (by simp)).kept ((Kept.refl [] _).drew) (by simp)
    rw [LEN.out] at this
    exact this)
  have KV : Hid (Kept [] w V) := Lib.hid (by rw [hV]; exact (Kept.of_below BW.out).trans (Kept.drewN [] W nq) (by simp))
  have HVH := Lib.hid HV
  have NW : Hid (w.heap.size ∉ gp) := Lib.hid (fun hx => by have := SM.out w.heap.size hx; omega)
  clear b0 b1 hcW c0 c1 f1 fKW hV
  have e1a : (V.alloc (.cells #[.string s, .string t] 100)).cell? ⟨lb, 1, none⟩ = some (.slice A l cap) := (Kept.alloc V _).cell e1 (by simp)
  go_region_law ((refine step_append_rown rfl _ _ 95 95 rfl 100 _ 2 32 Tryd.underlying95 info100 rfl l _ (by rfl) (RW.out _) _ (by rfl) 1 (textCells [(s, t)]) (Src.ofSlice _ Tryd.underlying95 ⟨V.heap.size, 0, none⟩ 1 1 _ rfl (World.news_of_block (heap_alloc_new V _)) (textCells_one _)) (by decide) (by simp [maxLen]; omega) (by omega) ?_; intro g o cap' w1 hrow1 hk1 hg1; have addF := add_facts HVH.out NE.out NW.out d0 d1 hk1; have addG := addF.2; have addH := addF.1; clear addF; have R1 := Lib.hid hrow1; have K1 := Lib.hid hk1; have G1 := Lib.hid hg1; clear hrow1 hk1 hg1))
  all_goals
    have dK1 := addG.2.out.1.cell dK NE.out
    have fK1 : w1.frozen? ⟨lb, K, none⟩ = false := by simp [World.frozen?, addG.2.out.2]
    have fin := add_fin HVH.out LEN.out HT.out HL.out addG.2.out.1 R1.out (G1.out.imp id (fun e => by rw [e]; exact (Kept.alloc V _).size))
    have FIN := Lib.hid fin
    clear fin addG addH
    rcases KH.out with rfl | rfl
  all_goals
    go_wp2
    go_ret
    exact ⟨rfl, lleft_of KV.out FIN.out.1 FIN.out.2.1 FIN.out.2.2⟩
end

end Go.Proofs.YtkpbjahjiajodaaDoor
