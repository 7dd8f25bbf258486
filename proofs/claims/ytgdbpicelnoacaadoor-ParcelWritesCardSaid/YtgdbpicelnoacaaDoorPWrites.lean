/- This text proves ParcelWrites over the loaded program: every packet can be or can't, and has the bytes that the document says. -/
import Derived.Test.YtgdbpicelnoacaaDoorOpenItems
import Derived.Test.YtgdbpicelnoacaaDoorPar
import Derived.Test.YtgdbpicelnoacaaDoorNumber
import Derived.Test.YtgdbpicelnoacaaDoorLaid
import Derived.Test.YtgdbpicelnoacaaDoorRef24a
import Derived.OpenShut
import Derived.Test.YtgdbpicelnoacaaDoorAwake24
import Derived.Test.YtgdbpicelnoacaaDoorRGood3
import Derived.Test.YtgdbpicelnoacaaDoorREnc5
namespace Go.Proofs.YtgdbpicelnoacaaDoor
section
open Go.RowKit Go.ChangeShapes

theorem open_nums {H : Type} {enc : TypeId × Value → H} {W : World} {a : Option Addr} {len cap : Nat} (h : ReadsV enc Tryd.prog W 58 [.slice a len cap]) : ∃ l : List Int, len = l.length ∧ l.length ≤ maxLen ∧ (∀ x ∈ l, In64 x) ∧ Cells W a (iv l) := by
  have hc : Tryd.prog.cellsOf 3 = 1 := by kernel_rfl
  obtain ⟨h1, h2, he⟩ := open_elems Tryd.underlying58 (by rw [hc]; omega) h
  obtain ⟨l, hl, hr⟩ := list_of len (fun i (x : Int) => In64 x ∧ ∃ b o, a = some ⟨b, o, none⟩ ∧ W.cell? ⟨b, o + i, none⟩ = some (.int .i64 x)) (by
    intro i hi
    obtain ⟨cs, hcl, ⟨b, o, ha, hcell⟩, hrd⟩ := he i hi
    rw [hc] at hcell
    obtain ⟨x, rfl, g⟩ := reads_int Tryd.underlying3 hrd
    have := hcell 0 _ rfl
    rw [Nat.mul_one] at this
    exact ⟨x, in64_of g, b, o, ha, this⟩)
  refine ⟨l, hl.symm, by omega, fun x hx => ?_, fun i v hv => ?_⟩
  · obtain ⟨i, hi, rfl⟩ := List.getElem_of_mem hx
    exact (hr i _ (by simp [hi])).1
  · unfold iv at hv
    rw [List.getElem?_map] at hv
    obtain ⟨x, hx, rfl⟩ := Option.map_eq_some_iff.1 hv
    exact (hr i x hx).2

/-- A packet that came in, its inputs of whatever number. -/
def Par.came (w : World) (p : Par) : Prop := In64 p.kind ∧ In64 p.nonce ∧ In64 p.frm ∧ In64 p.base ∧ In64 p.ack ∧ (0 ≤ p.sum ∧ p.sum < 18446744073709551616) ∧ p.ins.length ≤ maxLen ∧ (∀ x ∈ p.ins, In64 x) ∧ Cells w p.X (iv p.ins)
theorem Par.came.ok {w : World} {p : Par} (h : p.came w) (hl : p.ins.length ≤ 1000000) : p.ok w := by
  obtain ⟨h1, h2, h3, h4, h5, h6, h7, h8, h9⟩ := h
  exact ⟨h1, h2, h3, h4, h5, h6, hl, h8, h9⟩
theorem reads_of_agg {H : Type} {enc : TypeId × Value → H} {P : Program} {W : World} {t : TypeId} {cs : Array Value} {d : DataW H} {p : List MemPlace} (h : DataW.Trod enc P W 0 (fun _ => true) true t (.agg cs) d p) : ReadsV enc P W t cs.toList := by
  obtain ⟨n, hn⟩ := h
  exact ⟨n, _, hn⟩
theorem u64_of {n : Int} (h : (Lit.int .u64 n).wf = true) : 0 ≤ n ∧ n < 18446744073709551616 := by
  have g : IntKind.u64.min ≤ n ∧ n ≤ IntKind.u64.max := by simpa [Lit.wf] using h
  have g1 : IntKind.u64.min = 0 := by decide
  have g2 : IntKind.u64.max = 18446744073709551615 := by decide
  rw [g1, g2] at g
  omega
theorem open_par {H : Type} {enc : TypeId × Value → H} {W : World} {v : Value} {d : DataW H} {pl : List MemPlace} (hv : ∃ cs, v = .agg cs ∧ cs.size = Tryd.prog.cellsOf 61) (h : DataW.Trod enc Tryd.prog W 0 (fun _ => true) true 61 v d pl) : ∃ p : Par, v = p.v ∧ p.came W := by
  obtain ⟨cs, rfl, hs⟩ := hv
  have hrd := reads_of_agg h
  have hc : Tryd.prog.cellsOf 61 = 7 := by kernel_rfl
  have c3 : Tryd.prog.cellsOf 3 = 1 := by kernel_rfl
  have c59 : Tryd.prog.cellsOf 59 = 1 := by kernel_rfl
  have c58 : Tryd.prog.cellsOf 58 = 1 := by kernel_rfl
  rw [hc] at hs
  obtain ⟨cl⟩ := cs
  match cl, hs with
  | [v0, v1, v2, v3, v4, v5, v6], _ =>
    have r0 : ReadsV enc Tryd.prog W 3 [v0] := reads_at Tryd.underlying61 hrd 0 rfl rfl rfl c3
    have r1 : ReadsV enc Tryd.prog W 3 [v1] := reads_at Tryd.underlying61 hrd 1 rfl rfl rfl c3
    have r2 : ReadsV enc Tryd.prog W 3 [v2] := reads_at Tryd.underlying61 hrd 2 rfl rfl rfl c3
    have r3 : ReadsV enc Tryd.prog W 3 [v3] := reads_at Tryd.underlying61 hrd 3 rfl rfl rfl c3
    have r4 : ReadsV enc Tryd.prog W 58 [v4] := reads_at Tryd.underlying61 hrd 4 rfl rfl rfl c58
    have r5 : ReadsV enc Tryd.prog W 3 [v5] := reads_at Tryd.underlying61 hrd 5 rfl rfl rfl c3
    have r6 : ReadsV enc Tryd.prog W 59 [v6] := reads_at Tryd.underlying61 hrd 6 rfl rfl rfl c59
    obtain ⟨x0, e0, g0⟩ := reads_int Tryd.underlying3 r0
    obtain ⟨x1, e1, g1⟩ := reads_int Tryd.underlying3 r1
    obtain ⟨x2, e2, g2⟩ := reads_int Tryd.underlying3 r2
    obtain ⟨x3, e3, g3⟩ := reads_int Tryd.underlying3 r3
    obtain ⟨x5, e5, g5⟩ := reads_int Tryd.underlying3 r5
    obtain ⟨x6, e6, g6⟩ := reads_int Tryd.underlying59 r6
    obtain ⟨X, n4, c, e4⟩ := reads_slice Tryd.underlying58 r4
    rw [e4] at r4
    obtain ⟨ins, hi, g4, g7, g8⟩ := open_nums r4
    simp at e0 e1 e2 e3 e4 e5 e6
    subst e0 e1 e2 e3 e4 e5 e6 hi
    exact ⟨⟨x0, x1, x2, x3, ins, x5, x6, X, c⟩, rfl, in64_of g0, in64_of g1, in64_of g2, in64_of g3, in64_of g5, u64_of g6, g4, g7, g8⟩
end

section
theorem apartOf {W : World} (L : List (List UInt8)) (hn : L.Nodup) (H : ∀ j t, L[j]? = some t → ErrLies W j t) : ∃ Ad, Apart L.length W Ad := by
  have H2 : ∀ j, ∃ a, j < L.length → ∃ s, W.cell? ⟨j, 0, none⟩ = some (.iface 139 (.pointer (some a))) ∧ W.cell? a = some (.string s) ∧ L[j]? = some s.data.toList ∧ ∃ c t, W.heap[a.block]? = some (.cells c t (0, 0)) := by
    intro j
    by_cases hj : j < L.length
    · obtain ⟨a, s, h1, h2, h3, h4⟩ := H j L[j] (List.getElem?_eq_getElem hj)
      exact ⟨a, fun _ => ⟨s, h1, h2, by rw [h3, List.getElem?_eq_getElem hj], h4⟩⟩
    · exact ⟨⟨0, 0, none⟩, fun h => absurd h hj⟩
  refine ⟨fun j => (H2 j).choose, fun j hj => ?_, fun i j hi hj hij e => ?_⟩
  · obtain ⟨s, h1, _, _, h4⟩ := (H2 j).choose_spec hj
    exact ⟨h1, h4⟩
  · obtain ⟨s, _, h2, h3, _⟩ := (H2 i).choose_spec hi
    obtain ⟨s', _, k2, k3, _⟩ := (H2 j).choose_spec hj
    dsimp only at e
    rw [e, k2] at h2
    cases h2
    exact hij ((List.getElem?_inj hi hn).1 (h3.trans k3.symm))
end

section
open Go.RowKit Go.WideShapes
set_option linter.unusedSimpArgs false

def nm : Nat → ByteArray
  | 0 => ⟨#[115, 121, 110, 99]⟩
  | 1 => ⟨#[114, 101, 112, 108, 121]⟩
  | 2 => ⟨#[105, 110, 112, 117, 116, 115]⟩
  | 3 => ⟨#[114, 101, 112, 111, 114, 116]⟩
  | 4 => ⟨#[97, 108, 105, 118, 101]⟩
  | _ => ⟨#[98, 121, 101]⟩
/-- The row of words lies there. -/
def NamesAt (w : World) : Prop := ∀ j, j < 6 → w.cell? ⟨5, j, none⟩ = some (.string (nm j))
theorem NamesAt.below {w w' : World} (h : NamesAt w) (hb : Below w.heap.size w w') : NamesAt w' := fun j hj =>
  (hb.cell (p := ⟨5, j, none⟩) (World.block_lt_of_cell? w _ (h j hj))).trans (h j hj)
def nameS (k : Int) : ByteArray := if 1 ≤ k ∧ k ≤ 6 then nm (k - 1).toNat else ⟨#[]⟩

set_option maxRecDepth 100000 in
theorem name_any (k : Int) (w : World) (h : NamesAt w) : Calls Tryd.prog 45 #[.int .i64 k] w fun e w' => e = .returned (.string (nameS k)) ∧ w = w' := by
  unfold nameS
  by_cases h1 : k < 1
  · rw [if_neg (by omega)]
    clear h
    go_enter Tryd.func45, Tryd.ntmps45
    go_wp2
    go_ret
    exact ⟨rfl, rfl⟩
  by_cases h2 : 6 < k
  · rw [if_neg (by omega)]
    clear h
    have q : decide (k < 1) = false := by simpa using h1
    clear h1
    go_enter Tryd.func45, Tryd.ntmps45
    go_wp2
    go_ret
    exact ⟨rfl, rfl⟩
  have n0 := h 0 (by decide)
  have n1 := h 1 (by decide)
  have n2 := h 2 (by decide)
  have n3 := h 3 (by decide)
  have n4 := h 4 (by decide)
  have n5 := h 5 (by decide)
  clear h
  have hks : k = 1 ∨ k = 2 ∨ k = 3 ∨ k = 4 ∨ k = 5 ∨ k = 6 := by omega
  clear h1 h2
  rcases hks with rfl | rfl | rfl | rfl | rfl | rfl
  all_goals
    go_enter Tryd.func45, Tryd.ntmps45
    go_wp2
    go_ret
    exact ⟨rfl, rfl⟩
set_option maxRecDepth 100000 in
theorem nameR_any (k : Int) (w : World) : Calls Tryd.prog 46 #[.int .i64 k] w fun e w' => e = .returned (.string (nameS k)) ∧ w = w' := by
  unfold nameS
  by_cases hk : 1 ≤ k ∧ k ≤ 6
  · have hks : k = 1 ∨ k = 2 ∨ k = 3 ∨ k = 4 ∨ k = 5 ∨ k = 6 := by omega
    clear hk
    rcases hks with rfl | rfl | rfl | rfl | rfl | rfl
    all_goals
      go_enter Tryd.func46, Tryd.ntmps46
      go_wp2
      go_ret
      exact ⟨rfl, rfl⟩
  · rw [if_neg hk]
    have k1 : (k == 1) = false := by rw [beq_eq_false_iff_ne]; omega
    have k2 : (k == 2) = false := by rw [beq_eq_false_iff_ne]; omega
    have k3 : (k == 3) = false := by rw [beq_eq_false_iff_ne]; omega
    have k4 : (k == 4) = false := by rw [beq_eq_false_iff_ne]; omega
    have k5 : (k == 5) = false := by rw [beq_eq_false_iff_ne]; omega
    have k6 : (k == 6) = false := by rw [beq_eq_false_iff_ne]; omega
    clear hk
    go_enter Tryd.func46, Tryd.ntmps46
    go_wp2
    go_ret
    exact ⟨rfl, rfl⟩
end

section
open Go.ChangeShapes Go.WideShapes Go.RowKit

def namesD : DataW Unit := .agg [.lit (.string [115, 121, 110, 99]), .lit (.string [114, 101, 112, 108, 121]), .lit (.string [105, 110, 112, 117, 116, 115]), .lit (.string [114, 101, 112, 111, 114, 116]), .lit (.string [97, 108, 105, 118, 101]), .lit (.string [98, 121, 101])]
theorem bytes_of_list {s : ByteArray} {l : List UInt8} (h : s.data.toList = l) : s = ⟨l.toArray⟩ := by
  apply ByteArray.ext
  apply Array.ext'
  simpa using h
theorem names_lie {W : World} : ∀ (L : List (String × DataW Unit)) (ps : List MemPlace), DataW.LaidVars Tryd.prog W L ps →
    ∀ n, (n, namesD) ∈ L → Tryd.prog.globalNamed n = some 5 → (Tryd.prog.globals[5]?).map (·.type) = some 105 → NamesAt W
  | [], _, _, _, hm, _, _ => by cases hm
  | (n0, d0) :: r, ps, h, n, hm, hg, ht => by
    obtain ⟨g0, t0, cs0, f0, p0, q0, hg0, ht0, hv0, hd0, hr, rfl⟩ := h
    rcases List.mem_cons.1 hm with e | hm'
    · cases e
      obtain rfl := Option.some.inj (hg.symm.trans hg0)
      obtain rfl := Option.some.inj (ht.symm.trans ht0)
      have c9 : Tryd.prog.cellsOf 9 = 1 := by kernel_rfl
      obtain ⟨xs, m, _, hx, _, hl, hel⟩ := DataW.trod_array Tryd.underlying105 hd0
      have hx1 := congrArg Prod.fst hx
      unfold namesD at hx1
      simp only [DataW.agg.injEq] at hx1
      intro j hj
      have hc := World.var?_cell hg hv0 j
      have he := hel j hj
      rw [c9] at he
      have hjx : j < xs.length := by rw [hl]; exact hj
      rw [List.getElem?_eq_getElem hjx] at he
      obtain ⟨s, hs, hxs, _⟩ := DataW.trod_string Tryd.underlying9 he
      have hcs : cs0.toList[j]? = some (.string s) := by
        have := congrArg (fun l => l[0]?) hs
        simpa using this
      have hd : (xs.map (·.1))[j]? = some (.lit (.string s.data.toList)) := by
        rw [List.getElem?_map, List.getElem?_eq_getElem hjx, hxs]
        rfl
      rw [← hx1] at hd
      rw [hc]
      have e2 : cs0[j]? = some (.string s) := by simpa using hcs
      rw [e2]
      have hjs : j = 0 ∨ j = 1 ∨ j = 2 ∨ j = 3 ∨ j = 4 ∨ j = 5 := by omega
      rcases hjs with rfl | rfl | rfl | rfl | rfl | rfl
      all_goals
        simp only [List.getElem?_cons_zero, List.getElem?_cons_succ, Option.some.injEq, DataW.lit.injEq, Lit.string.injEq] at hd
        rw [bytes_of_list hd.symm]
        rfl
    · exact names_lie r q0 hr n hm' hg ht
theorem names_of {W : World} {L : List (String × DataW Unit)} (h : laidMet Tryd.prog L W) (n : String) (hm : (n, namesD) ∈ L) (hg : Tryd.prog.globalNamed n = some 5) (ht : (Tryd.prog.globals[5]?).map (·.type) = some 105) : NamesAt W := by
  obtain ⟨ps, hv, _, _⟩ := h
  exact names_lie L ps hv n hm hg ht

/-- A world in which the errors numbered in L lie, and the kinds' words. -/
noncomputable def laidWorldN (os : Os) (L : List (Nat × List UInt8)) : World :=
  { laidWorld os L with heap := (laidWorld os L).heap.modify 5 fun
      | .cells _ t frozen => .cells #[.string (nm 0), .string (nm 1), .string (nm 2), .string (nm 3), .string (nm 4), .string (nm 5)] t frozen
      | o => o }
end

section
open Go.RowKit Go.WideShapes
set_option linter.unusedSimpArgs false

/-- Two packets' blocks. -/
def TwoP (W : World) (a b : Par) (w : World) : Prop := Below W.heap.size W w ∧ w.heap[W.heap.size]? = some (.cells a.cs 61 (0, 0)) ∧ w.heap[W.heap.size + 1]? = some (.cells b.cs 61 (0, 0))
theorem TwoP.start (W : World) (a b : Par) : TwoP W a b ((W.alloc (.cells a.cs 61)).alloc (.cells b.cs 61)) := by
  refine ⟨below_two W _ _, (alloc_old _ _ _ (by rw [size_alloc1]; omega)).trans (heap_alloc_new W _), ?_⟩
  have := heap_alloc_new (W.alloc (.cells a.cs 61)) (.cells b.cs 61)
  rw [size_alloc1] at this
  exact this
theorem TwoP.step {W : World} {a b : Par} {w w' : World} (h : TwoP W a b w) (hb : Below w.heap.size w w') : TwoP W a b w' :=
  ⟨h.1.trans (hb.mono h.1.size), (hb.block _ (Array.getElem?_eq_some_iff.1 h.2.1).1).trans h.2.1, (hb.block _ (Array.getElem?_eq_some_iff.1 h.2.2).1).trans h.2.2⟩

theorem TwoP.cells {W w : World} {kind nonce frm base : Int} {ins : List Int} {ack sum : Int} {X : Option Addr} {c : Nat} {kind' nonce' frm' base' : Int} {ins' : List Int} {ack' sum' : Int} {X' : Option Addr} {c' : Nat} (h : TwoP W ⟨kind, nonce, frm, base, ins, ack, sum, X, c⟩ ⟨kind', nonce', frm', base', ins', ack', sum', X', c'⟩ w) : w.cell? ⟨W.heap.size, 0, none⟩ = some (.int .i64 kind) ∧ w.cell? ⟨W.heap.size, 1, none⟩ = some (.int .i64 nonce) ∧ w.cell? ⟨W.heap.size, 2, none⟩ = some (.int .i64 frm) ∧ w.cell? ⟨W.heap.size, 3, none⟩ = some (.int .i64 base) ∧ w.cell? ⟨W.heap.size, 4, none⟩ = some (.slice X ins.length c) ∧ w.cell? ⟨W.heap.size, 5, none⟩ = some (.int .i64 ack) ∧ w.cell? ⟨W.heap.size, 6, none⟩ = some (.int .u64 sum) ∧ w.cell? ⟨W.heap.size + 1, 0, none⟩ = some (.int .i64 kind') ∧ w.cell? ⟨W.heap.size + 1, 1, none⟩ = some (.int .i64 nonce') ∧ w.cell? ⟨W.heap.size + 1, 2, none⟩ = some (.int .i64 frm') ∧ w.cell? ⟨W.heap.size + 1, 3, none⟩ = some (.int .i64 base') ∧ w.cell? ⟨W.heap.size + 1, 4, none⟩ = some (.slice X' ins'.length c') ∧ w.cell? ⟨W.heap.size + 1, 5, none⟩ = some (.int .i64 ack') ∧ w.cell? ⟨W.heap.size + 1, 6, none⟩ = some (.int .u64 sum') := by
  have h1 : w.heap[W.heap.size]? = some (.cells #[.int .i64 kind, .int .i64 nonce, .int .i64 frm, .int .i64 base, .slice X ins.length c, .int .i64 ack, .int .u64 sum] 61 (0, 0)) := h.2.1
  have h2 : w.heap[W.heap.size + 1]? = some (.cells #[.int .i64 kind', .int .i64 nonce', .int .i64 frm', .int .i64 base', .slice X' ins'.length c', .int .i64 ack', .int .u64 sum'] 61 (0, 0)) := h.2.2
  refine ⟨?_, ?_, ?_, ?_, ?_, ?_, ?_, ?_, ?_, ?_, ?_, ?_, ?_, ?_⟩
  all_goals first | (simp only [World.cell?, h1]; rfl) | (simp only [World.cell?, h2]; rfl)
theorem TwoP.drew {W w : World} {a b : Par} (h : TwoP W a b w) : TwoP W a b w.drew := h.step ⟨rfl, rfl, rfl, Nat.le_refl _, fun _ _ => rfl⟩
end

section
open Go.RowKit Go.WideShapes
set_option linter.unusedSimpArgs false

set_option maxRecDepth 100000 in
set_option maxHeartbeats 12800000 in
theorem pwrites_any (W : World) (A : Nat → Addr) (hA : Apart 5 W A) (hN : NamesAt W) (a : Par) (ha : a.came W) (b : Par) (hb : b.came W) (nk : Int) (_hk : (Lit.int .i64 nk).wf = true) : Calls Tryd.prog 12 #[a.v, b.v, .int .i64 nk] W fun e W' => e = .returned (.bool true) ∧ Below W.heap.size W W' := by
  have T0 := Lib.hid (TwoP.start W a b)
  have AA := Lib.hid (fun w' (h : TwoP W a b w') => hA.below h.1)
  have AW := Lib.hid (awake24_any A _ (AA.out _ T0.out))
  have GA := Lib.hid (fun w' (h : TwoP W a b w') (hl : a.ins.length ≤ 1000000) => good_any a w' ((ha.ok hl).below h.1))
  have GR := Lib.hid (fun w' (h : TwoP W a b w') (hl : a.ins.length ≤ 1000000) => rgood_any a w' (ha.2.2.2.2.2.2.2.2.below h.1) hl)
  have SA := Lib.hid (fun w' (h : TwoP W a b w') (hl : a.ins.length ≤ 1000000) => psame_any a b w' (ha.2.2.2.2.2.2.2.2.below h.1) (hb.2.2.2.2.2.2.2.2.below h.1) hl)
  have SR := Lib.hid (fun w' (h : TwoP W a b w') (hl : a.ins.length ≤ 1000000) => rsame_any a b w' (ha.2.2.2.2.2.2.2.2.below h.1) (hb.2.2.2.2.2.2.2.2.below h.1) hl)
  have NA := Lib.hid (fun w' (h : TwoP W a b w') => name_any nk w' (hN.below h.1))
  have NR := Lib.hid (nameR_any nk)
  have EA := Lib.hid (fun w' (h : TwoP W a b w') (hl : a.ins.length ≤ 1000000) => enc_good A a w' ((ha.ok hl).below h.1) ((AA.out _ h).glob (by decide)))
  have FA := Lib.hid (fun w' (h : TwoP W a b w') (hl : a.ins.length ≤ 1000000) => enc_bad A a w' ((ha.ok hl).below h.1) ((AA.out _ h).glob (by decide)))
  have ER := Lib.hid (fun w' (h : TwoP W a b w') => renc_any a w' (ha.2.2.2.2.2.2.2.2.below h.1))
  have LS := Lib.hid (fun (h : a.good = true) => show (strB (encP a)).size ≤ 104 by rw [strB_size]; exact encP_short h)
  obtain ⟨ga, hga⟩ : ∃ ga, a.good = ga := ⟨_, rfl⟩
  rw [hga] at EA FA GA GR ER LS
  obtain ⟨sm, hsm⟩ : ∃ sm, a.same b = sm := ⟨_, rfl⟩
  rw [hsm] at SA SR
  obtain ⟨Sa, hSa⟩ : ∃ Sa, strB (encP a) = Sa := ⟨_, rfl⟩
  rw [hSa] at EA ER LS
  obtain ⟨ns, hns⟩ : ∃ ns, nameS nk = ns := ⟨_, rfl⟩
  rw [hns] at NA NR
  clear hA ha hb hga hsm hSa hns hN
  obtain ⟨kind, nonce, frm, base, ins, ack, sum, X, c⟩ := a
  obtain ⟨kind', nonce', frm', base', ins', ack', sum', X', c'⟩ := b
  unfold Par.v at *
  dsimp only at *
  unfold Par.cs at AW
  dsimp only at AW
  by_cases l1 : 100 < ins.length
  · have q1 : (100 : Int) < (ins.length : Int) := by omega
    clear l1
    go_enter Tryd.func12, Tryd.ntmps12
    go_wp2_with fail
    refine AW.out.mono ?_
    rintro e w1 ⟨rfl, hb1⟩
    have T1 := Lib.hid (T0.out.step hb1)
    clear hb1
    have x1 := T1.out.2.1
    have p4 : w1.cell? ⟨W.heap.size, 4, none⟩ = some (.slice X ins.length c) := by simp only [World.cell?, x1]; rfl
    clear x1
    go_wp2_with fail
    go_ret
    exact ⟨rfl, T1.out.1⟩
  have q1 : (ins.length : Int) ≤ 100 := by omega
  have Q1 : Hid (ins.length ≤ 1000000) := Lib.hid (by omega)
  clear l1
  by_cases l2 : 100 < ins'.length
  · have q2 : (100 : Int) < (ins'.length : Int) := by omega
    clear l2
    go_enter Tryd.func12, Tryd.ntmps12
    go_wp2_with fail
    refine AW.out.mono ?_
    rintro e w1 ⟨rfl, hb1⟩
    have T1 := Lib.hid (T0.out.step hb1)
    clear hb1
    have x1 := T1.out.2.1
    have y1 := T1.out.2.2
    have p4 : w1.cell? ⟨W.heap.size, 4, none⟩ = some (.slice X ins.length c) := by simp only [World.cell?, x1]; rfl
    have r4 : w1.cell? ⟨W.heap.size + 1, 4, none⟩ = some (.slice X' ins'.length c') := by simp only [World.cell?, y1]; rfl
    clear x1 y1
    go_wp2_with fail
    go_ret
    exact ⟨rfl, T1.out.1⟩
  have q2 : (ins'.length : Int) ≤ 100 := by omega
  have Q2 : Hid (ins'.length ≤ 1000000) := Lib.hid (by omega)
  clear l2
  go_enter Tryd.func12, Tryd.ntmps12
  go_wp2_with fail
  refine AW.out.mono ?_
  rintro e w1 ⟨rfl, hb1⟩
  have T1 := Lib.hid (T0.out.step hb1)
  clear hb1
  obtain ⟨p0, p1, p2, p3, p4, p5, p6, r0, r1, r2, r3, r4, r5, r6⟩ := T1.out.cells
  go_wp2_with fail
  refine (GR.out _ T1.out Q1.out).mono ?_
  rintro e w2 ⟨rfl, hb2⟩
  have T2 := Lib.hid (T1.out.step hb2)
  clear p0 p1 p2 p3 p4 p5 p6 r0 r1 r2 r3 r4 r5 r6
  obtain ⟨p0, p1, p2, p3, p4, p5, p6, r0, r1, r2, r3, r4, r5, r6⟩ := T2.out.cells
  clear hb2
  go_wp2_with fail
  clear p0 p1 p2 p3 p4 p5 p6 r0 r1 r2 r3 r4 r5 r6
  cases ga with
  | false =>
    refine (FA.out _ T2.out Q1.out (by first | trivial | rfl)).mono ?_
    rintro e w3 ⟨⟨va, rfl, hwa⟩, hb3⟩
    have T3 := Lib.hid (T2.out.step hb3)
    have WH := Lib.hid hwa
    obtain ⟨ba, Ca, rfl, -, -⟩ := hwa
    clear hb3
    have T3d := Lib.hid T3.out.drew
    have GD := Lib.hid (GA.out _ T3d.out Q1.out)
    have S3 := T3d.out.cells
    have S3' := S3
    obtain ⟨p0, p1, p2, p3, p4, p5, p6, r0, r1, r2, r3, r4, r5, r6⟩ := S3'
    go_wp2_with fail
    refine wp_region_held_drew (S := (fun w' => w'.cell? ⟨W.heap.size, 0, none⟩ = some (.int .i64 kind) ∧ w'.cell? ⟨W.heap.size, 1, none⟩ = some (.int .i64 nonce) ∧ w'.cell? ⟨W.heap.size, 2, none⟩ = some (.int .i64 frm) ∧ w'.cell? ⟨W.heap.size, 3, none⟩ = some (.int .i64 base) ∧ w'.cell? ⟨W.heap.size, 4, none⟩ = some (.slice X ins.length c) ∧ w'.cell? ⟨W.heap.size, 5, none⟩ = some (.int .i64 ack) ∧ w'.cell? ⟨W.heap.size, 6, none⟩ = some (.int .u64 sum) ∧ w'.cell? ⟨W.heap.size + 1, 0, none⟩ = some (.int .i64 kind') ∧ w'.cell? ⟨W.heap.size + 1, 1, none⟩ = some (.int .i64 nonce') ∧ w'.cell? ⟨W.heap.size + 1, 2, none⟩ = some (.int .i64 frm') ∧ w'.cell? ⟨W.heap.size + 1, 3, none⟩ = some (.int .i64 base') ∧ w'.cell? ⟨W.heap.size + 1, 4, none⟩ = some (.slice X' ins'.length c') ∧ w'.cell? ⟨W.heap.size + 1, 5, none⟩ = some (.int .i64 ack') ∧ w'.cell? ⟨W.heap.size + 1, 6, none⟩ = some (.int .u64 sum'))) (by kernel_rfl) ?_ (fun hHeld => ?_)
    · (try dsimp only); (first | exact S3 | exact S4 | exact S5 | exact S6 | exact S7 | exact S8)
    refine wpAnyH_take (i := 0) (v := ?_) rfl (by kernel_rfl) (by kernel_rfl) (by kernel_rfl) (fun _ _ _ h => h) (Or.inl ⟨by rfl, ?_⟩) (by assumption) ?_
    rotate_left; · (intro w hSw; (try dsimp only at hSw); go_simp; try with_reducible rfl)
    (try simp only [Act.put, List.setIfInBounds_toArray, List.set_cons_zero, List.set_cons_succ, List.getElem_toArray, List.getElem_cons_zero, List.getElem_cons_succ])
    refine wpAnyH_take (i := 2) (v := ?_) rfl (by kernel_rfl) (by kernel_rfl) (by kernel_rfl) (fun _ _ _ h => h) (Or.inl ⟨by rfl, ?_⟩) (by assumption) ?_
    rotate_left; · (intro w hSw; (try dsimp only at hSw); go_simp; try with_reducible rfl)
    (try simp only [Act.put, List.setIfInBounds_toArray, List.set_cons_zero, List.set_cons_succ, List.getElem_toArray, List.getElem_cons_zero, List.getElem_cons_succ])
    refine wpAnyH_ready (rs := [1]) (by kernel_rfl) (by simp) ?_
    refine AllReadyH.cons rfl (fun K hK => ?_) AllReadyH.nil
    (try simp only [List.getElem_toArray, List.getElem_cons_zero, List.getElem_cons_succ])
    go_simp
    (refine GD.out.mono ?_; rintro e w4 ⟨rfl, hb4⟩; have T4 := T3d.out.step hb4; have S4 := T4.cells)
    refine hK.out _ _ ?_ (fun hHeld2 => ?_)
    · (try dsimp only); (first | exact S3 | exact S4 | exact S5 | exact S6 | exact S7 | exact S8)
    clear hK K hHeld
    have hHeld := hHeld2
    clear hHeld2
    (try simp only [Act.put, List.setIfInBounds_toArray, List.set_cons_zero, List.set_cons_succ, List.getElem_toArray, List.getElem_cons_zero, List.getElem_cons_succ])
    refine wpAnyH_take (i := 3) (v := ?_) rfl (by kernel_rfl) (by kernel_rfl) (by kernel_rfl) (fun _ _ _ h => h) (Or.inl ⟨by rfl, ?_⟩) (by assumption) ?_
    rotate_left; · (intro w hSw; (try dsimp only at hSw); go_simp; try with_reducible rfl)
    (try simp only [Act.put, List.setIfInBounds_toArray, List.set_cons_zero, List.set_cons_succ, List.getElem_toArray, List.getElem_cons_zero, List.getElem_cons_succ])
    refine wpAnyH_take (i := 4) (v := ?_) rfl (by kernel_rfl) (by kernel_rfl) (by kernel_rfl) (fun _ _ _ h => h) (Or.inl ⟨by rfl, ?_⟩) (by assumption) ?_
    rotate_left; · (intro w hSw; (try dsimp only at hSw); go_simp; try with_reducible rfl)
    (try simp only [Act.put, List.setIfInBounds_toArray, List.set_cons_zero, List.set_cons_succ, List.getElem_toArray, List.getElem_cons_zero, List.getElem_cons_succ])
    refine wpAnyH_take (i := 5) (v := ?_) rfl (by kernel_rfl) (by kernel_rfl) (by kernel_rfl) (fun _ _ _ h => h) (Or.inl ⟨by rfl, ?_⟩) (by assumption) ?_
    rotate_left; · (intro w hSw; (try dsimp only at hSw); go_simp; try with_reducible rfl)
    (try simp only [Act.put, List.setIfInBounds_toArray, List.set_cons_zero, List.set_cons_succ, List.getElem_toArray, List.getElem_cons_zero, List.getElem_cons_succ])
    refine wpAnyH_take (i := 6) (v := ?_) rfl (by kernel_rfl) (by kernel_rfl) (by kernel_rfl) (fun _ _ _ h => h) (Or.inl ⟨by rfl, ?_⟩) (by assumption) ?_
    rotate_left; · (intro w hSw; (try dsimp only at hSw); go_simp; try with_reducible rfl)
    (try simp only [Act.put, List.setIfInBounds_toArray, List.set_cons_zero, List.set_cons_succ, List.getElem_toArray, List.getElem_cons_zero, List.getElem_cons_succ])
    refine wpAnyH_take (i := 8) (v := ?_) rfl (by kernel_rfl) (by kernel_rfl) (by kernel_rfl) (fun _ _ _ h => h) (Or.inl ⟨by rfl, ?_⟩) (by assumption) ?_
    rotate_left; · (intro w hSw; (try dsimp only at hSw); go_simp; try with_reducible rfl)
    (try simp only [Act.put, List.setIfInBounds_toArray, List.set_cons_zero, List.set_cons_succ, List.getElem_toArray, List.getElem_cons_zero, List.getElem_cons_succ])
    refine wpAnyH_take (i := 9) (v := ?_) rfl (by kernel_rfl) (by kernel_rfl) (by kernel_rfl) (fun _ _ _ h => h) (Or.inl ⟨by rfl, ?_⟩) (by assumption) ?_
    rotate_left; · (intro w hSw; (try dsimp only at hSw); go_simp; try with_reducible rfl)
    (try simp only [Act.put, List.setIfInBounds_toArray, List.set_cons_zero, List.set_cons_succ, List.getElem_toArray, List.getElem_cons_zero, List.getElem_cons_succ])
    refine wpAnyH_ready (rs := [7]) (by kernel_rfl) (by simp) ?_
    refine AllReadyH.cons rfl (fun K hK => ?_) AllReadyH.nil
    (try simp only [List.getElem_toArray, List.getElem_cons_zero, List.getElem_cons_succ])
    go_simp
    (refine (SA.out _ T4 Q1.out).mono ?_; rintro e w5 ⟨rfl, hb5⟩; have T5 := T4.step hb5; have S5 := T5.cells)
    refine hK.out _ _ ?_ (fun hHeld2 => ?_)
    · (try dsimp only); (first | exact S3 | exact S4 | exact S5 | exact S6 | exact S7 | exact S8)
    clear hK K hHeld
    have hHeld := hHeld2
    clear hHeld2
    (try simp only [Act.put, List.setIfInBounds_toArray, List.set_cons_zero, List.set_cons_succ, List.getElem_toArray, List.getElem_cons_zero, List.getElem_cons_succ])
    refine wpAnyH_ready (rs := [10]) (by kernel_rfl) (by simp) ?_
    refine AllReadyH.cons rfl (fun K hK => ?_) AllReadyH.nil
    (try simp only [List.getElem_toArray, List.getElem_cons_zero, List.getElem_cons_succ])
    go_simp
    (refine (SR.out _ T5 Q1.out).mono ?_; rintro e w6 ⟨rfl, hb6⟩; have T6 := T5.step hb6; have S6 := T6.cells)
    refine hK.out _ _ ?_ (fun hHeld2 => ?_)
    · (try dsimp only); (first | exact S3 | exact S4 | exact S5 | exact S6 | exact S7 | exact S8)
    clear hK K hHeld
    have hHeld := hHeld2
    clear hHeld2
    (try simp only [Act.put, List.setIfInBounds_toArray, List.set_cons_zero, List.set_cons_succ, List.getElem_toArray, List.getElem_cons_zero, List.getElem_cons_succ])
    refine wpAnyH_take (i := 11) (v := ?_) rfl (by kernel_rfl) (by kernel_rfl) (by kernel_rfl) (fun _ _ _ h => h) (Or.inl ⟨by rfl, ?_⟩) (by assumption) ?_
    rotate_left; · (intro w hSw; (try dsimp only at hSw); go_simp; try with_reducible rfl)
    (try simp only [Act.put, List.setIfInBounds_toArray, List.set_cons_zero, List.set_cons_succ, List.getElem_toArray, List.getElem_cons_zero, List.getElem_cons_succ])
    refine wpAnyH_take (i := 12) (v := ?_) rfl (by kernel_rfl) (by kernel_rfl) (by kernel_rfl) (fun _ _ _ h => h) (Or.inl ⟨by rfl, ?_⟩) (by assumption) ?_
    rotate_left; · (intro w hSw; (try dsimp only at hSw); go_simp; try with_reducible rfl)
    (try simp only [Act.put, List.setIfInBounds_toArray, List.set_cons_zero, List.set_cons_succ, List.getElem_toArray, List.getElem_cons_zero, List.getElem_cons_succ])
    refine wpAnyH_take (i := 13) (v := ?_) rfl (by kernel_rfl) (by kernel_rfl) (by kernel_rfl) (fun _ _ _ h => h) (Or.inl ⟨by rfl, ?_⟩) (by assumption) ?_
    rotate_left; · (intro w hSw; (try dsimp only at hSw); go_simp; try with_reducible rfl)
    (try simp only [Act.put, List.setIfInBounds_toArray, List.set_cons_zero, List.set_cons_succ, List.getElem_toArray, List.getElem_cons_zero, List.getElem_cons_succ])
    refine wpAnyH_take (i := 14) (v := ?_) rfl (by kernel_rfl) (by kernel_rfl) (by kernel_rfl) (fun _ _ _ h => h) (Or.inl ⟨by rfl, ?_⟩) (by assumption) ?_
    rotate_left; · (intro w hSw; (try dsimp only at hSw); go_simp; try with_reducible rfl)
    (try simp only [Act.put, List.setIfInBounds_toArray, List.set_cons_zero, List.set_cons_succ, List.getElem_toArray, List.getElem_cons_zero, List.getElem_cons_succ])
    refine wpAnyH_take (i := 16) (v := ?_) rfl (by kernel_rfl) (by kernel_rfl) (by kernel_rfl) (fun _ _ _ h => h) (Or.inl ⟨by rfl, ?_⟩) (by assumption) ?_
    rotate_left; · (intro w hSw; (try dsimp only at hSw); go_simp; try with_reducible rfl)
    (try simp only [Act.put, List.setIfInBounds_toArray, List.set_cons_zero, List.set_cons_succ, List.getElem_toArray, List.getElem_cons_zero, List.getElem_cons_succ])
    refine wpAnyH_ready (rs := [15]) (by kernel_rfl) (by simp) ?_
    refine AllReadyH.cons rfl (fun K hK => ?_) AllReadyH.nil
    (try simp only [List.getElem_toArray, List.getElem_cons_zero, List.getElem_cons_succ])
    go_simp
    (refine (NA.out _ T6).mono ?_; rintro e w7 ⟨rfl, rfl⟩; have S7 := T6.cells)
    refine hK.out _ _ ?_ (fun hHeld2 => ?_)
    · (try dsimp only); (first | exact S3 | exact S4 | exact S5 | exact S6 | exact S7 | exact S8)
    clear hK K hHeld
    have hHeld := hHeld2
    clear hHeld2
    (try simp only [Act.put, List.setIfInBounds_toArray, List.set_cons_zero, List.set_cons_succ, List.getElem_toArray, List.getElem_cons_zero, List.getElem_cons_succ])
    refine wpAnyH_ready (rs := [17]) (by kernel_rfl) (by simp) ?_
    refine AllReadyH.cons rfl (fun K hK => ?_) AllReadyH.nil
    (try simp only [List.getElem_toArray, List.getElem_cons_zero, List.getElem_cons_succ])
    go_simp
    (refine (NR.out _).mono ?_; rintro e w8 ⟨rfl, rfl⟩; have S8 := T6.cells)
    refine hK.out _ _ ?_ (fun hHeld2 => ?_)
    · (try dsimp only); (first | exact S3 | exact S4 | exact S5 | exact S6 | exact S7 | exact S8)
    clear hK K hHeld
    have hHeld := hHeld2
    clear hHeld2
    (try simp only [Act.put, List.setIfInBounds_toArray, List.set_cons_zero, List.set_cons_succ, List.getElem_toArray, List.getElem_cons_zero, List.getElem_cons_succ])
    refine wpAnyH_take (i := 18) (v := ?_) rfl (by kernel_rfl) (by kernel_rfl) (by kernel_rfl) (fun _ _ _ h => h) (Or.inl ⟨by rfl, ?_⟩) (by assumption) ?_
    rotate_left; · (intro w hSw; (try dsimp only at hSw); go_simp; try with_reducible rfl)
    (try simp only [Act.put, List.setIfInBounds_toArray, List.set_cons_zero, List.set_cons_succ, List.getElem_toArray, List.getElem_cons_zero, List.getElem_cons_succ])
    refine wpAnyH_take (i := 19) (v := ?_) rfl (by kernel_rfl) (by kernel_rfl) (by kernel_rfl) (fun _ _ _ h => h) (Or.inl ⟨by rfl, ?_⟩) (by assumption) ?_
    rotate_left; · (intro w hSw; (try dsimp only at hSw); go_simp; try with_reducible rfl)
    (try simp only [Act.put, List.setIfInBounds_toArray, List.set_cons_zero, List.set_cons_succ, List.getElem_toArray, List.getElem_cons_zero, List.getElem_cons_succ])
    refine wpAnyH_done (by kernel_rfl) ?_ _
    have T6h := Lib.hid T6
    have IS := Lib.hid ((WH.out.below (show Below w3.heap.size w3 w6 from ((show Below w3.heap.size w3 w3.drew from ⟨rfl, rfl, rfl, Nat.le_refl _, fun _ _ => rfl⟩).trans hb4).trans ((hb5.trans (hb6.mono hb5.size)).mono hb4.size))).is)
    have g1 := ((AA.out _ T6).1 1 (by decide)).1
    clear S3 S4 S5 S6 S7 S8 hb4 hb5 hb6 T4 T5 T6
    clear p0 p1 p2 p3 p4 p5 p6 r0 r1 r2 r3 r4 r5 r6
    go_wp2_with fail
    refine IS.out.mono ?_
    rintro e w9 ⟨rfl, rfl⟩
    go_wp2_with fail
    go_ret
    exact ⟨rfl, T6h.out.1⟩
  | true =>
    refine (EA.out _ T2.out Q1.out (by first | trivial | rfl)).mono ?_
    rintro e w3 ⟨rfl, hb3⟩
    have T3 := Lib.hid (T2.out.step hb3)
    clear hb3
    have T3d := Lib.hid T3.out.drew
    have GD := Lib.hid (GA.out _ T3d.out Q1.out)
    have S3 := T3d.out.cells
    have S3' := S3
    obtain ⟨p0, p1, p2, p3, p4, p5, p6, r0, r1, r2, r3, r4, r5, r6⟩ := S3'
    go_wp2_with fail
    refine wp_region_held_drew (S := (fun w' => w'.cell? ⟨W.heap.size, 0, none⟩ = some (.int .i64 kind) ∧ w'.cell? ⟨W.heap.size, 1, none⟩ = some (.int .i64 nonce) ∧ w'.cell? ⟨W.heap.size, 2, none⟩ = some (.int .i64 frm) ∧ w'.cell? ⟨W.heap.size, 3, none⟩ = some (.int .i64 base) ∧ w'.cell? ⟨W.heap.size, 4, none⟩ = some (.slice X ins.length c) ∧ w'.cell? ⟨W.heap.size, 5, none⟩ = some (.int .i64 ack) ∧ w'.cell? ⟨W.heap.size, 6, none⟩ = some (.int .u64 sum) ∧ w'.cell? ⟨W.heap.size + 1, 0, none⟩ = some (.int .i64 kind') ∧ w'.cell? ⟨W.heap.size + 1, 1, none⟩ = some (.int .i64 nonce') ∧ w'.cell? ⟨W.heap.size + 1, 2, none⟩ = some (.int .i64 frm') ∧ w'.cell? ⟨W.heap.size + 1, 3, none⟩ = some (.int .i64 base') ∧ w'.cell? ⟨W.heap.size + 1, 4, none⟩ = some (.slice X' ins'.length c') ∧ w'.cell? ⟨W.heap.size + 1, 5, none⟩ = some (.int .i64 ack') ∧ w'.cell? ⟨W.heap.size + 1, 6, none⟩ = some (.int .u64 sum'))) (by kernel_rfl) ?_ (fun hHeld => ?_)
    · (try dsimp only); (first | exact S3 | exact S4 | exact S5 | exact S6 | exact S7 | exact S8)
    refine wpAnyH_take (i := 0) (v := ?_) rfl (by kernel_rfl) (by kernel_rfl) (by kernel_rfl) (fun _ _ _ h => h) (Or.inl ⟨by rfl, ?_⟩) (by assumption) ?_
    rotate_left; · (intro w hSw; (try dsimp only at hSw); go_simp; try with_reducible rfl)
    (try simp only [Act.put, List.setIfInBounds_toArray, List.set_cons_zero, List.set_cons_succ, List.getElem_toArray, List.getElem_cons_zero, List.getElem_cons_succ])
    refine wpAnyH_take (i := 2) (v := ?_) rfl (by kernel_rfl) (by kernel_rfl) (by kernel_rfl) (fun _ _ _ h => h) (Or.inl ⟨by rfl, ?_⟩) (by assumption) ?_
    rotate_left; · (intro w hSw; (try dsimp only at hSw); go_simp; try with_reducible rfl)
    (try simp only [Act.put, List.setIfInBounds_toArray, List.set_cons_zero, List.set_cons_succ, List.getElem_toArray, List.getElem_cons_zero, List.getElem_cons_succ])
    refine wpAnyH_ready (rs := [1]) (by kernel_rfl) (by simp) ?_
    refine AllReadyH.cons rfl (fun K hK => ?_) AllReadyH.nil
    (try simp only [List.getElem_toArray, List.getElem_cons_zero, List.getElem_cons_succ])
    go_simp
    (refine GD.out.mono ?_; rintro e w4 ⟨rfl, hb4⟩; have T4 := T3d.out.step hb4; have S4 := T4.cells)
    refine hK.out _ _ ?_ (fun hHeld2 => ?_)
    · (try dsimp only); (first | exact S3 | exact S4 | exact S5 | exact S6 | exact S7 | exact S8)
    clear hK K hHeld
    have hHeld := hHeld2
    clear hHeld2
    (try simp only [Act.put, List.setIfInBounds_toArray, List.set_cons_zero, List.set_cons_succ, List.getElem_toArray, List.getElem_cons_zero, List.getElem_cons_succ])
    refine wpAnyH_take (i := 3) (v := ?_) rfl (by kernel_rfl) (by kernel_rfl) (by kernel_rfl) (fun _ _ _ h => h) (Or.inl ⟨by rfl, ?_⟩) (by assumption) ?_
    rotate_left; · (intro w hSw; (try dsimp only at hSw); go_simp; try with_reducible rfl)
    (try simp only [Act.put, List.setIfInBounds_toArray, List.set_cons_zero, List.set_cons_succ, List.getElem_toArray, List.getElem_cons_zero, List.getElem_cons_succ])
    refine wpAnyH_take (i := 4) (v := ?_) rfl (by kernel_rfl) (by kernel_rfl) (by kernel_rfl) (fun _ _ _ h => h) (Or.inl ⟨by rfl, ?_⟩) (by assumption) ?_
    rotate_left; · (intro w hSw; (try dsimp only at hSw); go_simp; try with_reducible rfl)
    (try simp only [Act.put, List.setIfInBounds_toArray, List.set_cons_zero, List.set_cons_succ, List.getElem_toArray, List.getElem_cons_zero, List.getElem_cons_succ])
    refine wpAnyH_take (i := 5) (v := ?_) rfl (by kernel_rfl) (by kernel_rfl) (by kernel_rfl) (fun _ _ _ h => h) (Or.inl ⟨by rfl, ?_⟩) (by assumption) ?_
    rotate_left; · (intro w hSw; (try dsimp only at hSw); go_simp; try with_reducible rfl)
    (try simp only [Act.put, List.setIfInBounds_toArray, List.set_cons_zero, List.set_cons_succ, List.getElem_toArray, List.getElem_cons_zero, List.getElem_cons_succ])
    refine wpAnyH_take (i := 6) (v := ?_) rfl (by kernel_rfl) (by kernel_rfl) (by kernel_rfl) (fun _ _ _ h => h) (Or.inl ⟨by rfl, ?_⟩) (by assumption) ?_
    rotate_left; · (intro w hSw; (try dsimp only at hSw); go_simp; try with_reducible rfl)
    (try simp only [Act.put, List.setIfInBounds_toArray, List.set_cons_zero, List.set_cons_succ, List.getElem_toArray, List.getElem_cons_zero, List.getElem_cons_succ])
    refine wpAnyH_take (i := 8) (v := ?_) rfl (by kernel_rfl) (by kernel_rfl) (by kernel_rfl) (fun _ _ _ h => h) (Or.inl ⟨by rfl, ?_⟩) (by assumption) ?_
    rotate_left; · (intro w hSw; (try dsimp only at hSw); go_simp; try with_reducible rfl)
    (try simp only [Act.put, List.setIfInBounds_toArray, List.set_cons_zero, List.set_cons_succ, List.getElem_toArray, List.getElem_cons_zero, List.getElem_cons_succ])
    refine wpAnyH_take (i := 9) (v := ?_) rfl (by kernel_rfl) (by kernel_rfl) (by kernel_rfl) (fun _ _ _ h => h) (Or.inl ⟨by rfl, ?_⟩) (by assumption) ?_
    rotate_left; · (intro w hSw; (try dsimp only at hSw); go_simp; try with_reducible rfl)
    (try simp only [Act.put, List.setIfInBounds_toArray, List.set_cons_zero, List.set_cons_succ, List.getElem_toArray, List.getElem_cons_zero, List.getElem_cons_succ])
    refine wpAnyH_ready (rs := [7]) (by kernel_rfl) (by simp) ?_
    refine AllReadyH.cons rfl (fun K hK => ?_) AllReadyH.nil
    (try simp only [List.getElem_toArray, List.getElem_cons_zero, List.getElem_cons_succ])
    go_simp
    (refine (SA.out _ T4 Q1.out).mono ?_; rintro e w5 ⟨rfl, hb5⟩; have T5 := T4.step hb5; have S5 := T5.cells)
    refine hK.out _ _ ?_ (fun hHeld2 => ?_)
    · (try dsimp only); (first | exact S3 | exact S4 | exact S5 | exact S6 | exact S7 | exact S8)
    clear hK K hHeld
    have hHeld := hHeld2
    clear hHeld2
    (try simp only [Act.put, List.setIfInBounds_toArray, List.set_cons_zero, List.set_cons_succ, List.getElem_toArray, List.getElem_cons_zero, List.getElem_cons_succ])
    refine wpAnyH_ready (rs := [10]) (by kernel_rfl) (by simp) ?_
    refine AllReadyH.cons rfl (fun K hK => ?_) AllReadyH.nil
    (try simp only [List.getElem_toArray, List.getElem_cons_zero, List.getElem_cons_succ])
    go_simp
    (refine (SR.out _ T5 Q1.out).mono ?_; rintro e w6 ⟨rfl, hb6⟩; have T6 := T5.step hb6; have S6 := T6.cells)
    refine hK.out _ _ ?_ (fun hHeld2 => ?_)
    · (try dsimp only); (first | exact S3 | exact S4 | exact S5 | exact S6 | exact S7 | exact S8)
    clear hK K hHeld
    have hHeld := hHeld2
    clear hHeld2
    (try simp only [Act.put, List.setIfInBounds_toArray, List.set_cons_zero, List.set_cons_succ, List.getElem_toArray, List.getElem_cons_zero, List.getElem_cons_succ])
    refine wpAnyH_take (i := 11) (v := ?_) rfl (by kernel_rfl) (by kernel_rfl) (by kernel_rfl) (fun _ _ _ h => h) (Or.inl ⟨by rfl, ?_⟩) (by assumption) ?_
    rotate_left; · (intro w hSw; (try dsimp only at hSw); go_simp; try with_reducible rfl)
    (try simp only [Act.put, List.setIfInBounds_toArray, List.set_cons_zero, List.set_cons_succ, List.getElem_toArray, List.getElem_cons_zero, List.getElem_cons_succ])
    refine wpAnyH_take (i := 12) (v := ?_) rfl (by kernel_rfl) (by kernel_rfl) (by kernel_rfl) (fun _ _ _ h => h) (Or.inl ⟨by rfl, ?_⟩) (by assumption) ?_
    rotate_left; · (intro w hSw; (try dsimp only at hSw); go_simp; try with_reducible rfl)
    (try simp only [Act.put, List.setIfInBounds_toArray, List.set_cons_zero, List.set_cons_succ, List.getElem_toArray, List.getElem_cons_zero, List.getElem_cons_succ])
    refine wpAnyH_take (i := 13) (v := ?_) rfl (by kernel_rfl) (by kernel_rfl) (by kernel_rfl) (fun _ _ _ h => h) (Or.inl ⟨by rfl, ?_⟩) (by assumption) ?_
    rotate_left; · (intro w hSw; (try dsimp only at hSw); go_simp; try with_reducible rfl)
    (try simp only [Act.put, List.setIfInBounds_toArray, List.set_cons_zero, List.set_cons_succ, List.getElem_toArray, List.getElem_cons_zero, List.getElem_cons_succ])
    refine wpAnyH_take (i := 14) (v := ?_) rfl (by kernel_rfl) (by kernel_rfl) (by kernel_rfl) (fun _ _ _ h => h) (Or.inl ⟨by rfl, ?_⟩) (by assumption) ?_
    rotate_left; · (intro w hSw; (try dsimp only at hSw); go_simp; try with_reducible rfl)
    (try simp only [Act.put, List.setIfInBounds_toArray, List.set_cons_zero, List.set_cons_succ, List.getElem_toArray, List.getElem_cons_zero, List.getElem_cons_succ])
    refine wpAnyH_take (i := 16) (v := ?_) rfl (by kernel_rfl) (by kernel_rfl) (by kernel_rfl) (fun _ _ _ h => h) (Or.inl ⟨by rfl, ?_⟩) (by assumption) ?_
    rotate_left; · (intro w hSw; (try dsimp only at hSw); go_simp; try with_reducible rfl)
    (try simp only [Act.put, List.setIfInBounds_toArray, List.set_cons_zero, List.set_cons_succ, List.getElem_toArray, List.getElem_cons_zero, List.getElem_cons_succ])
    refine wpAnyH_ready (rs := [15]) (by kernel_rfl) (by simp) ?_
    refine AllReadyH.cons rfl (fun K hK => ?_) AllReadyH.nil
    (try simp only [List.getElem_toArray, List.getElem_cons_zero, List.getElem_cons_succ])
    go_simp
    (refine (NA.out _ T6).mono ?_; rintro e w7 ⟨rfl, rfl⟩; have S7 := T6.cells)
    refine hK.out _ _ ?_ (fun hHeld2 => ?_)
    · (try dsimp only); (first | exact S3 | exact S4 | exact S5 | exact S6 | exact S7 | exact S8)
    clear hK K hHeld
    have hHeld := hHeld2
    clear hHeld2
    (try simp only [Act.put, List.setIfInBounds_toArray, List.set_cons_zero, List.set_cons_succ, List.getElem_toArray, List.getElem_cons_zero, List.getElem_cons_succ])
    refine wpAnyH_ready (rs := [17]) (by kernel_rfl) (by simp) ?_
    refine AllReadyH.cons rfl (fun K hK => ?_) AllReadyH.nil
    (try simp only [List.getElem_toArray, List.getElem_cons_zero, List.getElem_cons_succ])
    go_simp
    (refine (NR.out _).mono ?_; rintro e w8 ⟨rfl, rfl⟩; have S8 := T6.cells)
    refine hK.out _ _ ?_ (fun hHeld2 => ?_)
    · (try dsimp only); (first | exact S3 | exact S4 | exact S5 | exact S6 | exact S7 | exact S8)
    clear hK K hHeld
    have hHeld := hHeld2
    clear hHeld2
    (try simp only [Act.put, List.setIfInBounds_toArray, List.set_cons_zero, List.set_cons_succ, List.getElem_toArray, List.getElem_cons_zero, List.getElem_cons_succ])
    refine wpAnyH_take (i := 18) (v := ?_) rfl (by kernel_rfl) (by kernel_rfl) (by kernel_rfl) (fun _ _ _ h => h) (Or.inl ⟨by rfl, ?_⟩) (by assumption) ?_
    rotate_left; · (intro w hSw; (try dsimp only at hSw); go_simp; try with_reducible rfl)
    (try simp only [Act.put, List.setIfInBounds_toArray, List.set_cons_zero, List.set_cons_succ, List.getElem_toArray, List.getElem_cons_zero, List.getElem_cons_succ])
    refine wpAnyH_take (i := 19) (v := ?_) rfl (by kernel_rfl) (by kernel_rfl) (by kernel_rfl) (fun _ _ _ h => h) (Or.inl ⟨by rfl, ?_⟩) (by assumption) ?_
    rotate_left; · (intro w hSw; (try dsimp only at hSw); go_simp; try with_reducible rfl)
    (try simp only [Act.put, List.setIfInBounds_toArray, List.set_cons_zero, List.set_cons_succ, List.getElem_toArray, List.getElem_cons_zero, List.getElem_cons_succ])
    refine wpAnyH_done (by kernel_rfl) ?_ _
    have T6h := Lib.hid T6
    clear p0 p1 p2 p3 p4 p5 p6 r0 r1 r2 r3 r4 r5 r6
    obtain ⟨p0, p1, p2, p3, p4, p5, p6, r0, r1, r2, r3, r4, r5, r6⟩ := T6h.out.cells
    have EH := Lib.hid (ER.out _ T6 (by first | trivial | rfl))
    have ls := LS.out (by first | trivial | rfl)
    have ls2 : (Sa.size : Int) ≤ 512 := by omega
    clear S3 S4 S5 S6 S7 S8 hb4 hb5 hb6 T4 T5 T6 ls
    go_wp2_with fail
    refine EH.out.mono ?_
    rintro e w9 ⟨rfl, hb9⟩
    have T9 := Lib.hid (T6h.out.step hb9)
    clear hb9
    go_wp2_with fail
    go_ret
    exact ⟨rfl, T9.out.1⟩
end

end Go.Proofs.YtgdbpicelnoacaaDoor
