/- This text proves what the queue's other methods compute, over the loaded program: refusals, uses, a new queue, and the small ones. -/
import Derived.Test.YtpidjmgapiekaaaGreatDoorQueue
namespace Go.Proofs.YtpidjmgapiekaaaGreatDoor
open Go.RowKit Go.WideShapes

theorem Refused.drewN {w : World} {k : Nat} {a : Addr} {e : Ending} {w' : World} (h : Refused (w.drewN k) a e w') : Refused w a e w' := by
  obtain ⟨v, he, hw, hb, b, hv, hs⟩ := h
  exact ⟨v, he, hw, ⟨hb.os, hb.tape, hb.output, hb.size, hb.block⟩, b, hv, hs⟩

section
variable {w : World} {qb m g o cap n : Nat} {q : Que}

set_option maxRecDepth 100000 in
set_option maxHeartbeats 1600000 in
theorem put_err (h : QAt w qb m g o cap n q) (hok : q.ok) (f x : Int) (j : Nat) (a : Addr) (he : q.err f x = some j) (hs : w.cell? ⟨j, 0, none⟩ = some (.iface 221 (.pointer (some a)))) :
    Calls Tryz.prog 78 #[.pointer (some ⟨qb, 0, none⟩), .int .i64 f, .int .i64 x] w (Refused w a) := by
  have hlast := last_any h hok
  obtain ⟨L, hL⟩ : ∃ x, q.last = x := ⟨_, rfl⟩
  unfold Que.err at he
  rw [hL] at hlast he
  have hL' := hL
  unfold Que.last at hL'
  obtain ⟨hL1, hL2⟩ : -1 ≤ L ∧ L ≤ 1073741825 := by obtain ⟨h1, h2, h3⟩ := hok; omega
  have c1 := h.c1
  have c4 := h.c4
  have H := Lib.hid h
  have OK := Lib.hid hok
  have LL := Lib.hid hL
  obtain ⟨l, hlen⟩ : ∃ x, q.xs.length = x := ⟨_, rfl⟩
  obtain ⟨cl, hcl⟩ : ∃ x, q.closed = x := ⟨_, rfl⟩
  rw [hlen] at c1 he
  rw [hcl] at c4 he
  clear h hok hL hL' hlen hcl
  by_cases h1 : x < 0 ∨ 255 < x
  · rw [if_pos h1] at he
    obtain rfl : 1 = j := by simpa using he
    clear he
    go_enter Tryz.func78, Tryz.ntmps78
    go_wp2_with fail
    all_goals refine (refuse_any _ _).mono ?_
    all_goals rintro e w1 ⟨v, rfl, hR⟩
    all_goals go_wp2
    all_goals go_ret
    all_goals exact ⟨v, rfl, hR⟩
  · rw [if_neg h1] at he
    have t1 : decide (x < 0) = false := by simp; omega
    have t2 : decide (255 < x) = false := by simp; omega
    clear h1
    cases cl
    · rw [if_neg (by simp)] at he
      by_cases h3 : f ≤ L
      · rw [if_pos h3] at he
        obtain rfl : 7 = j := by simpa using he
        clear he
        go_enter Tryz.func78, Tryz.ntmps78
        go_wp2_with fail
        refine hlast.mono ?_
        rintro e w1 ⟨rfl, k1, rfl⟩
        go_wp2_with fail
        refine (refuse_any a _).mono ?_
        rintro e w1 ⟨v, rfl, hR⟩
        go_wp2
        go_ret
        exact Refused.drewN (k := k1) ⟨v, rfl, hR⟩
      · rw [if_neg h3] at he
        have t3 : decide (f ≤ L) = false := by simp; omega
        have hlast2 : ∀ k, Calls Tryz.prog 51 #[.pointer (some ⟨qb, 0, none⟩)] (w.drewN k) (Reads (w.drewN k) (.int .i64 L)) := fun k => by
          have := last_any (H.out.kept (Kept.drewN [] w k) (by simp) (by simp) (by simp)) OK.out
          rwa [LL.out] at this
        by_cases h4 : L + 1 < f
        · rw [if_pos h4] at he
          obtain rfl : 1 = j := by simpa using he
          clear he h3
          go_enter Tryz.func78, Tryz.ntmps78
          go_wp2_with fail
          refine hlast.mono ?_
          rintro e w1 ⟨rfl, k1, rfl⟩
          go_wp2_with fail
          refine (hlast2 k1).mono ?_
          rintro e w1 ⟨rfl, k2, rfl⟩
          go_wp2_with fail
          refine (refuse_any a _).mono ?_
          rintro e w1 ⟨v, rfl, hR⟩
          go_wp2
          go_ret
          exact Refused.drewN (k := k1 + k2) ⟨v, rfl, hR⟩
        · rw [if_neg h4] at he
          have t4 : decide (L + 1 < f) = false := by simp; omega
          by_cases h5 : 1073741824 < f ∨ 256 ≤ l
          · rw [if_pos h5] at he
            obtain rfl : 6 = j := by simpa using he
            clear he h3 h4
            have HL := Lib.hid hlast
            have HL2 := Lib.hid hlast2
            clear hlast hlast2
            by_cases h6 : 1073741824 < f
            · clear h5
              go_enter Tryz.func78, Tryz.ntmps78
              go_wp2_with fail
              refine HL.out.mono ?_
              rintro e w1 ⟨rfl, k1, rfl⟩
              go_wp2_with fail
              refine (HL2.out k1).mono ?_
              rintro e w1 ⟨rfl, k2, rfl⟩
              go_wp2_with fail
              refine (refuse_any a _).mono ?_
              rintro e w1 ⟨v, rfl, hR⟩
              go_wp2
              go_ret
              exact Refused.drewN (k := k1 + k2) ⟨v, rfl, hR⟩
            · have t5 : decide (1073741824 < f) = false := by simp; omega
              have h7 : (256 : Int) ≤ (l : Int) := by omega
              clear h5 h6
              go_enter Tryz.func78, Tryz.ntmps78
              go_wp2_with fail
              refine HL.out.mono ?_
              rintro e w1 ⟨rfl, k1, rfl⟩
              go_wp2_with fail
              refine (HL2.out k1).mono ?_
              rintro e w1 ⟨rfl, k2, rfl⟩
              go_wp2_with fail
              refine (refuse_any a _).mono ?_
              rintro e w1 ⟨v, rfl, hR⟩
              go_wp2
              go_ret
              exact Refused.drewN (k := k1 + k2) ⟨v, rfl, hR⟩
          · rw [if_neg h5] at he
            cases he
    · rw [if_pos rfl] at he
      obtain rfl : 2 = j := by simpa using he
      clear he
      go_enter Tryz.func78, Tryz.ntmps78
      go_wp2_with fail
      refine (refuse_any a _).mono ?_
      rintro e w1 ⟨v, rfl, hR⟩
      go_wp2
      go_ret
      exact ⟨v, rfl, hR⟩

/-- Put of no queue. -/
theorem put_nil (w : World) (f x : Int) (a : Addr) (hs : w.cell? ⟨0, 0, none⟩ = some (.iface 221 (.pointer (some a)))) :
    Calls Tryz.prog 78 #[.pointer none, .int .i64 f, .int .i64 x] w (Refused w a) := by
  go_enter Tryz.func78, Tryz.ntmps78
  go_wp2_with fail
  refine (refuse_any a _).mono ?_
  rintro e w1 ⟨v, rfl, hR⟩
  go_wp2
  go_ret
  exact ⟨v, rfl, hR⟩

/-- Use. -/
def Que.use (q : Que) (f : Int) : Que := if (q.get f).2 = false ∧ q.first ≤ f ∧ f ≤ 1073741824 then { q with g := fun j => if j = f then some (q.get f).1 else q.g j } else q

theorem use_hit {f : Int} (h : (q.get f).2 = false) (h1 : q.first ≤ f) (h2 : f ≤ 1073741824) : q.use f = { q with g := fun j => if j = f then some (q.get f).1 else q.g j } := by
  unfold Que.use; rw [if_pos ⟨h, h1, h2⟩]
theorem use_miss {f : Int} (h : (q.get f).2 = true ∨ f < q.first ∨ 1073741824 < f) : q.use f = q := by
  unfold Que.use
  rw [if_neg]
  rintro ⟨h1, h2, h3⟩
  rcases h with h | h | h
  · rw [h1] at h; cases h
  · omega
  · omega

def DoneU (w : World) (qb m g o cap n : Nat) (q : Que) (v : Value) (e : Ending) (w' : World) : Prop :=
  e = .returned v ∧ QAt w' qb m g o cap n q ∧ Kept [m] w w'

theorem QAt.mono {n' : Nat} (h : QAt w qb m g o cap n q) (hn : n ≤ n') : QAt w qb m g o cap n' q := by
  obtain ⟨D, hD, hG⟩ := h.map
  exact ⟨h.cell, h.row, D, hD.mono hn, hG⟩

set_option maxRecDepth 100000 in
set_option maxHeartbeats 1600000 in
theorem use_any (h : QAt w qb m g o cap n q) (hok : q.ok) (hn : n < 1000000) (f : Int) (hf : (Lit.int .i64 f).wf = true) (hx : (Lit.int .i64 (q.get f).1).wf = true) :
    Calls Tryz.prog 155 #[.pointer (some ⟨qb, 0, none⟩), .int .i64 f] w (DoneU w qb m g o cap (n + 1) (q.use f) (.tuple #[.int .i64 (q.get f).1, .bool (q.get f).2])) := by
  have hget := get_any h hok f
  obtain ⟨x, hxx⟩ : ∃ x, (q.get f).1 = x := ⟨_, rfl⟩
  obtain ⟨b, hb⟩ : ∃ b, (q.get f).2 = b := ⟨_, rfl⟩
  have c0 := h.c0
  have c2 := h.c2
  obtain ⟨fst, hfst⟩ : ∃ x, q.first = x := ⟨_, rfl⟩
  rw [hfst] at c0
  obtain ⟨Q', hQ'⟩ : ∃ Q', q.use f = Q' := ⟨_, rfl⟩
  rw [hQ']
  rw [hxx] at hx hget ⊢
  rw [hb] at hget ⊢
  have HQ := Lib.hid hQ'
  have HB := Lib.hid hb
  have HXX := Lib.hid hxx
  have HF := Lib.hid hf
  have HX := Lib.hid hx
  have FST := Lib.hid hfst
  have H := Lib.hid h
  clear h hok hxx hb hfst hf hx hQ'
  have hmapK : ∀ k, MapIs (w.drewN k) m n q.g := fun k => (H.out.kept (Kept.drewN [] w k) (by simp) (by simp) (by simp)).map
  have MK := Lib.hid hmapK
  clear hmapK
  cases b <;> (
  go_enter Tryz.func155, Tryz.ntmps155
  go_wp2_with fail
  refine hget.mono ?_
  rintro e w1 ⟨rfl, k1, rfl⟩
  go_wp2_with (first
    | (at_mapUpdate; refine wpList_put rfl _ _ _ rfl m n q.g f x rfl (MK.out _) (by simp [maxLen]; omega) rfl HF.out rfl HX.out ?_; intro w' hm' hgr)
    | fail)
  all_goals go_ret2
  all_goals first
    | (have hh := use_miss (q := q) (f := f) (by first | exact .inl HB.out | exact .inr (.inl (by rw [FST.out]; omega)) | exact .inr (.inr (by omega)))
       rw [HQ.out] at hh
       subst hh
       exact ⟨rfl, (H.out.mono (Nat.le_succ n)).kept (Kept.drewN [] w _) (by simp) (by simp) (by simp), Kept.drewN _ w _⟩)
    | (have hh := use_hit (q := q) (f := f) HB.out (by rw [FST.out]; omega) (by omega)
       rw [HQ.out, HXX.out] at hh
       subst hh
       have hk : Kept [m] w w' := (Kept.drewN [m] w k1).trans (Kept.of_grown hgr) (fun y hy => .inl hy)
       refine ⟨rfl, ⟨?_, ?_, hm'⟩, hk⟩
       · exact (hk.block qb H.out.lt (by simpa using H.out.ne_map)).trans H.out.cell
       · exact H.out.row.kept hk (by simpa using H.out.row_ne_map)))

/-- New. -/
def Que.new (d : Nat) : Que := { first := 1, xs := List.replicate d 0, g := fun _ => none, wrong := 0, closed := false, fin := 0 }

def DoneN (w : World) (d : Nat) (e : Ending) (w' : World) : Prop :=
  ∃ qb m g, e = .returned (.tuple #[.pointer (some ⟨qb, 0, none⟩), .nilIface]) ∧ QAt w' qb m g 0 d 0 (Que.new d) ∧ Below w.heap.size w w' ∧ w.heap.size ≤ qb ∧ w.heap.size ≤ m ∧ w.heap.size ≤ g

theorem make_ints (w : World) (m : Nat) (hm : m ≤ 4096) : (Instr.makeSlice 49 (.int .i64 (m : Int)) (.int .i64 (m : Int))).run Tryz.prog w = .ok (.slice (some ⟨w.heap.size, 0, none⟩) m m) (w.alloc (.cells ((List.replicate m (0 : Int)).map (Value.int .i64)).toArray 3)) := by
  obtain ⟨i0, hi, hz0, hz1, hz2⟩ := info_parts info3
  have h := run_make (P := Tryz.prog) w 49 3 i0 (.int .i64 0) Tryz.underlying49 hi hz0 .i64 .i64 (m : Int) (m : Int) (by omega) (Int.le_refl _) (by rw [hz2]; omega) (by omega)
  rw [h]
  simp only [Int.toNat_natCast, hz1, Nat.mul_one]
  have e : madeCells (Value.int .i64 0).cells m = ((List.replicate m (0 : Int)).map (Value.int .i64)).toArray := by
    apply Array.ext'
    show (madeCells #[Value.int .i64 0] m).toList = _
    rw [toList_madeCells_one]
    simp
  rw [e]

set_option maxRecDepth 100000 in
set_option maxHeartbeats 1000000 in
theorem new_any (d : Nat) (w : World) (hd : d ≤ 6) : Calls Tryz.prog 85 #[.int .i64 d] w (DoneN w d) := by
  have hmk := make_ints w d (by omega)
  have hmm := @run_makeMap Tryz.prog
  have t1 : decide ((d : Int) < 0) = false := by simp
  have t2 : decide (6 < (d : Int)) = false := by simp; omega
  go_enter Tryz.func85, Tryz.ntmps85
  go_wp2_with fail
  go_ret2
  obtain ⟨A, hA⟩ : ∃ A : Array Value, A = Array.replicate d (.int .i64 0) := ⟨_, rfl⟩
  rw [← hA]
  have s1 : (w.alloc (.cells A 3)).heap.size = w.heap.size + 1 := Array.size_push ..
  have s2 : ((w.alloc (.cells A 3)).alloc (.map #[] 0)).heap.size = w.heap.size + 1 + 1 := (Array.size_push ..).trans (congrArg (· + 1) s1)
  have hr : RowAt (w.alloc (.cells A 3)) 3 1 w.heap.size 0 d d ((List.replicate d (0 : Int)).map (Value.int .i64)) :=
    ⟨by simp, Nat.le_refl _, by simp [maxLen]; omega, A, heap_alloc_new w _, by rw [hA]; simp, fun i v h => by rw [hA, Nat.zero_add, ← Array.getElem?_toList, Array.toList_replicate, ← List.map_replicate]; exact h⟩
  have hm := MapIs.made (w.alloc (.cells A 3))
  have hq := heap_alloc_new ((w.alloc (.cells A 3)).alloc (.map #[] 0)) (.cells #[.int .i64 1, .slice (some ⟨w.heap.size, 0, none⟩) d d, .map (some (w.heap.size + 1)), .int .i64 0, .bool false, .int .i64 0] 158)
  rw [s2] at hq
  rw [s1] at hm
  refine ⟨w.heap.size + 1 + 1, w.heap.size + 1, w.heap.size, rfl, ⟨?_, ?_, ?_⟩, ?_, by omega, by omega, Nat.le_refl _⟩
  · rw [hq]; simp [Que.new]
  · have := (hr.kept (Kept.alloc _ (.map #[] 0)) (by simp)).kept (Kept.alloc _ (.cells #[.int .i64 1, .slice (some ⟨w.heap.size, 0, none⟩) d d, .map (some (w.heap.size + 1)), .int .i64 0, .bool false, .int .i64 0] 158)) (by simp)
    simpa [Que.new] using this
  · exact hm.kept (Kept.alloc _ _) (by simp)
  · exact (((Below.refl _ _).alloc (Nat.le_refl _) _).alloc (by omega) _).alloc (by omega) _

/-- New with a number that can't be. -/
theorem new_err (d : Int) (w : World) (hd : d < 0 ∨ 6 < d) (a : Addr) (hs : w.cell? ⟨1, 0, none⟩ = some (.iface 221 (.pointer (some a)))) :
    Calls Tryz.prog 85 #[.int .i64 d] w fun e w' => ∃ v, e = .returned (.tuple #[.pointer none, v]) ∧ Refused w a (.returned v) w' := by
  go_enter Tryz.func85, Tryz.ntmps85
  go_wp2_with fail
  all_goals refine (refuse_any a _).mono ?_
  all_goals rintro e w1 ⟨v, rfl, hR⟩
  all_goals go_wp2
  all_goals go_ret2
  all_goals exact ⟨v, rfl, v, rfl, hR⟩


end

end Go.Proofs.YtpidjmgapiekaaaGreatDoor
