/- This text proves what Good and New answer for options that can be, over the loaded program. -/
import Derived.Test.YtpidjmgapiekaaaGreatDoorPlay
namespace Go.Proofs.YtpidjmgapiekaaaGreatDoor
open Go.RowKit Go.WideShapes
set_option linter.unusedSimpArgs false
set_option linter.unusedVariables false

def Opt.cs (o : Opt) : Array Value := #[.int .i64 o.window, .int .i64 o.delay, .int .i64 o.syncs, .int .i64 o.retry, .int .i64 o.timeout, .int .i64 o.report]
def Opt.v (o : Opt) : Value := .agg #[.int .i64 o.window, .int .i64 o.delay, .int .i64 o.syncs, .int .i64 o.retry, .int .i64 o.timeout, .int .i64 o.report]
/-- Options that can be. -/
structure Opt.good (o : Opt) : Prop where
  window : 1 ≤ o.window ∧ o.window ≤ 12
  delay : 0 ≤ o.delay ∧ o.delay ≤ 6
  syncs : 1 ≤ o.syncs ∧ o.syncs ≤ 5
  retry : 1 ≤ o.retry ∧ o.retry ≤ 50
  timeout : o.retry + 1 ≤ o.timeout ∧ o.timeout ≤ 10000
  report : 1 ≤ o.report ∧ o.report ≤ 1000

theorem pwithin_yes {n low high : Int} (h : low ≤ n ∧ n ≤ high) (w : World) : Calls Tryz.prog 77 #[.int .i64 n, .int .i64 low, .int .i64 high] w fun e w' => e = .returned (.bool true) ∧ w = w' := by
  refine (pwithin_any n low high w).mono ?_
  rintro e w' ⟨rfl, rfl⟩
  exact ⟨by rw [decide_eq_true h.1, decide_eq_true h.2]; rfl, rfl⟩

set_option maxRecDepth 100000 in
theorem good31_any (o : Opt) (hg : o.good) (w : World) : Calls Tryz.prog 31 #[o.v] w fun e w' => e = .returned (.bool true) ∧ Below w.heap.size w w' := by
  have W1 := Lib.hid (fun w => pwithin_yes hg.window w)
  have W2 := Lib.hid (fun w => pwithin_yes hg.delay w)
  have W3 := Lib.hid (fun w => pwithin_yes hg.syncs w)
  have W4 := Lib.hid (fun w => pwithin_yes hg.retry w)
  have W5 := Lib.hid (fun w => pwithin_yes hg.timeout w)
  have W6 := Lib.hid (fun w => pwithin_yes hg.report w)
  have ew : IntKind.i64.wrap (o.retry + 1) = o.retry + 1 := IntWalk.i64_in _ (by have := hg.retry; omega)
  have B := Lib.hid ((Below.refl w.heap.size w).alloc (Nat.le_refl _) (.cells o.cs 30))
  clear hg
  obtain ⟨wi, de, sy, re, ti, rp⟩ := o
  unfold Opt.v
  unfold Opt.cs at B
  dsimp only at B W1 W2 W3 W4 W5 W6 ew ⊢
  go_enter Tryz.func31, Tryz.ntmps31
  go_wp2_with fail
  refine (W1.out _).mono ?_
  rintro e w1 ⟨rfl, rfl⟩
  go_wp2_with fail
  refine (W2.out _).mono ?_
  rintro e w1 ⟨rfl, rfl⟩
  go_wp2_with fail
  refine (W3.out _).mono ?_
  rintro e w1 ⟨rfl, rfl⟩
  go_wp2_with fail
  refine (W4.out _).mono ?_
  rintro e w1 ⟨rfl, rfl⟩
  go_wp2_with fail
  refine (W5.out _).mono ?_
  rintro e w1 ⟨rfl, rfl⟩
  go_wp2_with fail
  refine (W6.out _).mono ?_
  rintro e w1 ⟨rfl, rfl⟩
  go_wp2_with fail
  go_ret
  exact ⟨rfl, B.out⟩

/-- A new side. -/
def Side.new0 (o : Opt) (me seed : Int) : Side :=
  { now := 0, synced := false, syncAt := 0, inAt := 0, sent := 0, heard := 0, out := [], ev := [], o := o, phase := 1, frame := 0, mine := Que.new o.delay.toNat, other := Que.new o.delay.toNat, me := me, seed := seed, nonce := 0, rounds := 0, acked := o.delay, told := 0, dropped := 0, own := [], ownV := fun _ => none, their := [], theirV := fun _ => none, gn := 0, on := 0, tn := 0 }
def Side.new (o : Opt) (me seed : Int) : Side := (Side.new0 o me seed).draw
def newCells (o : Opt) (me seed : Int) (v16 v17 v18 v19 v28 v30 : Value) : Array Value :=
  #[.int .i64 0, .bool false, .int .i64 0, .int .i64 0, .int .i64 0, .int .i64 0, .slice none 0 0, .slice none 0 0,
    .int .i64 o.window, .int .i64 o.delay, .int .i64 o.syncs, .int .i64 o.retry, .int .i64 o.timeout, .int .i64 o.report, .int .i64 1, .int .i64 0, v16, v17, v18, v19,
    .int .i64 me, .int .i64 seed, .int .i64 0, .int .i64 0, .int .i64 o.delay, .int .i64 0, .int .i64 0, .slice none 0 0, v28, .slice none 0 0, v30]

/-- What New leaves. -/
def NewP (w : World) (o : Opt) (me seed : Int) (e : Ending) (w' : World) : Prop :=
  ∃ pb a, e = .returned (.tuple #[.pointer (some ⟨pb, 0, none⟩), .nilIface]) ∧ PAt w' pb a (Side.new o me seed) ∧ Far w w' pb a

/-- A queue is there, all of it above B and below C. -/
def QNew (B C : Nat) (d : Nat) (w : World) (q m g : Nat) : Prop := QAt w q m g 0 d 0 (Que.new d) ∧ (B ≤ q ∧ q < C) ∧ (B ≤ m ∧ m < C) ∧ (B ≤ g ∧ g < C)
theorem QNew.kept {B C d : Nat} {w w' : World} {q m g : Nat} {fp : List Nat} (h : QNew B C d w q m g) (hk : Kept fp w w') (hf : ∀ x ∈ fp, x < B ∨ C ≤ x) : QNew B C d w' q m g :=
  ⟨h.1.kept hk (fun hm => by have := hf _ hm; have := h.2.1; omega) (fun hm => by have := hf _ hm; have := h.2.2.1; omega) (fun hm => by have := hf _ hm; have := h.2.2.2; omega), h.2⟩

/-- What is there behind k of the two queues. -/
def NewI (w : World) (o : Opt) (me seed : Int) (pb : Nat) (k : Nat) (wr : World) : Prop :=
  (Below w.heap.size w wr ∧ w.heap.size < pb ∧ wr.heap[w.heap.size]? = some (.cells o.cs 30 (0, 0))) ∧
  ((k = 0 ∧ wr.heap[pb]? = some (.cells (newCells o me seed (.pointer none) (.pointer none) (.pointer none) (.pointer none) (.map none) (.map none)) 111 (0, 0))) ∨
   (k = 1 ∧ ∃ q m g C, C ≤ wr.heap.size ∧ QNew (pb + 1) C o.delay.toNat wr q m g ∧ wr.heap[pb]? = some (.cells (newCells o me seed (.pointer (some ⟨q, 0, none⟩)) (.pointer none) (.pointer none) (.pointer none) (.map none) (.map none)) 111 (0, 0))) ∨
   (k = 2 ∧ ∃ q m g C q' m' g', QNew (pb + 1) C o.delay.toNat wr q m g ∧ QNew C wr.heap.size o.delay.toNat wr q' m' g' ∧ pb + 1 ≤ C ∧ wr.heap[pb]? = some (.cells (newCells o me seed (.pointer (some ⟨q, 0, none⟩)) (.pointer (some ⟨q', 0, none⟩)) (.pointer none) (.pointer none) (.map none) (.map none)) 111 (0, 0))))

set_option maxRecDepth 100000 in
set_option maxHeartbeats 6400000 in
theorem pnew_any (o : Opt) (hg : o.good) (me seed : Int) (hme : me = 0 ∨ me = 1) (w : World) : Calls Tryz.prog 29 #[o.v, .int .i64 me, .int .i64 seed] w (NewP w o me seed) := by
  have hb0 := (Below.refl w.heap.size w).alloc (Nat.le_refl _) (.cells o.cs 30)
  have GD := Lib.hid (good31_any o hg (w.alloc (.cells o.cs 30)))
  have PW := Lib.hid (fun w => pwithin_yes (n := me) (low := 0) (high := 1) (by omega) w)
  have B0 := Lib.hid hb0
  have A0 := Lib.hid (heap_alloc_new w (.cells o.cs 30))
  have HG := Lib.hid hg
  unfold Opt.v at GD ⊢
  unfold Opt.cs at GD B0 A0
  have hde : Hid (0 ≤ o.delay ∧ o.delay ≤ 6) := Lib.hid hg.delay
  obtain ⟨d, hd⟩ : ∃ d : Nat, o.delay = (d : Int) := ⟨o.delay.toNat, by have := hg.delay; omega⟩
  have QN : Hid (∀ w, Calls Tryz.prog 85 #[.int .i64 o.delay] w (DoneN w o.delay.toNat)) := Lib.hid (fun w => by
    rw [hd]
    exact new_any d w (by have := hg.delay; omega))
  clear hb0 hg hd d
  go_enter Tryz.func29, Tryz.ntmps29
  go_wp2_with fail
  refine GD.out.mono ?_
  rintro e w1 ⟨rfl, hb1⟩
  have x3 := (hb1.block w.heap.size (by rw [size_alloc1]; omega)).trans A0.out
  have B1 := Lib.hid (B0.out.trans (hb1.mono B0.out.size))
  have S1 : Hid (w.heap.size < w1.heap.size) := Lib.hid (by have := hb1.size; rw [size_alloc1] at this; omega)
  have X3 := Lib.hid x3
  have y0 : w1.cell? ⟨w.heap.size, 0, none⟩ = some (.int .i64 o.window) := by simp only [World.cell?, x3]; rfl
  have y1 : w1.cell? ⟨w.heap.size, 1, none⟩ = some (.int .i64 o.delay) := by simp only [World.cell?, x3]; rfl
  have y2 : w1.cell? ⟨w.heap.size, 2, none⟩ = some (.int .i64 o.syncs) := by simp only [World.cell?, x3]; rfl
  have y3 : w1.cell? ⟨w.heap.size, 3, none⟩ = some (.int .i64 o.retry) := by simp only [World.cell?, x3]; rfl
  have y4 : w1.cell? ⟨w.heap.size, 4, none⟩ = some (.int .i64 o.timeout) := by simp only [World.cell?, x3]; rfl
  have y5 : w1.cell? ⟨w.heap.size, 5, none⟩ = some (.int .i64 o.report) := by simp only [World.cell?, x3]; rfl
  clear hb1 x3
  go_wp2_with fail
  refine (PW.out _).mono ?_
  rintro e w2 ⟨rfl, rfl⟩
  go_upto_region 4 with (fail)
  obtain ⟨pb, hpb⟩ : ∃ pb, w1.heap.size = pb := ⟨_, rfl⟩
  have hN1 := below_one B1.out (.cells (newCells o me seed (.pointer none) (.pointer none) (.pointer none) (.pointer none) (.map none) (.map none)) 111)
  have hN2 := (alloc_old w1 (.cells (newCells o me seed (.pointer none) (.pointer none) (.pointer none) (.pointer none) (.map none) (.map none)) 111) w.heap.size S1.out).trans X3.out
  have hN3 := heap_alloc_new w1 (.cells (newCells o me seed (.pointer none) (.pointer none) (.pointer none) (.pointer none) (.map none) (.map none)) 111)
  have N0 : NewI w o me seed pb 0 (w1.alloc (.cells (newCells o me seed (.pointer none) (.pointer none) (.pointer none) (.pointer none) (.map none) (.map none)) 111)) :=
    ⟨⟨hN1, by rw [← hpb]; exact S1.out, hN2⟩, .inl ⟨rfl, by rw [← hpb]; exact hN3⟩⟩
  unfold newCells at N0
  rw [hpb]
  generalize w1.alloc _ = w2 at N0 ⊢
  have NN := Lib.hid N0
  clear N0 hN1 hN2 hN3 hpb y0 y1 y2 y3 y4 y5
  go_wp2_with fail
  go_loopw [9, 10, 11, 29] (fun _ _ _ i wr => ∃ k : Nat, NewI w o me seed pb k wr ∧ ((k = 0 ∧ i = .int .i64 0) ∨ (k = 1 ∧ i = .int .i64 1) ∨ (k = 2 ∧ i = .int .i64 2))) (fun _ _ _ i _ => 2 - (intOf i).toNat)
  case atStart => exact ⟨0, NN.out, .inl ⟨rfl, rfl⟩⟩
  case round =>
    obtain ⟨k, ⟨⟨hbel, hlt, hopt⟩, hN⟩, hi⟩ := hrel
    rcases hi with ⟨rfl, rfl⟩ | ⟨rfl, rfl⟩ | ⟨rfl, rfl⟩
    · obtain hp : _ := (hN.resolve_right (by simp)).2
      have z1 : wr.cell? ⟨w.heap.size, 1, none⟩ = some (.int .i64 o.delay) := by simp only [World.cell?, hopt]; rfl
      have HP := Lib.hid hp
      have HB := Lib.hid (And.intro hbel (And.intro hlt hopt))
      have hlp := (Array.getElem?_eq_some_iff.1 hp).1
      have HLP := Lib.hid hlp
      clear hp hbel hopt hlp hN hlt
      go_wp2_with fail
      refine (QN.out _).mono ?_
      rintro e w3 ⟨qb, m1, g1, rfl, hQ, hb3, n1, n2, n3⟩
      have hp3 := (hb3.block pb HLP.out).trans HP.out
      have s16 : w3.cell? ⟨pb, 16, none⟩ = some (.pointer none) := by simp only [World.cell?, hp3]; rfl
      have sf : w3.frozen? ⟨pb, 16, none⟩ = false := by simp only [World.frozen?, hp3]; rfl
      have hset := heap_setCell_at hp3 16 (.pointer (some ⟨qb, 0, none⟩))
      have HALL := Lib.hid (And.intro hQ (And.intro hb3 (And.intro n1 (And.intro n2 (And.intro n3 hset)))))
      clear hQ hb3 n1 n2 n3 hset hp3
      go_wp2_with fail
      go_roundw
      case rel =>
        obtain ⟨hQ, hb3, n1, n2, n3, hset⟩ := HALL.out
        obtain ⟨hbel, hlt, hopt⟩ := HB.out
        have hk := Kept.setCell w3 pb 16 (.pointer (some ⟨qb, 0, none⟩))
        have hlp := HLP.out
        have s3 := hb3.size
        have l1 := hQ.lt
        have l2 := hQ.map.lt
        have l3 := hQ.row.lt
        have ss := hk.size
        refine ⟨1, ⟨⟨?_, hlt, ?_⟩, .inr (.inl ⟨rfl, qb, m1, g1, w3.heap.size, ss, ⟨?_, by omega, by omega, by omega⟩, ?_⟩)⟩, .inr (.inl ⟨rfl, by go_num⟩)⟩
        · exact below_kept (hbel.trans (hb3.mono hbel.size)) hk (by simp; omega) (Nat.le_refl _)
        · exact (hk.block _ (by omega) (by simp; omega)).trans ((hb3.block _ (by omega)).trans hopt)
        · exact hQ.kept hk (by simp; omega) (by simp; omega) (by simp; omega)
        · rw [hset]; rfl
      case measure => simp [intOf]
    · obtain ⟨q, m, g, C, hC, hq, hp⟩ := ((hN.resolve_left (by simp)).resolve_right (by simp)).2
      have z1 : wr.cell? ⟨w.heap.size, 1, none⟩ = some (.int .i64 o.delay) := by simp only [World.cell?, hopt]; rfl
      have HP := Lib.hid hp
      have HB := Lib.hid (And.intro hbel (And.intro hlt hopt))
      have HQ := Lib.hid (And.intro hC hq)
      have hlp := (Array.getElem?_eq_some_iff.1 hp).1
      have HLP := Lib.hid hlp
      clear hp hbel hopt hlp hN hC hq hlt
      go_wp2_with fail
      refine (QN.out _).mono ?_
      rintro e w3 ⟨qb, m1, g1, rfl, hQ, hb3, n1, n2, n3⟩
      have hp3 := (hb3.block pb HLP.out).trans HP.out
      have s16 : w3.cell? ⟨pb, 17, none⟩ = some (.pointer none) := by simp only [World.cell?, hp3]; rfl
      have sf : w3.frozen? ⟨pb, 17, none⟩ = false := by simp only [World.frozen?, hp3]; rfl
      have hset := heap_setCell_at hp3 17 (.pointer (some ⟨qb, 0, none⟩))
      have HALL := Lib.hid (And.intro hQ (And.intro hb3 (And.intro n1 (And.intro n2 (And.intro n3 hset)))))
      clear hQ hb3 n1 n2 n3 hset hp3
      go_wp2_with fail
      go_roundw
      case rel =>
        obtain ⟨hQ, hb3, n1, n2, n3, hset⟩ := HALL.out
        obtain ⟨hbel, hlt, hopt⟩ := HB.out
        have hk := Kept.setCell w3 pb 17 (.pointer (some ⟨qb, 0, none⟩))
        have hlp := HLP.out
        have s3 := hb3.size
        have l1 := hQ.lt
        have l2 := hQ.map.lt
        have l3 := hQ.row.lt
        have ss := hk.size
        refine ⟨2, ⟨⟨?_, hlt, ?_⟩, .inr (.inr ⟨rfl, q, m, g, C, qb, m1, g1, ?_, ⟨?_, by have := HQ.out.1; omega, by have := HQ.out.1; omega, by have := HQ.out.1; omega⟩, by have := HQ.out.2.2.1; omega, ?_⟩)⟩, .inr (.inr ⟨rfl, by go_num⟩)⟩
        · exact below_kept (hbel.trans (hb3.mono hbel.size)) hk (by simp; omega) (Nat.le_refl _)
        · exact (hk.block _ (by omega) (by simp; omega)).trans ((hb3.block _ (by omega)).trans hopt)
        · exact (HQ.out.2.kept (Kept.of_below (fp := []) hb3) (by simp)).kept hk (by simp)
        · exact hQ.kept hk (by simp; omega) (by simp; omega) (by simp; omega)
        · rw [hset]; rfl
      case measure => simp [intOf]
    · obtain ⟨q, m, g, C, q', m', g', hq, hq', hC, hp⟩ := ((hN.resolve_left (by simp)).resolve_left (by simp)).2
      have HB := Lib.hid (And.intro hbel (And.intro hlt hopt))
      have HQ := Lib.hid (And.intro hq (And.intro hq' hC))
      have HP := Lib.hid hp
      have s16 : wr.cell? ⟨pb, 16, none⟩ = some (.pointer (some ⟨q, 0, none⟩)) := by simp only [World.cell?, hp]; rfl
      have s17 : wr.cell? ⟨pb, 17, none⟩ = some (.pointer (some ⟨q', 0, none⟩)) := by simp only [World.cell?, hp]; rfl
      have s18 : wr.cell? ⟨pb, 18, none⟩ = some (.pointer none) := by simp only [World.cell?, hp]; rfl
      have s19 : wr.cell? ⟨pb, 19, none⟩ = some (.pointer none) := by simp only [World.cell?, hp]; rfl
      have sf : ∀ i, wr.frozen? ⟨pb, i, none⟩ = false := fun i => by simp only [World.frozen?, hp]; rfl
      have f18 := sf 18
      have f19 := sf 19
      have F1 := fun (wz : World) (i j : Nat) (v : Value) (hij : i ≠ j) => World.cell?_setCell_other wz ⟨pb, i, none⟩ ⟨pb, j, none⟩ v (fun e => hij (congrArg Addr.off e))
      clear hbel hlt hopt hq hq' hC hp hN sf
      rcases hme with rfl | rfl
      · have ew2 : IntKind.i64.wrap 1 = 1 := by decide
        have ew : IntKind.i64.wrap (1 - 0) = 1 := by decide
        go_wp2_with fail
        go_upto_region 12 with (fail)
        apply meetF (R := fun wx => wx.heap[pb]? = some (.cells (newCells o 0 seed (.pointer (some ⟨q, 0, none⟩)) (.pointer (some ⟨q', 0, none⟩)) (.pointer (some ⟨q, 0, none⟩)) (.pointer (some ⟨q', 0, none⟩)) (.map none) (.map none)) 111 (0, 0)) ∧ Kept [pb] wr wx)
        case h =>
          go_region_held3 (fun w' => w'.cell? ⟨pb, 16, none⟩ = some (.pointer (some ⟨q, 0, none⟩)) ∧ w'.cell? ⟨pb, 17, none⟩ = some (.pointer (some ⟨q', 0, none⟩)))
            (first | exact ⟨s16, s17⟩ | exact ⟨(F1 _ 18 16 _ (by decide)).trans s16, (F1 _ 18 17 _ (by decide)).trans s17⟩ | exact ⟨(F1 _ 19 16 _ (by decide)).trans s16, (F1 _ 19 17 _ (by decide)).trans s17⟩ | exact ⟨(F1 _ 19 16 _ (by decide)).trans ((F1 _ 18 16 _ (by decide)).trans s16), (F1 _ 19 17 _ (by decide)).trans ((F1 _ 18 17 _ (by decide)).trans s17)⟩ | exact ⟨(F1 _ 18 16 _ (by decide)).trans ((F1 _ 19 16 _ (by decide)).trans s16), (F1 _ 18 17 _ (by decide)).trans ((F1 _ 19 17 _ (by decide)).trans s17)⟩)
            (fail)
          all_goals first | exact ⟨rfl, (heap_setCell_at (heap_setCell_at HP.out 18 _) 19 _).trans rfl, (Kept.setCell wr pb 18 _).trans (Kept.setCell _ pb 19 _) (by simp)⟩ | exact ⟨rfl, (heap_setCell_at (heap_setCell_at HP.out 18 _) 19 _).trans rfl, ((Kept.setCell wr pb 18 _).trans (Kept.setCell _ pb 19 _) (by simp)).drew⟩
        case k =>
          rintro wx ⟨hx, hk⟩
          have lpx := (Array.getElem?_eq_some_iff.1 hx).1
          have hmm := @run_makeMap Tryz.prog
          have s1 : (wx.alloc (.map #[] 0)).heap.size = wx.heap.size + 1 := size_alloc1 _ _
          have s2 : ((wx.alloc (.map #[] 0)).alloc (.map #[] 0)).heap.size = wx.heap.size + 1 + 1 := by rw [size_alloc1, size_alloc1]
          have hpa := (show ((wx.alloc (.map #[] 0)).alloc (.map #[] 0)).heap[pb]? = wx.heap[pb]? from by rw [alloc_old _ _ _ (by omega), alloc_old _ _ _ (by omega)]).trans hx
          have t27 : ((wx.alloc (.map #[] 0)).alloc (.map #[] 0)).cell? ⟨pb, 27, none⟩ = some (.slice none 0 0) := by simp only [World.cell?, hpa]; rfl
          have t28 : ((wx.alloc (.map #[] 0)).alloc (.map #[] 0)).cell? ⟨pb, 28, none⟩ = some (.map none) := by simp only [World.cell?, hpa]; rfl
          have t29 : ((wx.alloc (.map #[] 0)).alloc (.map #[] 0)).cell? ⟨pb, 29, none⟩ = some (.slice none 0 0) := by simp only [World.cell?, hpa]; rfl
          have t30 : ((wx.alloc (.map #[] 0)).alloc (.map #[] 0)).cell? ⟨pb, 30, none⟩ = some (.map none) := by simp only [World.cell?, hpa]; rfl
          have ff : ∀ i, ((wx.alloc (.map #[] 0)).alloc (.map #[] 0)).frozen? ⟨pb, i, none⟩ = false := fun i => by simp only [World.frozen?, hpa]; rfl
          have f27 := ff 27
          have f28 := ff 28
          have f29 := ff 29
          have f30 := ff 30
          have HX := Lib.hid (And.intro hx (And.intro hk (And.intro lpx (And.intro s1 (And.intro s2 hpa)))))
          have m0 : MapU ((wx.alloc (.map #[] 0)).alloc (.map #[] 0)) wx.heap.size 0 (fun _ => none) := (MapU.made wx).kept (Kept.alloc _ _) (by simp)
          have m1 : MapU ((wx.alloc (.map #[] 0)).alloc (.map #[] 0)) (wx.heap.size + 1) 0 (fun _ => none) := by rw [← s1]; exact MapU.made _
          have MM := Lib.hid (And.intro m0 m1)
          clear hx hk lpx s1 s2 hpa ff m0 m1 s16 s17 s18 s19 f18 f19
          go_upto_region 13 with (fail)
          apply meetF (R := fun wz => wz.heap[pb]? = some (.cells (newCells o 0 seed (.pointer (some ⟨q, 0, none⟩)) (.pointer (some ⟨q', 0, none⟩)) (.pointer (some ⟨q, 0, none⟩)) (.pointer (some ⟨q', 0, none⟩)) (.map (some wx.heap.size)) (.map (some (wx.heap.size + 1)))) 111 (0, 0)) ∧ Kept [pb] ((wx.alloc (.map #[] 0)).alloc (.map #[] 0)) wz)
          case h =>
            go_wp2_with fail
            refine ⟨rfl, (heap_setCell_at (heap_setCell_at (heap_setCell_at (heap_setCell_at HX.out.2.2.2.2.2 27 _) 28 _) 29 _) 30 _).trans (by first | rfl | (rw [HX.out.2.2.2.1]; rfl)), (((Kept.setCell _ pb 27 _).trans (Kept.setCell _ pb 28 _) (by simp)).trans (Kept.setCell _ pb 29 _) (by simp)).trans (Kept.setCell _ pb 30 _) (by simp)⟩
          case k =>
            rintro wz ⟨hz, hkz⟩
            obtain ⟨hx, hk, lpx, s1, s2, hpa⟩ := HX.out
            obtain ⟨hbel, hlt, hopt⟩ := HB.out
            obtain ⟨hq, hq2, hC⟩ := HQ.out
            have sz := hkz.size
            have sk := hk.size
            have hwx : Kept [] wx ((wx.alloc (.map #[] 0)).alloc (.map #[] 0)) := (Kept.alloc wx _).trans (Kept.alloc _ _) (by simp)
            have K0 : Kept [pb] wr wz := (hk.trans (hwx.mono (fp' := [pb]) (by simp)) (fun x hx => .inl hx)).trans hkz (fun x hx => .inl hx)
            have q1 := hq.kept K0 (by simp)
            have q2 := hq2.kept K0 (by simp; omega)
            have m1 := MM.out.1.kept hkz (by simp; omega)
            have m2 := MM.out.2.kept hkz (by simp; omega)
            have b1 := hq.2.1
            have b2 := hq.2.2.1
            have b3 := hq.2.2.2
            have b4 := hq2.2.1
            have b5 := hq2.2.2.1
            have b6 := hq2.2.2.2
            have PA : PAt wz pb { ov := .slice none 0 0, outF := [], ev := .slice none 0 0, evF := [], mb := q, mm := m, mg := g, ob := q', om := m', og := g', fo := .slice none 0 0, foF := [], vo := wx.heap.size, ft := .slice none 0 0, ftF := [], vt := wx.heap.size + 1 } (Side.new0 o 0 seed) := ⟨hz.trans rfl, ⟨_, _, _, q1.1⟩, ⟨_, _, q2.1⟩, .inl ⟨rfl, rfl, rfl⟩, .inl ⟨rfl, rfl, rfl⟩, .inl ⟨rfl, rfl, rfl⟩, m1, .inl ⟨rfl, rfl, rfl⟩, m2, by unfold SepL Ptr.fps; simp; omega, by unfold Ptr.fps; simp; omega⟩
            have FA : Far w wz pb { ov := .slice none 0 0, outF := [], ev := .slice none 0 0, evF := [], mb := q, mm := m, mg := g, ob := q', om := m', og := g', fo := .slice none 0 0, foF := [], vo := wx.heap.size, ft := .slice none 0 0, ftF := [], vt := wx.heap.size + 1 } := ⟨below_kept hbel K0 (by simp; omega) (Nat.le_refl _), by unfold Ptr.fps; simp; omega⟩
            have PP := Lib.hid (And.intro PA FA)
            clear hz hkz hx hk lpx s1 s2 hpa hbel hlt hopt hq hq2 hC sz sk hwx K0 q1 q2 m1 m2 b1 b2 b3 b4 b5 b6 PA FA hmm t27 t28 t29 t30 f27 f28 f29 f30
            go_wp2_with fail
            refine (pdraw_any PP.out.1).mono ?_
            rintro e w9 ⟨rfl, a9, p9, k9, x9, -, -⟩
            have F9 := Lib.hid (PP.out.2.left k9 x9)
            have P9 := Lib.hid p9
            clear p9 k9 x9
            go_wp2_with fail
            go_ret2
            exact ⟨pb, a9, rfl, P9.out, F9.out⟩
      · have ew2 : IntKind.i64.wrap 0 = 0 := by decide
        have ew : IntKind.i64.wrap (1 - 1) = 0 := by decide
        go_wp2_with fail
        go_upto_region 12 with (fail)
        apply meetF (R := fun wx => wx.heap[pb]? = some (.cells (newCells o 1 seed (.pointer (some ⟨q, 0, none⟩)) (.pointer (some ⟨q', 0, none⟩)) (.pointer (some ⟨q', 0, none⟩)) (.pointer (some ⟨q, 0, none⟩)) (.map none) (.map none)) 111 (0, 0)) ∧ Kept [pb] wr wx)
        case h =>
          go_region_held3 (fun w' => w'.cell? ⟨pb, 16, none⟩ = some (.pointer (some ⟨q, 0, none⟩)) ∧ w'.cell? ⟨pb, 17, none⟩ = some (.pointer (some ⟨q', 0, none⟩)))
            (first | exact ⟨s16, s17⟩ | exact ⟨(F1 _ 18 16 _ (by decide)).trans s16, (F1 _ 18 17 _ (by decide)).trans s17⟩ | exact ⟨(F1 _ 19 16 _ (by decide)).trans s16, (F1 _ 19 17 _ (by decide)).trans s17⟩ | exact ⟨(F1 _ 19 16 _ (by decide)).trans ((F1 _ 18 16 _ (by decide)).trans s16), (F1 _ 19 17 _ (by decide)).trans ((F1 _ 18 17 _ (by decide)).trans s17)⟩ | exact ⟨(F1 _ 18 16 _ (by decide)).trans ((F1 _ 19 16 _ (by decide)).trans s16), (F1 _ 18 17 _ (by decide)).trans ((F1 _ 19 17 _ (by decide)).trans s17)⟩)
            (fail)
          all_goals first | exact ⟨rfl, (heap_setCell_at (heap_setCell_at HP.out 18 _) 19 _).trans rfl, (Kept.setCell wr pb 18 _).trans (Kept.setCell _ pb 19 _) (by simp)⟩ | exact ⟨rfl, (heap_setCell_at (heap_setCell_at HP.out 18 _) 19 _).trans rfl, ((Kept.setCell wr pb 18 _).trans (Kept.setCell _ pb 19 _) (by simp)).drew⟩
        case k =>
          rintro wx ⟨hx, hk⟩
          have lpx := (Array.getElem?_eq_some_iff.1 hx).1
          have hmm := @run_makeMap Tryz.prog
          have s1 : (wx.alloc (.map #[] 0)).heap.size = wx.heap.size + 1 := size_alloc1 _ _
          have s2 : ((wx.alloc (.map #[] 0)).alloc (.map #[] 0)).heap.size = wx.heap.size + 1 + 1 := by rw [size_alloc1, size_alloc1]
          have hpa := (show ((wx.alloc (.map #[] 0)).alloc (.map #[] 0)).heap[pb]? = wx.heap[pb]? from by rw [alloc_old _ _ _ (by omega), alloc_old _ _ _ (by omega)]).trans hx
          have t27 : ((wx.alloc (.map #[] 0)).alloc (.map #[] 0)).cell? ⟨pb, 27, none⟩ = some (.slice none 0 0) := by simp only [World.cell?, hpa]; rfl
          have t28 : ((wx.alloc (.map #[] 0)).alloc (.map #[] 0)).cell? ⟨pb, 28, none⟩ = some (.map none) := by simp only [World.cell?, hpa]; rfl
          have t29 : ((wx.alloc (.map #[] 0)).alloc (.map #[] 0)).cell? ⟨pb, 29, none⟩ = some (.slice none 0 0) := by simp only [World.cell?, hpa]; rfl
          have t30 : ((wx.alloc (.map #[] 0)).alloc (.map #[] 0)).cell? ⟨pb, 30, none⟩ = some (.map none) := by simp only [World.cell?, hpa]; rfl
          have ff : ∀ i, ((wx.alloc (.map #[] 0)).alloc (.map #[] 0)).frozen? ⟨pb, i, none⟩ = false := fun i => by simp only [World.frozen?, hpa]; rfl
          have f27 := ff 27
          have f28 := ff 28
          have f29 := ff 29
          have f30 := ff 30
          have HX := Lib.hid (And.intro hx (And.intro hk (And.intro lpx (And.intro s1 (And.intro s2 hpa)))))
          have m0 : MapU ((wx.alloc (.map #[] 0)).alloc (.map #[] 0)) wx.heap.size 0 (fun _ => none) := (MapU.made wx).kept (Kept.alloc _ _) (by simp)
          have m1 : MapU ((wx.alloc (.map #[] 0)).alloc (.map #[] 0)) (wx.heap.size + 1) 0 (fun _ => none) := by rw [← s1]; exact MapU.made _
          have MM := Lib.hid (And.intro m0 m1)
          clear hx hk lpx s1 s2 hpa ff m0 m1 s16 s17 s18 s19 f18 f19
          go_upto_region 13 with (fail)
          apply meetF (R := fun wz => wz.heap[pb]? = some (.cells (newCells o 1 seed (.pointer (some ⟨q, 0, none⟩)) (.pointer (some ⟨q', 0, none⟩)) (.pointer (some ⟨q', 0, none⟩)) (.pointer (some ⟨q, 0, none⟩)) (.map (some wx.heap.size)) (.map (some (wx.heap.size + 1)))) 111 (0, 0)) ∧ Kept [pb] ((wx.alloc (.map #[] 0)).alloc (.map #[] 0)) wz)
          case h =>
            go_wp2_with fail
            refine ⟨rfl, (heap_setCell_at (heap_setCell_at (heap_setCell_at (heap_setCell_at HX.out.2.2.2.2.2 27 _) 28 _) 29 _) 30 _).trans (by first | rfl | (rw [HX.out.2.2.2.1]; rfl)), (((Kept.setCell _ pb 27 _).trans (Kept.setCell _ pb 28 _) (by simp)).trans (Kept.setCell _ pb 29 _) (by simp)).trans (Kept.setCell _ pb 30 _) (by simp)⟩
          case k =>
            rintro wz ⟨hz, hkz⟩
            obtain ⟨hx, hk, lpx, s1, s2, hpa⟩ := HX.out
            obtain ⟨hbel, hlt, hopt⟩ := HB.out
            obtain ⟨hq, hq2, hC⟩ := HQ.out
            have sz := hkz.size
            have sk := hk.size
            have hwx : Kept [] wx ((wx.alloc (.map #[] 0)).alloc (.map #[] 0)) := (Kept.alloc wx _).trans (Kept.alloc _ _) (by simp)
            have K0 : Kept [pb] wr wz := (hk.trans (hwx.mono (fp' := [pb]) (by simp)) (fun x hx => .inl hx)).trans hkz (fun x hx => .inl hx)
            have q1 := hq.kept K0 (by simp)
            have q2 := hq2.kept K0 (by simp; omega)
            have m1 := MM.out.1.kept hkz (by simp; omega)
            have m2 := MM.out.2.kept hkz (by simp; omega)
            have b1 := hq.2.1
            have b2 := hq.2.2.1
            have b3 := hq.2.2.2
            have b4 := hq2.2.1
            have b5 := hq2.2.2.1
            have b6 := hq2.2.2.2
            have PA : PAt wz pb { ov := .slice none 0 0, outF := [], ev := .slice none 0 0, evF := [], mb := q', mm := m', mg := g', ob := q, om := m, og := g, fo := .slice none 0 0, foF := [], vo := wx.heap.size, ft := .slice none 0 0, ftF := [], vt := wx.heap.size + 1 } (Side.new0 o 1 seed) := ⟨hz.trans rfl, ⟨_, _, _, q2.1⟩, ⟨_, _, q1.1⟩, .inl ⟨rfl, rfl, rfl⟩, .inl ⟨rfl, rfl, rfl⟩, .inl ⟨rfl, rfl, rfl⟩, m1, .inl ⟨rfl, rfl, rfl⟩, m2, by unfold SepL Ptr.fps; simp; omega, by unfold Ptr.fps; simp; omega⟩
            have FA : Far w wz pb { ov := .slice none 0 0, outF := [], ev := .slice none 0 0, evF := [], mb := q', mm := m', mg := g', ob := q, om := m, og := g, fo := .slice none 0 0, foF := [], vo := wx.heap.size, ft := .slice none 0 0, ftF := [], vt := wx.heap.size + 1 } := ⟨below_kept hbel K0 (by simp; omega) (Nat.le_refl _), by unfold Ptr.fps; simp; omega⟩
            have PP := Lib.hid (And.intro PA FA)
            clear hz hkz hx hk lpx s1 s2 hpa hbel hlt hopt hq hq2 hC sz sk hwx K0 q1 q2 m1 m2 b1 b2 b3 b4 b5 b6 PA FA hmm t27 t28 t29 t30 f27 f28 f29 f30
            go_wp2_with fail
            refine (pdraw_any PP.out.1).mono ?_
            rintro e w9 ⟨rfl, a9, p9, k9, x9, -, -⟩
            have F9 := Lib.hid (PP.out.2.left k9 x9)
            have P9 := Lib.hid p9
            clear p9 k9 x9
            go_wp2_with fail
            go_ret2
            exact ⟨pb, a9, rfl, P9.out, F9.out⟩

end Go.Proofs.YtpidjmgapiekaaaGreatDoor
