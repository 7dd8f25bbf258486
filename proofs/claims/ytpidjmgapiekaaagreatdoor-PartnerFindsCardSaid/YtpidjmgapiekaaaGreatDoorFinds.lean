/- This text proves that two sides find each other, for every options, over the loaded program. -/
import Derived.Test.YtpidjmgapiekaaaGreatDoorPlayedF
import Derived.Test.YtpidjmgapiekaaaGreatDoorAwake
namespace Go.Proofs.YtpidjmgapiekaaaGreatDoor
open Go.RowKit Go.WideShapes
set_option linter.unusedSimpArgs false
set_option linter.unusedVariables false

theorem info40 : (Tryz.prog.info? 40).map (fun i => (i.zero, i.size, i.bytes)) = some (some (.agg #[.int .i64 0, .int .i64 0]), 2, 16) := by kernel_rfl
def five : List Value := [.int .i64 1, .int .i64 0, .int .i64 4, .int .i64 0, .int .i64 5, .int .i64 0, .int .i64 4, .int .i64 0, .int .i64 5, .int .i64 0]
theorem turnCells_five (i : Nat) : turnCells (5 * i + 5) = turnCells (5 * i) ++ five := by
  have k0 : kd (5 * i) = 1 := by unfold kd; rw [if_pos (by omega)]
  have k1 : kd (5 * i + 1) = 4 := by unfold kd; rw [if_neg (by omega), if_pos (by omega)]
  have k2 : kd (5 * i + 2) = 5 := by unfold kd; rw [if_neg (by omega), if_neg (by omega)]
  have k3 : kd (5 * i + 3) = 4 := by unfold kd; rw [if_neg (by omega), if_pos (by omega)]
  have k4 : kd (5 * i + 4) = 5 := by unfold kd; rw [if_neg (by omega), if_neg (by omega)]
  simp only [turnCells, k0, k1, k2, k3, k4, five, List.append_assoc, List.cons_append, List.nil_append]
theorem src_five (w : World) : Src Tryz.prog 2 23 (.slice (some ⟨w.heap.size, 0, none⟩) 5 5) 5 five (w.alloc (.cells #[.int .i64 1, .int .i64 0, .int .i64 4, .int .i64 0, .int .i64 5, .int .i64 0, .int .i64 4, .int .i64 0, .int .i64 5, .int .i64 0] 40)) :=
  Src.ofSlice _ Tryz.underlying23 _ 5 5 _ rfl (fun j u hj => by
    rw [add_plain, World.cell?_alloc_new]
    match j, hj with
    | 0, hj => cases hj; rfl
    | 1, hj => cases hj; rfl
    | 2, hj => cases hj; rfl
    | 3, hj => cases hj; rfl
    | 4, hj => cases hj; rfl
    | 5, hj => cases hj; rfl
    | 6, hj => cases hj; rfl
    | 7, hj => cases hj; rfl
    | 8, hj => cases hj; rfl
    | 9, hj => cases hj; rfl
    | j + 10, hj => cases hj) (fun u hu => by
      unfold five at hu
      simp only [List.mem_cons, List.not_mem_nil, or_false] at hu
      rcases hu with rfl | rfl | rfl | rfl | rfl | rfl | rfl | rfl | rfl | rfl <;> rfl)
theorem ev_eql (w : World) : (binOp .eql 44 (.agg #[.int .i64 1, .int .i64 0]) (.agg #[.int .i64 1, .int .i64 0])).run Tryz.prog w = .ok (.bool true) w := by kernel_rfl

/-- What happened once is handed over. -/
theorem events_one {w : World} {pb : Nat} {a : Ptr} {P : Side} {k f : Int} (h : PAt w pb a P) (hev : P.ev = [(k, f)]) : Calls Tryz.prog 14 #[.pointer (some ⟨pb, 0, none⟩)] w fun e w' => ∃ g o c, e = .returned (.slice (some ⟨g, o, none⟩) 1 c) ∧ PAt w' pb { a with ev := .slice none 0 0, evF := [] } { P with ev := [] } ∧ (w'.cell? ⟨g, o, none⟩ = some (.int .i64 k) ∧ w'.cell? ⟨g, o + 1, none⟩ = some (.int .i64 f)) ∧ Kept [pb] w w' ∧ g ∈ (a.fps pb).flatten := by
  refine (events_any h).mono ?_
  rintro e w' ⟨rfl, h1, h2, h3⟩
  rw [hev] at h2
  rcases h2 with ⟨_, e2, _⟩ | ⟨g, o, cap, e1, e2, e3⟩
  · cases e2
  · refine ⟨g, o, cap, by rw [e1]; rfl, h1, ⟨e3.cell 0 _ rfl, e3.cell 1 _ rfl⟩, h3, List.mem_flatten.2 ⟨a.evF, by simp [Ptr.fps], e2⟩⟩
theorem fps_ev {pb : Nat} {a : Ptr} : ∀ x ∈ (Ptr.fps pb { a with ev := .slice none 0 0, evF := [] }).flatten, x ∈ (a.fps pb).flatten := fun x hx => by
  obtain ⟨l, hl, hxl⟩ := List.mem_flatten.1 hx
  have hl' : l ∈ (a.fps pb).set 4 [] := hl
  rcases List.mem_or_eq_of_mem_set hl' with hl | rfl
  · exact List.mem_flatten.2 ⟨l, hl, hxl⟩
  · cases hxl

set_option maxRecDepth 100000 in
set_option maxHeartbeats 12800000 in
theorem finds_any {A : Nat → Addr} {bS : Addr} (w : World) (hA : s_Apart 5 w A) (hS : w.cell? ⟨2, 0, none⟩ = some (.iface 221 (.pointer (some bS)))) (x0 x1 x2 x3 x4 x5 : Int) : Calls Tryz.prog 5 #[.agg #[.int .i64 x0, .int .i64 x1, .int .i64 x2, .int .i64 x3, .int .i64 x4, .int .i64 x5]] w (fun e w' => e = .returned (.bool true) ∧ Below w.heap.size w w') := by
  have hb0 := (Below.refl w.heap.size w).alloc (Nat.le_refl _) (.cells #[.int .i64 x0, .int .i64 x1, .int .i64 x2, .int .i64 x3, .int .i64 x4, .int .i64 x5] 22)
  have h22 := heap_alloc_new w (.cells #[.int .i64 x0, .int .i64 x1, .int .i64 x2, .int .i64 x3, .int .i64 x4, .int .i64 x5] 22)
  have HA := Lib.hid hA
  have AW := Lib.hid (awake_any (bS := bS) _ (hA.below hb0) ((hb0.cell (World.block_lt_of_cell? w _ hS)).trans hS))
  have OP := Lib.hid (fun wx => option_any wx x0 x1 x2 x3 x4 x5)
  have B0 := Lib.hid hb0
  have H22 := Lib.hid h22
  clear hb0 h22 hA hS
  go_enter Tryz.func5, Tryz.ntmps5
  go_wp2_with fail
  refine AW.out.mono ?_
  rintro e w1 ⟨rfl, hb1⟩
  have z := (hb1.block w.heap.size (by rw [size_alloc1]; omega)).trans H22.out
  have y0 : w1.cell? ⟨w.heap.size, 0, none⟩ = some (.int .i64 x0) := by simp only [World.cell?, z]; rfl
  have y1 : w1.cell? ⟨w.heap.size, 1, none⟩ = some (.int .i64 x1) := by simp only [World.cell?, z]; rfl
  have y2 : w1.cell? ⟨w.heap.size, 2, none⟩ = some (.int .i64 x2) := by simp only [World.cell?, z]; rfl
  have y3 : w1.cell? ⟨w.heap.size, 3, none⟩ = some (.int .i64 x3) := by simp only [World.cell?, z]; rfl
  have y4 : w1.cell? ⟨w.heap.size, 4, none⟩ = some (.int .i64 x4) := by simp only [World.cell?, z]; rfl
  have y5 : w1.cell? ⟨w.heap.size, 5, none⟩ = some (.int .i64 x5) := by simp only [World.cell?, z]; rfl
  have B1 := Lib.hid (B0.out.trans (hb1.mono B0.out.size))
  clear hb1 z
  go_wp2_with fail
  refine (OP.out _).mono ?_
  rintro e w2 ⟨o, rfl, ho, hr9, hb2⟩
  unfold Opt.v
  have B2 := Lib.hid (B1.out.trans (hb2.mono B1.out.size))
  have HO := Lib.hid (And.intro ho hr9)
  have b3 := heap_alloc_new w2 (.cells o.cs 30)
  have e4 := below_two w2 (.cells o.cs 30) (.cells #[] 40)
  have S3 := size_alloc1 w2 (.cells o.cs 30)
  have n4 := heap_alloc_new (w2.alloc (.cells o.cs 30)) (.cells #[] 40)
  rw [S3] at n4
  have o4 := (alloc_old (w2.alloc (.cells o.cs 30)) (.cells #[] 40) w2.heap.size (by rw [S3]; omega)).trans b3
  have HI : Hid (Below w.heap.size w ((w2.alloc (.cells o.cs 30)).alloc (.cells #[] 40)) ∧ ((w2.alloc (.cells o.cs 30)).alloc (.cells #[] 40)).heap[w2.heap.size]? = some (.cells o.cs 30 (0, 0)) ∧ RowAt ((w2.alloc (.cells o.cs 30)).alloc (.cells #[] 40)) 40 2 (w2.heap.size + 1) 0 0 0 []) := Lib.hid
    ⟨B2.out.trans (e4.mono B2.out.size), o4, rfl, Nat.le_refl _, by simp [maxLen], #[], n4, by simp, fun i v h => by simp at h⟩
  obtain ⟨sy, hsy⟩ : ∃ s : Nat, o.syncs = (s : Int) := ⟨o.syncs.toNat, by have := ho.syncs; omega⟩
  have SY := Lib.hid hsy
  have hs5 : 1 ≤ sy ∧ sy ≤ 5 := by have := ho.syncs; omega
  unfold Opt.cs at HI
  clear y0 y1 y2 y3 y4 y5 hb2 b3 e4 S3 n4 o4 ho hr9 hsy
  go_upto_region 5 with (fail)
  have HI0 := HI.out
  obtain ⟨b3, hb3⟩ : ∃ b, w2.heap.size = b := ⟨_, rfl⟩
  have LB3 : Hid (w.heap.size ≤ b3) := Lib.hid (by rw [← hb3]; exact B2.out.size)
  rw [hb3] at HI0 ⊢
  generalize (w2.alloc _).alloc _ = w4 at HI0 ⊢
  have HJ := Lib.hid HI0
  clear HI HI0 hb3
  have SS : Hid (o.syncs = (sy : Int)) := Lib.hid SY.out
  go_wp2_with fail
  go_loopw [4, 5] (fun sv i wr => ∃ k : Nat, k ≤ sy + 2 ∧ i = .int .i64 k ∧ ∃ g off cap, sv = .slice (some ⟨g, off, none⟩) (5 * k) cap ∧ Below w.heap.size w wr ∧ wr.heap[b3]? = some (.cells #[.int .i64 o.window, .int .i64 o.delay, .int .i64 o.syncs, .int .i64 o.retry, .int .i64 o.timeout, .int .i64 o.report] 30 (0, 0)) ∧ RowAt wr 40 2 g off cap (5 * k) (turnCells (5 * k)) ∧ g ≠ b3 ∧ w.heap.size ≤ g) (fun _ i _ => sy + 2 - (intOf i).toNat)
  case atStart => exact ⟨0, by omega, rfl, b3 + 1, 0, 0, rfl, HJ.out.1, HJ.out.2.1, HJ.out.2.2, by omega, by have := LB3.out; omega⟩
  case round =>
    obtain ⟨k, hk, rfl, g, off, cap, rfl, hbw, hb3, hrow, hgb, hgw⟩ := hrel
    have z2 : wr.cell? ⟨b3, 2, none⟩ = some (.int .i64 o.syncs) := by simp only [World.cell?, hb3]; rfl
    have es : IntKind.i64.wrap (o.syncs + 2) = o.syncs + 2 := IntWalk.i64_in _ (by rw [SS.out]; omega)
    by_cases hlt : k < sy + 2
    · have q1 : decide ((k : Int) < o.syncs + 2) = true := by rw [SS.out]; simp; omega
      have ek : IntKind.i64.wrap ((k : Int) + 1) = (k : Int) + 1 := IntWalk.i64_in _ (by omega)
      obtain ⟨W, hW⟩ : ∃ W, W = wr.alloc (.cells #[.int .i64 1, .int .i64 0, .int .i64 4, .int .i64 0, .int .i64 5, .int .i64 0, .int .i64 4, .int .i64 0, .int .i64 5, .int .i64 0] 40) := ⟨_, rfl⟩
      have BW : Below wr.heap.size wr W := by rw [hW]; exact (Below.refl _ _).alloc (Nat.le_refl _) _
      have sp := src_five wr
      rw [← hW] at sp
      have HW := Lib.hid hW
      have ROW := Lib.hid (hrow.kept (Kept.of_below (fp := []) BW) (by simp))
      have ALL := Lib.hid (And.intro hbw (And.intro hb3 (And.intro hgb (And.intro hgw BW))))
      clear hrow hbw hb3 hW BW
      go_wp2_with (first
        | (at_builtin; (try rw [← HW.out]); refine wpList_append_at rfl _ _ 23 23 rfl 40 (.agg #[.int .i64 0, .int .i64 0]) 2 16 Tryz.underlying23 info40 rfl g off cap (5 * k) (turnCells (5 * k)) rfl ROW.out _ rfl 5 five sp (by simp [maxLen]; omega) (by omega) ?_; intro g' o' cap' w' hrow' hgr hgg)
        | fail)
      have FIN := Lib.hid (And.intro hrow' (And.intro hgr hgg))
      clear hrow' hgr hgg
      go_roundw
      case rel =>
        obtain ⟨hrow', hgr, hgg⟩ := FIN.out
        obtain ⟨hbw, hb3, hgb, hgw, BW⟩ := ALL.out
        have kk := Kept.of_grown hgr
        have l3 := (Array.getElem?_eq_some_iff.1 hb3).1
        have sB := BW.size
        have sW := hbw.size
        refine ⟨k + 1, by omega, by go_num, g', o', cap', rfl, below_kept (hbw.trans (BW.mono hbw.size)) kk (by simp; exact hgw) (Nat.le_refl _), (kk.block b3 (by omega) (by simp; exact fun e => hgb e.symm)).trans ((BW.block b3 l3).trans hb3), ?_, ?_, ?_⟩
        · rw [show 5 * (k + 1) = 5 * k + 5 from rfl, turnCells_five]
          exact hrow'
        · rcases hgg with rfl | rfl
          · exact hgb
          · omega
        · rcases hgg with rfl | rfl
          · exact hgw
          · omega
      case measure => simp [intOf]; omega
    · obtain rfl : k = sy + 2 := by omega
      have q1 : decide (((sy + 2 : Nat) : Int) < o.syncs + 2) = false := by rw [SS.out]; simp
      have q1' : decide ((sy : Int) + 2 < o.syncs + 2) = false := by rw [SS.out]; simp
      have q1'' : decide ((sy : Int) < o.syncs) = false := by rw [SS.out]; simp
      have z0 : wr.cell? ⟨b3, 0, none⟩ = some (.int .i64 o.window) := by simp only [World.cell?, hb3]; rfl
      have z1 : wr.cell? ⟨b3, 1, none⟩ = some (.int .i64 o.delay) := by simp only [World.cell?, hb3]; rfl
      have z3 : wr.cell? ⟨b3, 3, none⟩ = some (.int .i64 o.retry) := by simp only [World.cell?, hb3]; rfl
      have z4 : wr.cell? ⟨b3, 4, none⟩ = some (.int .i64 o.timeout) := by simp only [World.cell?, hb3]; rfl
      have z5 : wr.cell? ⟨b3, 5, none⟩ = some (.int .i64 o.report) := by simp only [World.cell?, hb3]; rfl
      have hn : 5 * (sy + 2) = 5 * (o.syncs.toNat + 2) := by rw [SS.out]; simp
      have PL := playedF_any o HO.out.1 HO.out.2 (5 * (sy + 2)) hn (some ⟨g, off, none⟩) cap wr (HA.out.below hbw) hrow.cells
      have RG := (rounds_go o.syncs o.retry HO.out.1.syncs ⟨HO.out.1.retry.1, HO.out.2⟩).2
      rw [← hn] at RG
      unfold endM at RG
      rw [decide_eq_true_iff] at RG
      obtain ⟨p, hp⟩ : ∃ p, runM o.syncs o.retry (5 * (sy + 2)) = p := ⟨_, rfl⟩
      rw [hp] at PL RG
      unfold Opt.v at PL
      have PLH := Lib.hid PL
      have RGH := Lib.hid RG
      have BWH := Lib.hid hbw
      obtain ⟨nn, hnn⟩ : ∃ nn, 5 * (sy + 2) = nn := ⟨_, rfl⟩
      rw [hnn] at PLH ⊢
      clear PL RG hbw hrow hgb hgw hb3 hp hn hnn hs5 hk
      go_wp2_with fail
      refine PLH.out.mono ?_
      rintro e w5 ⟨pa, pb, lx, ly, rfl, hT⟩
      obtain ⟨aa, ab, h1, h2, f1, f2, hd, -⟩ := hT
      have PA : Hid (Calls Tryz.prog 13 #[.pointer (some ⟨pa, 0, none⟩)] w5 fun e w' => e = .returned (.int .i64 2) ∧ w5 = w') := Lib.hid (by
        have := phase_any h1
        rw [show (p.1.side o 0).phase = 2 from RGH.out.1] at this
        exact this)
      have PB : Hid (Calls Tryz.prog 13 #[.pointer (some ⟨pb, 0, none⟩)] w5 fun e w' => e = .returned (.int .i64 2) ∧ w5 = w') := Lib.hid (by
        have := phase_any h2
        rw [show (p.2.side o 1).phase = 2 from RGH.out.2.1] at this
        exact this)
      have EA := Lib.hid (events_one h1 (show (p.1.side o 0).ev = [(1, 0)] from RGH.out.2.2.1))
      have HH := Lib.hid (And.intro h1 (And.intro h2 (And.intro f1 (And.intro f2 hd))))
      clear h1 h2 f1 f2 hd
      go_wp2_with fail
      refine PA.out.mono ?_
      rintro e w6 ⟨rfl, rfl⟩
      go_wp2_with fail
      refine PB.out.mono ?_
      rintro e w6 ⟨rfl, rfl⟩
      go_wp2_with fail
      refine EA.out.mono ?_
      rintro e w6 ⟨g1, o1, c1, rfl, q1, ⟨u0, u1⟩, k1, m1⟩
      have hpb : ∀ x ∈ (ab.fps pb).flatten, x ∉ [pa] := fun x hx hm => by
        simp at hm
        subst hm
        exact HH.out.2.2.2.2 _ (pb_mem _ _) hx
      have q2 := HH.out.2.1.kept k1 (fun l hl x hx => hpb x (List.mem_flatten.2 ⟨l, hl, hx⟩))
      have EB := Lib.hid (events_one q2 (show (p.2.side o 1).ev = [(1, 0)] from RGH.out.2.2.2))
      have KK := Lib.hid (And.intro q1 (And.intro u0 (And.intro u1 (And.intro k1 m1))))
      clear q1 u0 u1 k1 q2 hpb
      go_wp2_with fail
      refine EB.out.mono ?_
      rintro e w7 ⟨g2, o2, c2, rfl, q3, ⟨v0, v1⟩, k2, m2⟩
      obtain ⟨q1, u0, u1, k1, -⟩ := KK.out
      have npb : ∀ x ∈ (aa.fps pa).flatten, x ∉ [pb] := fun x hx hm => by
        simp at hm
        subst hm
        exact HH.out.2.2.2.2 _ hx (pb_mem _ _)
      have u0' := k2.cell u0 (npb g1 m1)
      have u1' := k2.cell u1 (npb g1 m1)
      have q1' := q1.kept k2 (fun l hl x hx => npb x (fps_ev x (List.mem_flatten.2 ⟨l, hl, hx⟩)))
      have lpa : w.heap.size ≤ pa := Nat.le_trans BWH.out.size (HH.out.2.2.1.2 pa (pb_mem _ _))
      have lpb : w.heap.size ≤ pb := Nat.le_trans BWH.out.size (HH.out.2.2.2.1.2 pb (pb_mem _ _))
      have bw7 : Below w.heap.size w w7 := below_kept (below_kept (BWH.out.trans (HH.out.2.2.1.1.mono BWH.out.size)) k1 (by simp; exact lpa) (Nat.le_refl _)) k2 (by simp; exact lpb) (Nat.le_refl _)
      have EN : Hid (∀ wx, Below w7.heap.size w7 wx → Calls Tryz.prog 14 #[.pointer (some ⟨pa, 0, none⟩)] wx fun e w' => e = .returned (.slice none 0 0) ∧ Below w.heap.size w w') := Lib.hid (fun wx hb => (events_any (q1'.below hb)).mono (by
        rintro e w' ⟨rfl, _, _, k3⟩
        exact ⟨rfl, below_kept (bw7.trans (hb.mono bw7.size)) k3 (by simp; exact lpa) (Nat.le_refl _)⟩))
      have EQ := ev_eql
      clear q3 q1 u0 u1 k1 k2 m2 q1' bw7
      go_upto_region 14 with (fail)
      go_still_tail 26, (by kernel_rfl)
      go_wp2_with fail
      refine (EN.out _ (by exact drew_below w7 w7.drew rfl rfl rfl rfl)).mono ?_
      rintro e w9 ⟨rfl, hb9⟩
      go_wp2_with fail
      go_ret
      exact ⟨rfl, hb9⟩

end Go.Proofs.YtpidjmgapiekaaaGreatDoor
