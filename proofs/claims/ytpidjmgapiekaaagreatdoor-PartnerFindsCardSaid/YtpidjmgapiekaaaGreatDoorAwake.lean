/- This text proves that the law's own example of two sides is awake, over the loaded program. -/
import Derived.Test.YtpidjmgapiekaaaGreatDoorFindsSide
namespace Go.Proofs.YtpidjmgapiekaaaGreatDoor
open Go.RowKit Go.WideShapes
set_option linter.unusedSimpArgs false
set_option linter.unusedVariables false

/-- A row that lies beside two sides is pinned: its block as it is. -/
theorem TwoL.pin {W0 wr : World} {pa pb : Nat} {P1 P2 : Side} {X : Option Addr} {xs : List Value} {K : List (Nat × Obj)} (h : TwoL W0 pa pb P1 P2 X xs K wr) :
    ∃ K', (∀ p ∈ K, p ∈ K') ∧ TwoL W0 pa pb P1 P2 none [] K' wr ∧ ∀ w' : World, (∀ p ∈ K', w'.heap[p.1]? = some p.2) → Cells w' X xs := by
  cases hxs : xs with
  | nil => exact ⟨K, fun _ hp => hp, h.norow, fun w' _ => Cells.nil _ _⟩
  | cons v r =>
    obtain ⟨b, o, hX, hc⟩ := h.cell 0 v (by rw [hxs]; rfl)
    subst hX
    obtain ⟨aa, ab, h1, h2, h3, h4, h5, h6, h7, h8⟩ := h
    obtain ⟨k1, k2, k3, k4⟩ := h7 b o rfl
    have hb : wr.heap[b]? = some wr.heap[b] := Array.getElem?_eq_getElem k3
    refine ⟨(b, wr.heap[b]) :: K, fun p hp => List.mem_cons_of_mem _ hp, ⟨aa, ab, h1, h2, h3, h4, h5, Cells.nil _ _, fun b o e => (by cases e), fun p hp => ?_⟩, fun w' hw => ?_⟩
    · rcases List.mem_cons.1 hp with rfl | hp
      · exact ⟨hb, k1, k2⟩
      · exact h8 p hp
    · have hbw : w'.heap[b]? = some wr.heap[b] := hw (b, wr.heap[b]) (List.mem_cons_self ..)
      intro i u hi
      rw [← hxs] at hi
      obtain ⟨b', o', e, hcc⟩ := h6 i u hi
      cases e
      refine ⟨b, o, rfl, ?_⟩
      exact (World.cell?_of_block (hbw.trans hb.symm)).trans hcc

/-- The example's sides, turn by turn. -/
def awStep (p : Mini × Mini) : Mini × Mini := (({ p.1 with out := [] } : Mini).hears 1 p.2.out, ({ p.2 with out := [] } : Mini).hears 1 p.1.out)
def awM : Nat → Mini × Mini
  | 0 => ((Mini.new 1).tick 3, (Mini.new 2).tick 3)
  | t + 1 => awStep (awM t)
theorem aw_fine : ∀ t ∈ [0, 1, 2, 3], fineM (awM t).1 = true ∧ fineM (awM t).2 = true := by decide +kernel
theorem aw_hears : ∀ t ∈ [0, 1, 2], hearsOk 1 { (awM t).1 with out := [] } (awM t).2.out = true ∧ hearsOk 1 { (awM t).2 with out := [] } (awM t).1.out = true := by decide +kernel
theorem aw_end : (awM 3).1.phase = 2 ∧ (awM 3).2.phase = 2 := by decide +kernel
theorem aw_new : (fineM (Mini.new 1) = true ∧ loudM 3 (Mini.new 1) = true) ∧ fineM (Mini.new 2) = true ∧ loudM 3 (Mini.new 2) = true := by decide +kernel
theorem mem03 {t : Nat} (h : t ≤ 3) : t ∈ [0, 1, 2, 3] := by simp; omega
theorem mem02 {t : Nat} (h : t < 3) : t ∈ [0, 1, 2] := by simp; omega

/-- What the first one plays. -/
theorem aw_play (m : Mini) (hm : m.phase = 2) : (m.side someO 0).playR 7 = [⟨2, 1, 0, 0⟩, ⟨3, 1, 0, 0⟩] := rfl
theorem aw_put (m : Mini) : (m.side someO 0).mine.err ((m.side someO 0).frame + 1 + (m.side someO 0).o.delay) 7 = none := by
  show (Que.new 1).err (0 + 1 + 1) 7 = none
  decide
theorem rq_eql2 (w : World) : (binOp .eql 98 (.agg #[.int .i64 2, .int .i64 1, .int .i64 0, .int .i64 0]) (.agg #[.int .i64 2, .int .i64 1, .int .i64 0, .int .i64 0])).run Tryz.prog w = .ok (.bool true) w := by kernel_rfl
theorem rq_eql3 (w : World) : (binOp .eql 98 (.agg #[.int .i64 3, .int .i64 1, .int .i64 0, .int .i64 0]) (.agg #[.int .i64 3, .int .i64 1, .int .i64 0, .int .i64 0])).run Tryz.prog w = .ok (.bool true) w := by kernel_rfl
theorem fgt_keep {q : Que} (h : q.ok) (f : Int) : (q.fgt f).ok ∧ (q.fgt f).wrong = q.wrong ∧ (q.fgt f).last = q.last := by
  unfold Que.fgt
  split
  · rename_i hc
    obtain ⟨k, hk⟩ : ∃ k : Nat, (if (q.xs.length : Int) - 1 < f - q.first then (q.xs.length : Int) - 1 else f - q.first).toNat = k := ⟨_, rfl⟩
    have hkl : k ≤ q.xs.length := by rw [← hk]; split <;> omega
    rw [hk]
    obtain ⟨h1, h2, h3⟩ := h
    unfold Que.forget Que.last
    refine ⟨⟨?_, ?_, ?_⟩, rfl, ?_⟩
    · show 1 ≤ q.first + (k : Int); omega
    · show q.first + (k : Int) + ((q.xs.drop k).length : Int) ≤ _
      rw [List.length_drop]; omega
    · show (q.xs.drop k).length ≤ _
      rw [List.length_drop]; omega
    · show q.first + (k : Int) + ((q.xs.drop k).length : Int) - 1 = _
      rw [List.length_drop]; omega
  · exact ⟨h, rfl, rfl⟩
/-- What the first one knows behind its play. -/
theorem aw_after (m : Mini) (hm : m.phase = 2) : ((m.side someO 0).play 7).phase = 2 ∧ ((m.side someO 0).play 7).frame = 1 ∧ ((m.side someO 0).play 7).other.ok ∧ ((m.side someO 0).play 7).other.wrong = 0 ∧ ((m.side someO 0).play 7).confirmed = 1 := by
  have hf : (Que.new 1).fine := new_fine (d := 1) (by decide)
  have hu := use_fine hf 1
  unfold Side.play
  rw [if_pos (show (m.side someO 0).phase = 2 from hm)]
  obtain ⟨P2, hP2⟩ : ∃ P2 : Side, ({ ({ m.side someO 0 with mine := (m.side someO 0).mine.put ((m.side someO 0).frame + 1 + (m.side someO 0).o.delay) 7 } : Side).used ((m.side someO 0).frame + 1) with frame := (m.side someO 0).frame + 1 } : Side) = P2 := ⟨_, rfl⟩
  rw [hP2]
  have k1 : P2.other = (Que.new 1).use 1 := by rw [← hP2]; rfl
  have k2 : P2.frame = 1 := by rw [← hP2]; rfl
  have k3 : P2.phase = 2 := by rw [← hP2]; exact hm
  have ik := inputs_keep P2
  obtain ⟨P3, hP3⟩ : ∃ P3, P2.sendInputs = P3 := ⟨_, rfl⟩
  rw [hP3] at ik ⊢
  have e1 : P3.forget.phase = P3.phase := rfl
  have e2 : P3.forget.frame = P3.frame := rfl
  have e3 : P3.forget.other = P3.other.fgt P3.confirmed := rfl
  have o3 : P3.other = (Que.new 1).use 1 := ik.2.1.trans k1
  have fk := fgt_keep (q := P3.other) (by rw [o3]; exact hu.1.1) P3.confirmed
  have hw : P3.forget.other.wrong = 0 := by rw [e3, fk.2.1, o3, hu.2.1]; rfl
  have hl : P3.forget.other.last = 1 := by rw [e3, fk.2.2, o3, hu.2.2]; rfl
  have hp : P3.forget.phase = 2 := by rw [e1, ik.2.2.2, k3]
  have hfr : P3.forget.frame = 1 := by rw [e2, ik.2.2.1, k2]
  refine ⟨hp, hfr, by rw [e3]; exact fk.1, hw, ?_⟩
  unfold Side.confirmed
  rw [hw, hl, hp, hfr]
  rfl

set_option maxRecDepth 100000 in
set_option maxHeartbeats 12800000 in
theorem awake_any {A : Nat → Addr} {bS : Addr} (w : World) (hA : s_Apart 5 w A) (hS : w.cell? ⟨2, 0, none⟩ = some (.iface 221 (.pointer (some bS)))) : Calls Tryz.prog 9 #[] w (fun e w' => e = .returned (.bool true) ∧ Below w.heap.size w w') := by
  have HA := Lib.hid hA
  have HS := Lib.hid hS
  have SO := Lib.hid (fun wx => some_any wx)
  have N1 := Lib.hid (fun wx => pnew_any someO someO_good 0 1 (.inl rfl) wx)
  have N2 := Lib.hid (fun wx => pnew_any someO someO_good 1 2 (.inr rfl) wx)
  unfold Opt.v someO at SO N1 N2
  dsimp only at SO N1 N2
  clear hA hS
  go_enter Tryz.func9, Tryz.ntmps9
  go_wp2_with fail
  refine (SO.out _).mono ?_
  rintro e w1 ⟨rfl, hb1⟩
  have B1 := Lib.hid hb1
  clear hb1
  go_wp2_with fail
  refine (N1.out _).mono ?_
  rintro e w2 ⟨pa, aa, rfl, p1, f1⟩
  have PP1 := Lib.hid (And.intro p1 f1)
  clear p1 f1
  go_wp2_with fail
  refine (SO.out _).mono ?_
  rintro e w3 ⟨rfl, hb3⟩
  have B3 := Lib.hid hb3
  clear hb3
  go_wp2_with fail
  refine (N2.out _).mono ?_
  rintro e w4 ⟨pb, ab, rfl, p2, f2⟩
  have TT : Hid (TwoL w pa pb ((Mini.new 1).side someO 0) ((Mini.new 2).side someO 1) none [] [] w4) := Lib.hid ((TwoL.start (PP1.out.1.below B3.out) (PP1.out.2.below B3.out) p2 f2).base B1.out)
  clear p2 f2
  go_wp2_with fail
  refine (TT.out.stepA (P1' := ((Mini.new 1).tick 3).side someO 0) (fun aa h f => tick_mini h f HA.out (fineM_iff aw_new.1.1) aw_new.1.2 someO_good)).mono ?_
  rintro e w5 ⟨rfl, t5⟩
  have T5 := Lib.hid t5
  clear t5
  go_wp2_with fail
  refine (T5.out.stepB (P2' := ((Mini.new 2).tick 3).side someO 1) (fun aa h f => tick_mini h f HA.out (fineM_iff aw_new.2.1) aw_new.2.2 someO_good)).mono ?_
  rintro e w6 ⟨rfl, t6⟩
  have T6 : Hid (TwoL w pa pb ((awM 0).1.side someO 0) ((awM 0).2.side someO 1) none [] [] w6) := Lib.hid t6
  clear t6 TT T5
  go_wp2_with fail
  go_loopw [5, 6, 7, 8, 9] (fun tt _ _ _ _ wr => ∃ t : Nat, t ≤ 3 ∧ tt = .int .i64 t ∧ TwoL w pa pb ((awM t).1.side someO 0) ((awM t).2.side someO 1) none [] [] wr) (fun tt _ _ _ _ _ => 3 - (intOf tt).toNat)
  case atStart => exact ⟨0, by omega, rfl, T6.out⟩
  case round =>
    obtain ⟨t, ht, rfl, hT⟩ := hrel
    by_cases hlt : t < 3
    · have hi2 : (t : Int) < 3 := by omega
      have et : IntKind.i64.wrap ((t : Int) + 1) = (t : Int) + 1 := IntWalk.i64_in _ (by omega)
      have F0 := aw_fine t (mem03 (by omega))
      have M1 := Lib.hid (fineM_iff F0.1)
      have M2 := Lib.hid (fineM_iff F0.2)
      have HK := Lib.hid (aw_hears t (mem02 hlt))
      obtain ⟨p, hp⟩ : ∃ p, awM t = p := ⟨_, rfl⟩
      have HN : Hid (awM (t + 1) = awStep p) := Lib.hid (by rw [← hp]; rfl)
      rw [hp] at hT M1 M2 HK
      have OUT : Hid (Calls Tryz.prog 15 #[.pointer (some ⟨pa, 0, none⟩)] wr fun e w' => ∃ X' c, e = .returned (.slice X' p.1.out.length c) ∧ TwoL w pa pb (({ p.1 with out := [] } : Mini).side someO 0) (p.2.side someO 1) X' (p.1.out.map (fun x => Value.string (mtext 1 x))) [] w') := Lib.hid (hT.outA.mono (by
        rintro e w' ⟨X', c', rfl, h⟩
        refine ⟨X', c', ?_, ?_⟩
        · show Ending.returned (.slice X' (p.1.out.map (mtext someO.delay)).length c') = _
          rw [List.length_map]
        · have e1 : ((p.1.out.map (mtext someO.delay)).map Value.string) = p.1.out.map (fun x => Value.string (mtext 1 x)) := by rw [List.map_map]; rfl
          rw [← e1]
          exact h))
      clear hT F0 hp
      obtain ⟨len1, hl1⟩ : ∃ l, p.1.out.length = l := ⟨_, rfl⟩
      obtain ⟨len2, hl2⟩ : ∃ l, p.2.out.length = l := ⟨_, rfl⟩
      rw [hl1] at OUT
      have L1 := Lib.hid hl1
      have L2 := Lib.hid hl2
      have LL : Hid (len1 ≤ 20 ∧ len2 ≤ 20) := Lib.hid ⟨by rw [← hl1]; exact M1.out.out, by rw [← hl2]; exact M2.out.out⟩
      clear hl1 hl2
      go_wp2_with fail
      refine OUT.out.mono ?_
      rintro e w7 ⟨X1, c1, rfl, t7⟩
      obtain ⟨K1, -, u7, hc1⟩ := t7.pin
      have C1 := Lib.hid hc1
      have OUT2 : Hid (Calls Tryz.prog 15 #[.pointer (some ⟨pb, 0, none⟩)] w7 fun e w' => ∃ X' c, e = .returned (.slice X' len2 c) ∧ TwoL w pa pb (({ p.1 with out := [] } : Mini).side someO 0) (({ p.2 with out := [] } : Mini).side someO 1) X' (p.2.out.map (fun x => Value.string (mtext 1 x))) K1 w') := Lib.hid (u7.outB.mono (by
        rintro e w' ⟨X', c', rfl, h⟩
        refine ⟨X', c', ?_, ?_⟩
        · show Ending.returned (.slice X' (p.2.out.map (mtext someO.delay)).length c') = _
          rw [List.length_map, L2.out]
        · have e1 : ((p.2.out.map (mtext someO.delay)).map Value.string) = p.2.out.map (fun x => Value.string (mtext 1 x)) := by rw [List.map_map]; rfl
          rw [← e1]
          exact h))
      clear t7 u7 hc1
      go_wp2_with fail
      refine OUT2.out.mono ?_
      rintro e w8 ⟨X2, c2, rfl, t8⟩
      obtain ⟨K2, hK, u8, hc2⟩ := t8.pin
      have C2 := Lib.hid hc2
      have C1 : Hid (∀ w' : World, (∀ p ∈ K2, w'.heap[p.1]? = some p.2) → Cells w' X1 (p.1.out.map (fun x => Value.string (mtext 1 x)))) := Lib.hid (fun w' hw => C1.out w' (fun p hp => hw p (hK p hp)))
      have T7 := Lib.hid u8
      clear t8 u8 hc2 hK
      go_wp2_with fail
      go_loopw [8] (fun kk wk => ∃ k : Nat, k ≤ len1 ∧ kk = .int .i64 k ∧ TwoL w pa pb (({ p.1 with out := [] } : Mini).side someO 0) ((({ p.2 with out := [] } : Mini).hears 1 (p.1.out.take k)).side someO 1) none [] K2 wk) (fun kk _ => len1 - (intOf kk).toNat)
      case atStart => exact ⟨0, by omega, rfl, T7.out⟩
      case round =>
        obtain ⟨k, hk, rfl, hT⟩ := hrel
        have TK := Lib.hid hT
        clear hT
        by_cases hkl : k < len1
        · have hj1 : (0 : Int) ≤ (k : Int) := by omega
          have hj2 : (k : Int) < (len1 : Int) := by omega
          have hek : IntKind.i64.wrap ((k : Int) + 1) = (k : Int) + 1 := IntWalk.i64_in _ (by have := LL.out; omega)
          have hlk : k < p.1.out.length := by rw [L1.out]; exact hkl
          obtain ⟨sx, hsx⟩ : ∃ sx, mtext 1 p.1.out[k] = sx := ⟨_, rfl⟩
          obtain ⟨xb, xo, hX, hcx⟩ := C1.out wr (fun p hp => TK.out.at hp) k (.string sx) (by rw [List.getElem?_map, List.getElem?_eq_getElem hlk, ← hsx]; rfl)
          subst hX
          have HF := Lib.hid (fineM_iff (hearsOk_take 1 p.1.out { p.2 with out := [] } HK.out.2 k))
          have HE := Lib.hid (TK.out.stepB (P2' := ((({ p.2 with out := [] } : Mini).hears 1 (p.1.out.take (k + 1))).side someO 1)) (fun aa h f => by
            have := hear_mini h f HA.out HF.out someO_good (M1.out.pkts p.1.out[k] (List.getElem_mem hlk))
            have e2 : ((({ p.2 with out := [] } : Mini).hears 1 (p.1.out.take k))).hear someO.syncs p.1.out[k] = ({ p.2 with out := [] } : Mini).hears 1 (p.1.out.take (k + 1)) := by
              unfold Mini.hears
              rw [List.take_add_one, List.getElem?_eq_getElem hlk, List.foldl_append]
              rfl
            rw [e2] at this
            have e3 : mtext someO.delay p.1.out[k] = sx := hsx
            rw [e3] at this
            exact this))
          clear hsx hlk
          go_wp2_with fail
          refine HE.out.mono ?_
          rintro e w6 ⟨rfl, t6⟩
          have T6 := Lib.hid t6
          clear t6
          go_wp2_with fail
          go_roundw
          case rel => exact ⟨k + 1, by omega, by go_num, T6.out⟩
          case measure => simp [intOf]; omega
        · obtain rfl : k = len1 := by omega
          have TQ0 := TK.out
          rw [List.take_of_length_le (by rw [L1.out]; exact Nat.le_refl _)] at TQ0
          have T8 := Lib.hid TQ0
          clear TQ0 TK
          go_wp2_with fail
          go_loopw [9] (fun kk wk => ∃ k : Nat, k ≤ len2 ∧ kk = .int .i64 k ∧ TwoL w pa pb ((({ p.1 with out := [] } : Mini).hears 1 (p.2.out.take k)).side someO 0) ((({ p.2 with out := [] } : Mini).hears 1 p.1.out).side someO 1) none [] K2 wk) (fun kk _ => len2 - (intOf kk).toNat)
          case atStart => exact ⟨0, by omega, rfl, T8.out⟩
          case round =>
            obtain ⟨k, hk, rfl, hT⟩ := hrel
            have TK := Lib.hid hT
            clear hT
            by_cases hkl : k < len2
            · have hj1 : (0 : Int) ≤ (k : Int) := by omega
              have hj2 : (k : Int) < (len2 : Int) := by omega
              have hek : IntKind.i64.wrap ((k : Int) + 1) = (k : Int) + 1 := IntWalk.i64_in _ (by have := LL.out; omega)
              have hlk : k < p.2.out.length := by rw [L2.out]; exact hkl
              obtain ⟨sx, hsx⟩ : ∃ sx, mtext 1 p.2.out[k] = sx := ⟨_, rfl⟩
              obtain ⟨xb, xo, hX, hcx⟩ := C2.out wr (fun p hp => TK.out.at hp) k (.string sx) (by rw [List.getElem?_map, List.getElem?_eq_getElem hlk, ← hsx]; rfl)
              subst hX
              have HF := Lib.hid (fineM_iff (hearsOk_take 1 p.2.out { p.1 with out := [] } HK.out.1 k))
              have HE := Lib.hid (TK.out.stepA (P1' := ((({ p.1 with out := [] } : Mini).hears 1 (p.2.out.take (k + 1))).side someO 0)) (fun aa h f => by
                have := hear_mini h f HA.out HF.out someO_good (M2.out.pkts p.2.out[k] (List.getElem_mem hlk))
                have e2 : ((({ p.1 with out := [] } : Mini).hears 1 (p.2.out.take k))).hear someO.syncs p.2.out[k] = ({ p.1 with out := [] } : Mini).hears 1 (p.2.out.take (k + 1)) := by
                  unfold Mini.hears
                  rw [List.take_add_one, List.getElem?_eq_getElem hlk, List.foldl_append]
                  rfl
                rw [e2] at this
                have e3 : mtext someO.delay p.2.out[k] = sx := hsx
                rw [e3] at this
                exact this))
              clear hsx hlk
              go_wp2_with fail
              refine HE.out.mono ?_
              rintro e w6 ⟨rfl, t6⟩
              have T6 := Lib.hid t6
              clear t6
              go_wp2_with fail
              go_roundw
              case rel => exact ⟨k + 1, by omega, by go_num, T6.out⟩
              case measure => simp [intOf]; omega
            · obtain rfl : k = len2 := by omega
              have TQ0 := TK.out
              rw [List.take_of_length_le (by rw [L2.out]; exact Nat.le_refl _)] at TQ0
              have T9 : Hid (TwoL w pa pb ((awM (t + 1)).1.side someO 0) ((awM (t + 1)).2.side someO 1) none [] [] wr) := Lib.hid (by
                rw [HN.out]
                exact TQ0.less (by simp))
              clear TQ0 TK
              go_wp2_with fail
              go_roundw
              case rel => exact ⟨t + 1, by omega, by go_num, T9.out⟩
              case measure => simp [intOf]; omega
    · obtain rfl : t = 3 := by omega
      obtain ⟨aa, ab, h1, h2, f1, f2, hd, -⟩ := hT
      have ph := aw_end
      have M1 := fineM_iff (aw_fine 3 (by simp)).1
      obtain ⟨m, hm⟩ : ∃ m, (awM 3).1 = m := ⟨_, rfl⟩
      obtain ⟨m', hm'⟩ : ∃ m', (awM 3).2 = m' := ⟨_, rfl⟩
      rw [hm] at h1 M1 ph
      rw [hm'] at h2 ph
      have PL := play_any h1 f1 (HA.out.glob (by decide)) (M1.small someO_good 0) (.inl ph.1) 7 (by decide) (fun _ => by show (0 : Int) + 1 - (Que.new 1).last ≤ 4; decide) (aw_put m) rfl (by show (0 : Int) ≤ 0 ∧ (0 : Int) ≤ _; decide) (by show (0 : Nat) < _; decide) (.inl rfl) (by show (0 : Int) ≤ 1 ∧ (1 : Int) ≤ 6; decide)
      rw [aw_play m ph.1] at PL
      have PLH := Lib.hid PL
      have AF := Lib.hid (aw_after m ph.1)
      have PH := Lib.hid ph.2
      have H2 := Lib.hid (And.intro h2 (And.intro hd f1))
      obtain ⟨P', hP'⟩ : ∃ P', (m.side someO 0).play 7 = P' := ⟨_, rfl⟩
      rw [hP'] at PLH AF
      clear h1 h2 f1 f2 hd PL M1 ph hm hm' hP' N2
      go_wp2_with fail
      refine PLH.out.mono ?_
      rintro e w5 ⟨g, o, cap, rfl, hp⟩
      obtain ⟨a5, q1, q2, q3, -, -, -, -, q8⟩ := hp
      have F5 := Lib.hid (H2.out.2.2.left q2 q3)
      have R5 := Lib.hid (And.intro q1 (And.intro (H2.out.1.kept q2 (fun l hl x hx hm => H2.out.2.1 x hm (List.mem_flatten.2 ⟨l, hl, hx⟩))) q8))
      clear q1 q2 q3 q8
      go_wp2_with fail
      refine (SO.out _).mono ?_
      rintro e w10 ⟨rfl, hb10⟩
      have B10 := Lib.hid hb10
      have g1 : Hid (w10.cell? ⟨1, 0, none⟩ = some (.iface 221 (.pointer (some (A 1))))) := Lib.hid (by
        have g0 : w.cell? ⟨1, 0, none⟩ = some (.iface 221 (.pointer (some (A 1)))) := (HA.out.1 1 (by decide)).1
        have hb := F5.out.1.trans (B10.out.mono F5.out.1.size)
        exact (hb.cell (World.block_lt_of_cell? w _ g0)).trans g0)
      have BAD := Lib.hid (pnew_bad someO someO_good 2 1 (by decide) (A 1) g1.out)
      unfold Opt.v someO at BAD
      dsimp only at BAD
      clear hb10
      go_wp2_with fail
      refine BAD.out.mono ?_
      rintro e w11 ⟨vh, rfl, hwh, hb11⟩
      have X11 := Lib.hid (And.intro hwh hb11)
      clear hwh hb11
      go_wp2_with fail
      refine (SO.out _).mono ?_
      rintro e w12 ⟨rfl, hb12⟩
      have B12 := Lib.hid hb12
      clear hb12
      go_wp2_with fail
      refine (N1.out _).mono ?_
      rintro e w13 ⟨pc, ac, rfl, p13, f13⟩
      have X13 := Lib.hid (And.intro p13 f13.1)
      have bAll := Lib.hid (F5.out.1.trans ((B10.out.trans ((X11.out.2.trans ((B12.out.trans (f13.1.mono B12.out.size)).mono X11.out.2.size)).mono B10.out.size)).mono F5.out.1.size))
      have ST := Lib.hid (play_state p13 rfl 7 bS ((bAll.out.cell (World.block_lt_of_cell? w _ HS.out)).trans HS.out))
      clear p13 f13
      go_wp2_with fail
      refine ST.out.mono ?_
      rintro e w14 ⟨vi, rfl, hwi, hb14⟩
      have b5 := B10.out.trans ((X11.out.2.trans ((B12.out.trans ((X13.out.2.trans (hb14.mono X13.out.2.size)).mono B12.out.size)).mono X11.out.2.size)).mono B10.out.size)
      have b11 := B12.out.trans ((X13.out.2.trans (hb14.mono X13.out.2.size)).mono B12.out.size)
      have bw := Lib.hid (F5.out.1.trans (b5.mono F5.out.1.size))
      have PA := Lib.hid (R5.out.1.below b5)
      have PB := Lib.hid (R5.out.2.1.below b5)
      have RW := R5.out.2.2.kept (Kept.of_below (fp := []) b5) (by simp)
      have WH := Lib.hid (X11.out.1.kept (Kept.of_below (fp := []) b11) (by simp))
      have WI := Lib.hid hwi
      have c0 := RW.cell 0 _ rfl
      have c1 := RW.cell 1 _ rfl
      have c2 := RW.cell 2 _ rfl
      have c3 := RW.cell 3 _ rfl
      have c4 := RW.cell 4 _ rfl
      have c5 := RW.cell 5 _ rfl
      have c6 := RW.cell 6 _ rfl
      have c7 := RW.cell 7 _ rfl
      rw [Nat.add_zero] at c0
      have g1 : w14.cell? ⟨1, 0, none⟩ = some (.iface 221 (.pointer (some (A 1)))) := by
        have g0 : w.cell? ⟨1, 0, none⟩ = some (.iface 221 (.pointer (some (A 1)))) := (HA.out.1 1 (by decide)).1
        exact (bw.out.cell (World.block_lt_of_cell? w _ g0)).trans g0
      have g2 : w14.cell? ⟨2, 0, none⟩ = some (.iface 221 (.pointer (some bS))) := (bw.out.cell (World.block_lt_of_cell? w _ HS.out)).trans HS.out
      have PHA : Hid (Calls Tryz.prog 13 #[.pointer (some ⟨pa, 0, none⟩)] w14 fun e w' => e = .returned (.int .i64 2) ∧ w14 = w') := Lib.hid (by
        have := phase_any PA.out
        rw [AF.out.1] at this
        exact this)
      have PHB : Hid (Calls Tryz.prog 13 #[.pointer (some ⟨pb, 0, none⟩)] w14 fun e w' => e = .returned (.int .i64 2) ∧ w14 = w') := Lib.hid (by
        have := phase_any PB.out
        rw [show (m'.side someO 1).phase = 2 from PH.out] at this
        exact this)
      have FRA : Hid (Calls Tryz.prog 21 #[.pointer (some ⟨pa, 0, none⟩)] w14 fun e w' => e = .returned (.int .i64 1) ∧ w14 = w') := Lib.hid (by
        have := frame_any PA.out
        rw [AF.out.2.1] at this
        exact this)
      have CFA : Hid (Calls Tryz.prog 23 #[.pointer (some ⟨pa, 0, none⟩)] w14 (Reads w14 (.int .i64 1))) := Lib.hid (by
        have := confirmed_any PA.out AF.out.2.2.1 (by rw [AF.out.2.2.2.1]; decide) (by rw [AF.out.2.2.2.1]; decide)
        rw [AF.out.2.2.2.2] at this
        exact this)
      have EQ2 := rq_eql2
      have EQ3 := rq_eql3
      clear hwi hb14 b5 b11 RW
      go_wp2_with fail
      refine PHA.out.mono ?_
      rintro e w15 ⟨rfl, rfl⟩
      go_wp2_with fail
      refine PHB.out.mono ?_
      rintro e w15 ⟨rfl, rfl⟩
      go_wp2_with fail
      refine FRA.out.mono ?_
      rintro e w15 ⟨rfl, rfl⟩
      go_wp2_with fail
      refine CFA.out.mono ?_
      rintro e w15 ⟨rfl, kk, rfl⟩
      have G1 : (w14.drewN kk).cell? ⟨1, 0, none⟩ = some (.iface 221 (.pointer (some (A 1)))) := g1
      have G2 : (w14.drewN kk).cell? ⟨2, 0, none⟩ = some (.iface 221 (.pointer (some bS))) := g2
      have WH2 : Hid (Wraps (w14.drewN kk) vh (A 1)) := Lib.hid WH.out
      have WI2 : Hid (Wraps (w14.drewN kk) vi bS) := Lib.hid WI.out
      have BW2 : Hid (Below w.heap.size w (w14.drewN kk)) := Lib.hid (bw.out.trans ⟨rfl, rfl, rfl, Nat.le_refl _, fun _ _ => rfl⟩)
      generalize w14.drewN kk = w16 at G1 G2 WH2 WI2 BW2 ⊢
      clear c0 c1 c2 c3 c4 c5 c6 c7 g1 g2
      go_wp2_with fail
      refine (WH2.out.is).mono ?_
      rintro e w17 ⟨rfl, rfl⟩
      go_wp2_with fail
      refine (WI2.out.is).mono ?_
      rintro e w17 ⟨rfl, rfl⟩
      go_wp2_with fail
      go_ret
      exact ⟨rfl, BW2.out⟩

end Go.Proofs.YtpidjmgapiekaaaGreatDoor
