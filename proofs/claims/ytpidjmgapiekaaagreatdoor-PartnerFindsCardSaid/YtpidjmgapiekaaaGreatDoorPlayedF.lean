/- This text proves what 'played' leaves of the turns in which two sides find each other, over the loaded program. -/
import Derived.Test.YtpidjmgapiekaaaGreatDoorFindsSide
import Derived.Test.YtpidjmgapiekaaaGreatDoorSmall
namespace Go.Proofs.YtpidjmgapiekaaaGreatDoor
open Go.RowKit Go.WideShapes
set_option linter.unusedSimpArgs false
set_option linter.unusedVariables false

/-- The turns. -/
def kd (i : Nat) : Int := if i % 5 = 0 then 1 else if i % 5 = 1 ∨ i % 5 = 3 then 4 else 5
def turnCells : Nat → List Value
  | 0 => []
  | n + 1 => turnCells n ++ [.int .i64 (kd n), .int .i64 0]
theorem turnCells_len (n : Nat) : (turnCells n).length = n * 2 := by
  induction n with
  | zero => rfl
  | succ n ih => simp [turnCells, ih]; omega
theorem turnCells_at (n i : Nat) (h : i < n) : (turnCells n)[2 * i]? = some (.int .i64 (kd i)) ∧ (turnCells n)[2 * i + 1]? = some (.int .i64 0) := by
  induction n with
  | zero => omega
  | succ n ih =>
    have hl := turnCells_len n
    by_cases e : i = n
    · subst e
      constructor
      · rw [turnCells, List.getElem?_append_right (by omega)]
        rw [show 2 * i - (turnCells i).length = 0 by omega]
        rfl
      · rw [turnCells, List.getElem?_append_right (by omega)]
        rw [show 2 * i + 1 - (turnCells i).length = 1 by omega]
        rfl
    · have := ih (by omega)
      constructor
      · rw [turnCells, List.getElem?_append_left (by omega)]; exact this.1
      · rw [turnCells, List.getElem?_append_left (by omega)]; exact this.2

/-- What a side of those rounds says of itself. -/
theorem mini_conf (o : Opt) (ho : o.good) (me : Int) {m : Mini} (hm : MFine m) : (m.side o me).confirmed = 0 ∧ (m.side o me).agreed = 0 := by
  have hl := new_last ho.delay
  have hd := ho.delay
  have hp : ¬ m.phase = 3 := by rcases hm.phase with h | h <;> omega
  have hc : (m.side o me).confirmed = 0 := by
    unfold Side.confirmed
    show (if 0 < (Que.new o.delay.toNat).wrong then _ else if m.phase = 3 then _ else mn 0 (Que.new o.delay.toNat).last) = 0
    rw [if_neg (by show ¬ (0 : Int) < 0; decide), if_neg hp, hl]
    unfold mn
    rw [if_neg (by omega)]
  refine ⟨hc, ?_⟩
  unfold Side.agreed
  rw [hc]
  show mn 0 (Que.new o.delay.toNat).last = 0
  rw [hl]
  unfold mn
  rw [if_neg (by omega)]

section
variable {w w0 w1 : World} {pb : Nat} {a : Ptr}
theorem conf_mini {o : Opt} {me : Int} {m : Mini} (h : PAt w pb a (m.side o me)) (ho : o.good) (hm : MFine m) (k : Nat) : Calls Tryz.prog 23 #[.pointer (some ⟨pb, 0, none⟩)] (w.drewN k) (Reads (w.drewN k) (.int .i64 0)) := by
  rw [← (mini_conf o ho me hm).1]
  exact confirmed_any (h.drewN k) (new_fine ho.delay).1 (by show (0 : Int) ≤ _; decide) (by show (0 : Int) ≤ 0; decide)
theorem agreed_mini {o : Opt} {me : Int} {m : Mini} (h : PAt w pb a (m.side o me)) (ho : o.good) (hm : MFine m) (k : Nat) : Calls Tryz.prog 12 #[.pointer (some ⟨pb, 0, none⟩)] (w.drewN k) (Reads (w.drewN k) (.int .i64 0)) := by
  rw [← (mini_conf o ho me hm).2]
  exact agreed_any (h.drewN k) (new_fine ho.delay).1 (by show (0 : Int) ≤ _; decide) (by show (0 : Int) ≤ 0; decide)
theorem frame_mini {o : Opt} {me : Int} {m : Mini} (h : PAt w pb a (m.side o me)) (k : Nat) : Calls Tryz.prog 21 #[.pointer (some ⟨pb, 0, none⟩)] (w.drewN k) fun e w' => e = .returned (.int .i64 0) ∧ w' = w.drewN k :=
  (frame_any (h.drewN k)).mono fun e w' hh => ⟨hh.1, hh.2.symm⟩
end

set_option maxRecDepth 100000 in
set_option maxHeartbeats 12800000 in
theorem playedF_any {A : Nat → Addr} (o : Opt) (ho : o.good) (hr9 : o.retry ≤ 9) (n : Nat) (hn : n = 5 * (o.syncs.toNat + 2)) (TX : Option Addr) (c : Nat) (w : World) (hA : s_Apart 5 w A) (hT : Cells w TX (turnCells n)) :
    Calls Tryz.prog 10 #[o.v, .slice TX n c] w (fun e w' => ∃ pa pb lx ly, e = .returned (.tuple #[.pointer (some ⟨pa, 0, none⟩), .pointer (some ⟨pb, 0, none⟩), .pointer (some ⟨lx, 0, none⟩), .pointer (some ⟨ly, 0, none⟩), .bool true]) ∧ TwoL w pa pb ((runM o.syncs o.retry n).1.side o 0) ((runM o.syncs o.retry n).2.side o 1) none [] [] w') := by
  have RG := rounds_go o.syncs o.retry ho.syncs ⟨ho.retry.1, hr9⟩
  have hnn : n ≤ 35 ∧ 0 < n := by have := ho.syncs; omega
  rw [← hn] at RG
  have GO := Lib.hid (go_all o.syncs o.retry n 0 RG.1)
  have HO := Lib.hid ho
  have hB0 := (Below.refl w.heap.size w).alloc (Nat.le_refl _) (.cells o.cs 30)
  have h30 := heap_alloc_new w (.cells o.cs 30)
  have HT := Lib.hid (hT.below hB0)
  have HA := Lib.hid (hA.below hB0)
  have BB := Lib.hid hB0
  have H30 := Lib.hid h30
  obtain ⟨w0, hw0⟩ : ∃ w0, w.alloc (.cells o.cs 30) = w0 := ⟨_, rfl⟩
  rw [hw0] at HT HA BB H30
  have N1 := Lib.hid (fun wx => pnew_any o ho 0 1 (.inl rfl) wx)
  have N2 := Lib.hid (fun wx => pnew_any o ho 1 2 (.inr rfl) wx)
  obtain ⟨b2, hb2⟩ : ∃ b2, w.heap.size = b2 := ⟨_, rfl⟩
  rw [hb2] at H30
  have h0 := H30.out
  have y0 : w0.cell? ⟨b2, 0, none⟩ = some (.int .i64 o.window) := by simp only [World.cell?, h0]; rfl
  have y1 : w0.cell? ⟨b2, 1, none⟩ = some (.int .i64 o.delay) := by simp only [World.cell?, h0]; rfl
  have y2 : w0.cell? ⟨b2, 2, none⟩ = some (.int .i64 o.syncs) := by simp only [World.cell?, h0]; rfl
  have y3 : w0.cell? ⟨b2, 3, none⟩ = some (.int .i64 o.retry) := by simp only [World.cell?, h0]; rfl
  have y4 : w0.cell? ⟨b2, 4, none⟩ = some (.int .i64 o.timeout) := by simp only [World.cell?, h0]; rfl
  have y5 : w0.cell? ⟨b2, 5, none⟩ = some (.int .i64 o.report) := by simp only [World.cell?, h0]; rfl
  have W0 := Lib.hid hw0
  have HB2 := Lib.hid hb2
  unfold Opt.v at N1 N2 ⊢
  unfold Opt.cs at W0
  clear hB0 h30 hT hA hw0 hb2 h0 RG ho hn
  go_enter Tryz.func10, Tryz.ntmps10
  go_upto_region 1 with (fail)
  rw [W0.out]
  try rw [HB2.out]
  go_wp2_with fail
  refine (N1.out _).mono ?_
  rintro e w1 ⟨pa, aa, rfl, p1, f1⟩
  have z := (f1.1.block b2 (by rw [← HB2.out, ← W0.out, size_alloc1]; omega)).trans H30.out
  have y0 : w1.cell? ⟨b2, 0, none⟩ = some (.int .i64 o.window) := by simp only [World.cell?, z]; rfl
  have y1 : w1.cell? ⟨b2, 1, none⟩ = some (.int .i64 o.delay) := by simp only [World.cell?, z]; rfl
  have y2 : w1.cell? ⟨b2, 2, none⟩ = some (.int .i64 o.syncs) := by simp only [World.cell?, z]; rfl
  have y3 : w1.cell? ⟨b2, 3, none⟩ = some (.int .i64 o.retry) := by simp only [World.cell?, z]; rfl
  have y4 : w1.cell? ⟨b2, 4, none⟩ = some (.int .i64 o.timeout) := by simp only [World.cell?, z]; rfl
  have y5 : w1.cell? ⟨b2, 5, none⟩ = some (.int .i64 o.report) := by simp only [World.cell?, z]; rfl
  have PP1 := Lib.hid (And.intro p1 f1)
  clear p1 f1 z
  go_wp2_with fail
  refine (N2.out _).mono ?_
  rintro e w2 ⟨pb, ab, rfl, p2, f2⟩
  have TT := Lib.hid ((TwoL.start PP1.out.1 PP1.out.2 p2 f2).below (below_two w2 (.cells Tryz.zeroCells36 36) (.cells Tryz.zeroCells36 36)))
  clear p2 f2 y0 y1 y2 y3 y4 y5
  go_upto_region 7 with (fail)
  have T4 := TT.out
  generalize (w2.alloc _).alloc _ = w4 at T4 ⊢
  have T4H : Hid (TwoL w0 pa pb ((runM o.syncs o.retry 0).1.side o 0) ((runM o.syncs o.retry 0).2.side o 1) none [] [] w4) := Lib.hid T4
  clear TT T4
  obtain ⟨tb, tf, hTX, _⟩ := HT.out 0 (.int .i64 (kd 0)) (turnCells_at n 0 (by omega)).1
  subst hTX
  go_wp2_with fail
  go_loopw [15, 16, 17, 18, 19, 20, 21, 22, 23, 24, 25, 26] (fun ii _ _ _ _ _ _ _ _ _ _ _ wr => ∃ i : Nat, i ≤ n ∧ ii = .int .i64 i ∧ TwoL w0 pa pb ((runM o.syncs o.retry i).1.side o 0) ((runM o.syncs o.retry i).2.side o 1) none [] [] wr) (fun ii _ _ _ _ _ _ _ _ _ _ _ _ => n - (intOf ii).toNat)
  case atStart => exact ⟨0, by omega, rfl, T4H.out⟩
  case round =>
    obtain ⟨i, hi, rfl, HT2⟩ := hrel
    by_cases hlt : i < n
    · have G0 := GO.out i (by omega) (by omega)
      have G1 := GO.out (i + 1) (by omega) (by omega)
      have M1 := Lib.hid (fineM_iff G0.1.1)
      have M2 := Lib.hid (fineM_iff G0.1.2)
      have MF1 := Lib.hid (fineM_iff G1.1.1)
      have MF2 := Lib.hid (fineM_iff G1.1.2)
      have GG := Lib.hid (G0.2 (by omega))
      clear G0 G1
      obtain ⟨p, hp⟩ : ∃ p, runM o.syncs o.retry i = p := ⟨_, rfl⟩
      have RS : runM o.syncs o.retry (i + 1) = turnM o.syncs o.retry i p := by rw [← hp]; rfl
      rw [hp] at HT2 M1 M2 GG
      by_cases h5 : i % 5 = 0
      · have hkd : kd i = 1 := by unfold kd; rw [if_pos h5]
        have hc := turnCells_at n i hlt
        rw [hkd] at hc
        obtain ⟨b', o', e', hc0⟩ := (HT.out.below HT2.bel) (2 * i) _ hc.1
        cases e'
        obtain ⟨b', o', e', hc1⟩ := (HT.out.below HT2.bel) (2 * i + 1) _ hc.2
        cases e'
        have d0 : wr.cell? ⟨tb, tf + i * 2, none⟩ = some (.int .i64 1) := by rw [show tf + i * 2 = tf + 2 * i by omega]; exact hc0
        have d1 : wr.cell? ⟨tb, tf + i * 2 + 1, none⟩ = some (.int .i64 0) := by rw [show tf + i * 2 + 1 = tf + (2 * i + 1) by omega]; exact hc1
        have T3 := HT2.add (.cells #[.int .i64 1, .int .i64 0] 40)
        have hbt := heap_alloc_new wr (.cells #[.int .i64 1, .int .i64 0] 40)
        obtain ⟨bt, hbe⟩ : ∃ bt, wr.heap.size = bt := ⟨_, rfl⟩
        obtain ⟨wt, hwt⟩ : ∃ wt, wr.alloc (.cells #[.int .i64 1, .int .i64 0] 40) = wt := ⟨_, rfl⟩
        rw [hbe] at T3 hbt
        rw [hwt] at T3 hbt
        have t0 : wt.cell? ⟨bt, 0, none⟩ = some (.int .i64 1) := by simp only [World.cell?, hbt]; rfl
        have WT := Lib.hid hwt
        have BT := Lib.hid hbe
        have TH := Lib.hid T3
        have hi1 : (0 : Int) ≤ (i : Int) := by omega
        have hi2 : (i : Int) < (n : Int) := by omega
        have hi3 : (i : Int) < 400 := by omega
        clear hc hc0 hc1 hwt hbe T3 hbt HT2 hkd
        go_wp2_with fail
        try rw [BT.out]
        try rw [WT.out]
        have RT : Hid (runM o.syncs o.retry (i + 1) = (p.1.tick o.retry, p.2.tick o.retry)) := Lib.hid (by rw [RS]; unfold turnM; rw [if_pos h5])
        have LD := Lib.hid (GG.out.1 h5)
        clear RS h5
        refine (TH.out.stepA (P1' := (p.1.tick o.retry).side o 0) (fun aa h f => tick_mini h f HA.out M1.out LD.out.1 HO.out)).mono ?_
        rintro e w5 ⟨rfl, t5⟩
        have T5 := Lib.hid t5
        clear t5
        go_wp2_with fail
        refine (T5.out.stepB (P2' := (p.2.tick o.retry).side o 1) (fun aa h f => tick_mini h f HA.out M2.out LD.out.2 HO.out)).mono ?_
        rintro e wq ⟨rfl, t6⟩
        have TQ : Hid (TwoL w0 pa pb ((runM o.syncs o.retry (i + 1)).1.side o 0) ((runM o.syncs o.retry (i + 1)).2.side o 1) none [] [(bt, .cells #[.int .i64 1, .int .i64 0] 40)] wq) := Lib.hid (by rw [RT.out]; exact t6)
        clear t6 t0
        obtain ⟨pn, hpn⟩ : ∃ pn, runM o.syncs o.retry (i + 1) = pn := ⟨_, rfl⟩
        rw [hpn] at TQ MF1 MF2
        have HPN := Lib.hid hpn
        clear hpn RT
        go_upto_region 39 with (fail)
        obtain ⟨qa, qb, h1, h2, -⟩ := TQ.out
        have CA := Lib.hid (fun k => conf_mini h1 HO.out MF1.out k)
        have CB := Lib.hid (fun k => conf_mini h2 HO.out MF2.out k)
        have AA := Lib.hid (fun k => agreed_mini h1 HO.out MF1.out k)
        have AB := Lib.hid (fun k => agreed_mini h2 HO.out MF2.out k)
        have FA := Lib.hid (fun k => frame_mini h1 k)
        have FB := Lib.hid (fun k => frame_mini h2 k)
        have zq := (TQ.out.bel.block b2 (Array.getElem?_eq_some_iff.1 H30.out).1).trans H30.out
        have yq : wq.cell? ⟨b2, 0, none⟩ = some (.int .i64 o.window) := by simp only [World.cell?, zq]; rfl
        have e0 : IntKind.i64.wrap (0 - 0) = 0 := by decide
        have e00 : IntKind.i64.wrap 0 = 0 := by decide
        have qw : decide (o.window < 0) = false := by have := HO.out.window; simp; omega
        have ei : IntKind.i64.wrap ((i : Int) + 1) = (i : Int) + 1 := IntWalk.i64_in _ (by omega)
        clear h1 h2 zq
        go_wp2_with fail
        go_quiet ((first | (go_at_call 21; with_reducible exact Calls.quiet_of_same (FA.out _)) | (go_at_call 21; with_reducible exact Calls.quiet_of_same (FB.out _)) | (go_at_call 23; with_reducible exact Calls.quiet_of (CA.out _)) | (go_at_call 23; with_reducible exact Calls.quiet_of (CB.out _)) | (go_at_call 12; with_reducible exact Calls.quiet_of (AA.out _)) | (go_at_call 12; with_reducible exact Calls.quiet_of (AB.out _))))
        go_wp2_with fail
        go_roundw
        case rel => exact ⟨i + 1, by omega, by go_num, by rw [HPN.out]; exact (TQ.out.norow.less (K' := []) (by simp)).drewN _⟩
        case measure => simp [intOf]; omega
      · by_cases h13 : i % 5 = 1 ∨ i % 5 = 3
        · have hkd : kd i = 4 := by unfold kd; rw [if_neg h5, if_pos h13]
          have hc := turnCells_at n i hlt
          rw [hkd] at hc
          obtain ⟨b', o', e', hc0⟩ := (HT.out.below HT2.bel) (2 * i) _ hc.1
          cases e'
          obtain ⟨b', o', e', hc1⟩ := (HT.out.below HT2.bel) (2 * i + 1) _ hc.2
          cases e'
          have d0 : wr.cell? ⟨tb, tf + i * 2, none⟩ = some (.int .i64 4) := by rw [show tf + i * 2 = tf + 2 * i by omega]; exact hc0
          have d1 : wr.cell? ⟨tb, tf + i * 2 + 1, none⟩ = some (.int .i64 0) := by rw [show tf + i * 2 + 1 = tf + (2 * i + 1) by omega]; exact hc1
          have T3 := HT2.add (.cells #[.int .i64 4, .int .i64 0] 40)
          have hbt := heap_alloc_new wr (.cells #[.int .i64 4, .int .i64 0] 40)
          obtain ⟨bt, hbe⟩ : ∃ bt, wr.heap.size = bt := ⟨_, rfl⟩
          obtain ⟨wt, hwt⟩ : ∃ wt, wr.alloc (.cells #[.int .i64 4, .int .i64 0] 40) = wt := ⟨_, rfl⟩
          rw [hbe] at T3 hbt
          rw [hwt] at T3 hbt
          have t0 : wt.cell? ⟨bt, 0, none⟩ = some (.int .i64 4) := by simp only [World.cell?, hbt]; rfl
          have WT := Lib.hid hwt
          have BT := Lib.hid hbe
          have TH := Lib.hid T3
          have hi1 : (0 : Int) ≤ (i : Int) := by omega
          have hi2 : (i : Int) < (n : Int) := by omega
          have hi3 : (i : Int) < 400 := by omega
          clear hc hc0 hc1 hwt hbe T3 hbt HT2 hkd
          go_wp2_with fail
          try rw [BT.out]
          try rw [WT.out]
          have RT : Hid (runM o.syncs o.retry (i + 1) = ({ p.1 with out := [] }, p.2.hears o.syncs p.1.out)) := Lib.hid (by rw [RS]; unfold turnM; rw [if_neg h5, if_pos h13])
          have HK := Lib.hid (GG.out.2.1 h13)
          clear RS h5 h13
          have OUT : Hid (Calls Tryz.prog 15 #[.pointer (some ⟨pa, 0, none⟩)] wt fun e w' => ∃ X' c, e = .returned (.slice X' p.1.out.length c) ∧ TwoL w0 pa pb (({ p.1 with out := [] } : Mini).side o 0) ((p.2).side o 1) X' (p.1.out.map (fun x => Value.string (mtext o.delay x))) [(bt, .cells #[.int .i64 4, .int .i64 0] 40)] w') := Lib.hid ((TH.out.outA).mono (by
            rintro e w' ⟨X', c', rfl, h⟩
            refine ⟨X', c', ?_, ?_⟩
            · show Ending.returned (.slice X' (p.1.out.map (mtext o.delay)).length c') = _
              rw [List.length_map]
            · have e1 : ((p.1.out.map (mtext o.delay)).map Value.string) = p.1.out.map (fun x => Value.string (mtext o.delay x)) := by rw [List.map_map]; rfl
              rw [← e1]
              exact h))
          refine OUT.out.mono ?_
          rintro e w5 ⟨X', c', rfl, t5⟩
          have T5 := Lib.hid t5
          clear t5 t0
          have PK := Lib.hid (fun x (hx : x ∈ p.1.out) => M1.out.pkts x hx)
          obtain ⟨ol, hol⟩ : ∃ ol, p.1.out = ol := ⟨_, rfl⟩
          rw [hol] at T5 HK PK RT ⊢
          obtain ⟨len, hlen⟩ : ∃ len, ol.length = len := ⟨_, rfl⟩
          rw [hlen]
          have HLN := Lib.hid hlen
          have HL20 : Hid (len ≤ 20) := Lib.hid (by rw [← hlen, ← hol]; exact M1.out.out)
          clear hol hlen
          go_wp2_with fail
          go_loopw [24] (fun kk wk => ∃ k : Nat, k ≤ len ∧ kk = .int .i64 k ∧ TwoL w0 pa pb (({ p.1 with out := [] } : Mini).side o 0) ((p.2.hears o.syncs (ol.take k)).side o 1) X' (ol.map (fun x => Value.string (mtext o.delay x))) [(bt, .cells #[.int .i64 4, .int .i64 0] 40)] wk) (fun kk _ => len - (intOf kk).toNat)
          case atStart => exact ⟨0, by omega, rfl, T5.out⟩
          case round =>
            obtain ⟨k, hk, rfl, hT⟩ := hrel
            have h40 := hT.at (p := (bt, _)) (List.mem_singleton.2 rfl)
            dsimp only at h40
            have t4 : wr.cell? ⟨bt, 0, none⟩ = some (.int .i64 4) := by simp only [World.cell?, h40]; rfl
            have TK := Lib.hid hT
            clear hT h40
            by_cases hkl : k < len
            · have hj1 : (0 : Int) ≤ (k : Int) := by omega
              have hj2 : (k : Int) < (len : Int) := by omega
              have hek : IntKind.i64.wrap ((k : Int) + 1) = (k : Int) + 1 := IntWalk.i64_in _ (by have := HL20.out; omega)
              have hlk : k < ol.length := by rw [HLN.out]; exact hkl
              obtain ⟨sx, hsx⟩ : ∃ sx, mtext o.delay ol[k] = sx := ⟨_, rfl⟩
              obtain ⟨xb, xo, hX, hcx⟩ := TK.out.cell k (.string sx) (by rw [List.getElem?_map, List.getElem?_eq_getElem hlk, ← hsx]; rfl)
              subst hX
              have HF := Lib.hid (fineM_iff (hearsOk_take o.syncs ol p.2 HK.out k))
              have HE := Lib.hid (TK.out.stepB (P2' := ((p.2.hears o.syncs (ol.take (k + 1))).side o 1)) (fun aa h f => by
                have := hear_mini h f HA.out HF.out HO.out (PK.out ol[k] (List.getElem_mem hlk))
                have e2 : (p.2.hears o.syncs (ol.take k)).hear o.syncs ol[k] = p.2.hears o.syncs (ol.take (k + 1)) := by
                  unfold Mini.hears
                  rw [List.take_add_one, List.getElem?_eq_getElem hlk, List.foldl_append]
                  rfl
                rw [e2, hsx] at this
                exact this))
              clear hsx hlk
              go_wp2_with fail
              refine HE.out.mono ?_
              rintro e w6 ⟨rfl, t6⟩
              have T6 := Lib.hid t6
              clear t6
              go_wp2_with fail
              go_roundw
              case rel => exact ⟨k + 1, by omega, by go_num, T6.out⟩
              case measure => simp [intOf]; omega
            · obtain rfl : k = len := by omega
              have TQ0 := TK.out
              rw [List.take_of_length_le (by rw [HLN.out]; exact Nat.le_refl _)] at TQ0
              obtain ⟨wq, hwq⟩ : ∃ wq, wr = wq := ⟨_, rfl⟩
              subst hwq
              have TQ := Lib.hid (show TwoL w0 pa pb ((runM o.syncs o.retry (i + 1)).1.side o 0) ((runM o.syncs o.retry (i + 1)).2.side o 1) _ _ [(bt, .cells #[.int .i64 4, .int .i64 0] 40)] wr by rw [RT.out]; exact TQ0)
              clear TQ0
              obtain ⟨pn, hpn⟩ : ∃ pn, runM o.syncs o.retry (i + 1) = pn := ⟨_, rfl⟩
              rw [hpn] at TQ MF1 MF2
              have HPN := Lib.hid hpn
              clear hpn RT
              go_upto_region 39 with (fail)
              obtain ⟨qa, qb, h1, h2, -⟩ := TQ.out
              have CA := Lib.hid (fun k => conf_mini h1 HO.out MF1.out k)
              have CB := Lib.hid (fun k => conf_mini h2 HO.out MF2.out k)
              have AA := Lib.hid (fun k => agreed_mini h1 HO.out MF1.out k)
              have AB := Lib.hid (fun k => agreed_mini h2 HO.out MF2.out k)
              have FA := Lib.hid (fun k => frame_mini h1 k)
              have FB := Lib.hid (fun k => frame_mini h2 k)
              have zq := (TQ.out.bel.block b2 (Array.getElem?_eq_some_iff.1 H30.out).1).trans H30.out
              have yq : wr.cell? ⟨b2, 0, none⟩ = some (.int .i64 o.window) := by simp only [World.cell?, zq]; rfl
              have e0 : IntKind.i64.wrap (0 - 0) = 0 := by decide
              have e00 : IntKind.i64.wrap 0 = 0 := by decide
              have qw : decide (o.window < 0) = false := by have := HO.out.window; simp; omega
              have ei : IntKind.i64.wrap ((i : Int) + 1) = (i : Int) + 1 := IntWalk.i64_in _ (by omega)
              clear h1 h2 zq
              go_wp2_with fail
              go_quiet ((first | (go_at_call 21; with_reducible exact Calls.quiet_of_same (FA.out _)) | (go_at_call 21; with_reducible exact Calls.quiet_of_same (FB.out _)) | (go_at_call 23; with_reducible exact Calls.quiet_of (CA.out _)) | (go_at_call 23; with_reducible exact Calls.quiet_of (CB.out _)) | (go_at_call 12; with_reducible exact Calls.quiet_of (AA.out _)) | (go_at_call 12; with_reducible exact Calls.quiet_of (AB.out _))))
              go_wp2_with fail
              go_roundw
              case rel => exact ⟨i + 1, by omega, by go_num, by rw [HPN.out]; exact (TQ.out.norow.less (K' := []) (by simp)).drewN _⟩
              case measure => simp [intOf]; omega
        · have hkd : kd i = 5 := by unfold kd; rw [if_neg h5, if_neg h13]
          have hc := turnCells_at n i hlt
          rw [hkd] at hc
          obtain ⟨b', o', e', hc0⟩ := (HT.out.below HT2.bel) (2 * i) _ hc.1
          cases e'
          obtain ⟨b', o', e', hc1⟩ := (HT.out.below HT2.bel) (2 * i + 1) _ hc.2
          cases e'
          have d0 : wr.cell? ⟨tb, tf + i * 2, none⟩ = some (.int .i64 5) := by rw [show tf + i * 2 = tf + 2 * i by omega]; exact hc0
          have d1 : wr.cell? ⟨tb, tf + i * 2 + 1, none⟩ = some (.int .i64 0) := by rw [show tf + i * 2 + 1 = tf + (2 * i + 1) by omega]; exact hc1
          have T3 := HT2.add (.cells #[.int .i64 5, .int .i64 0] 40)
          have hbt := heap_alloc_new wr (.cells #[.int .i64 5, .int .i64 0] 40)
          obtain ⟨bt, hbe⟩ : ∃ bt, wr.heap.size = bt := ⟨_, rfl⟩
          obtain ⟨wt, hwt⟩ : ∃ wt, wr.alloc (.cells #[.int .i64 5, .int .i64 0] 40) = wt := ⟨_, rfl⟩
          rw [hbe] at T3 hbt
          rw [hwt] at T3 hbt
          have t0 : wt.cell? ⟨bt, 0, none⟩ = some (.int .i64 5) := by simp only [World.cell?, hbt]; rfl
          have WT := Lib.hid hwt
          have BT := Lib.hid hbe
          have TH := Lib.hid T3
          have hi1 : (0 : Int) ≤ (i : Int) := by omega
          have hi2 : (i : Int) < (n : Int) := by omega
          have hi3 : (i : Int) < 400 := by omega
          clear hc hc0 hc1 hwt hbe T3 hbt HT2 hkd
          go_wp2_with fail
          try rw [BT.out]
          try rw [WT.out]
          have RT : Hid (runM o.syncs o.retry (i + 1) = (p.1.hears o.syncs p.2.out, { p.2 with out := [] })) := Lib.hid (by rw [RS]; unfold turnM; rw [if_neg h5, if_neg h13])
          have HK := Lib.hid (GG.out.2.2 h5 h13)
          clear RS h5 h13
          have OUT : Hid (Calls Tryz.prog 15 #[.pointer (some ⟨pb, 0, none⟩)] wt fun e w' => ∃ X' c, e = .returned (.slice X' p.2.out.length c) ∧ TwoL w0 pa pb ((p.1).side o 0) (({ p.2 with out := [] } : Mini).side o 1) X' (p.2.out.map (fun x => Value.string (mtext o.delay x))) [(bt, .cells #[.int .i64 5, .int .i64 0] 40)] w') := Lib.hid ((TH.out.outB).mono (by
            rintro e w' ⟨X', c', rfl, h⟩
            refine ⟨X', c', ?_, ?_⟩
            · show Ending.returned (.slice X' (p.2.out.map (mtext o.delay)).length c') = _
              rw [List.length_map]
            · have e1 : ((p.2.out.map (mtext o.delay)).map Value.string) = p.2.out.map (fun x => Value.string (mtext o.delay x)) := by rw [List.map_map]; rfl
              rw [← e1]
              exact h))
          refine OUT.out.mono ?_
          rintro e w5 ⟨X', c', rfl, t5⟩
          have T5 := Lib.hid t5
          clear t5 t0
          have PK := Lib.hid (fun x (hx : x ∈ p.2.out) => M2.out.pkts x hx)
          obtain ⟨ol, hol⟩ : ∃ ol, p.2.out = ol := ⟨_, rfl⟩
          rw [hol] at T5 HK PK RT ⊢
          obtain ⟨len, hlen⟩ : ∃ len, ol.length = len := ⟨_, rfl⟩
          rw [hlen]
          have HLN := Lib.hid hlen
          have HL20 : Hid (len ≤ 20) := Lib.hid (by rw [← hlen, ← hol]; exact M2.out.out)
          clear hol hlen
          go_wp2_with fail
          go_loopw [26] (fun kk wk => ∃ k : Nat, k ≤ len ∧ kk = .int .i64 k ∧ TwoL w0 pa pb ((p.1.hears o.syncs (ol.take k)).side o 0) (({ p.2 with out := [] } : Mini).side o 1) X' (ol.map (fun x => Value.string (mtext o.delay x))) [(bt, .cells #[.int .i64 5, .int .i64 0] 40)] wk) (fun kk _ => len - (intOf kk).toNat)
          case atStart => exact ⟨0, by omega, rfl, T5.out⟩
          case round =>
            obtain ⟨k, hk, rfl, hT⟩ := hrel
            have h40 := hT.at (p := (bt, _)) (List.mem_singleton.2 rfl)
            dsimp only at h40
            have t4 : wr.cell? ⟨bt, 0, none⟩ = some (.int .i64 5) := by simp only [World.cell?, h40]; rfl
            have TK := Lib.hid hT
            clear hT h40
            by_cases hkl : k < len
            · have hj1 : (0 : Int) ≤ (k : Int) := by omega
              have hj2 : (k : Int) < (len : Int) := by omega
              have hek : IntKind.i64.wrap ((k : Int) + 1) = (k : Int) + 1 := IntWalk.i64_in _ (by have := HL20.out; omega)
              have hlk : k < ol.length := by rw [HLN.out]; exact hkl
              obtain ⟨sx, hsx⟩ : ∃ sx, mtext o.delay ol[k] = sx := ⟨_, rfl⟩
              obtain ⟨xb, xo, hX, hcx⟩ := TK.out.cell k (.string sx) (by rw [List.getElem?_map, List.getElem?_eq_getElem hlk, ← hsx]; rfl)
              subst hX
              have HF := Lib.hid (fineM_iff (hearsOk_take o.syncs ol p.1 HK.out k))
              have HE := Lib.hid (TK.out.stepA (P1' := ((p.1.hears o.syncs (ol.take (k + 1))).side o 0)) (fun aa h f => by
                have := hear_mini h f HA.out HF.out HO.out (PK.out ol[k] (List.getElem_mem hlk))
                have e2 : (p.1.hears o.syncs (ol.take k)).hear o.syncs ol[k] = p.1.hears o.syncs (ol.take (k + 1)) := by
                  unfold Mini.hears
                  rw [List.take_add_one, List.getElem?_eq_getElem hlk, List.foldl_append]
                  rfl
                rw [e2, hsx] at this
                exact this))
              clear hsx hlk
              go_wp2_with fail
              refine HE.out.mono ?_
              rintro e w6 ⟨rfl, t6⟩
              have T6 := Lib.hid t6
              clear t6
              go_wp2_with fail
              go_roundw
              case rel => exact ⟨k + 1, by omega, by go_num, T6.out⟩
              case measure => simp [intOf]; omega
            · obtain rfl : k = len := by omega
              have TQ0 := TK.out
              rw [List.take_of_length_le (by rw [HLN.out]; exact Nat.le_refl _)] at TQ0
              obtain ⟨wq, hwq⟩ : ∃ wq, wr = wq := ⟨_, rfl⟩
              subst hwq
              have TQ := Lib.hid (show TwoL w0 pa pb ((runM o.syncs o.retry (i + 1)).1.side o 0) ((runM o.syncs o.retry (i + 1)).2.side o 1) _ _ [(bt, .cells #[.int .i64 5, .int .i64 0] 40)] wr by rw [RT.out]; exact TQ0)
              clear TQ0
              obtain ⟨pn, hpn⟩ : ∃ pn, runM o.syncs o.retry (i + 1) = pn := ⟨_, rfl⟩
              rw [hpn] at TQ MF1 MF2
              have HPN := Lib.hid hpn
              clear hpn RT
              go_upto_region 39 with (fail)
              obtain ⟨qa, qb, h1, h2, -⟩ := TQ.out
              have CA := Lib.hid (fun k => conf_mini h1 HO.out MF1.out k)
              have CB := Lib.hid (fun k => conf_mini h2 HO.out MF2.out k)
              have AA := Lib.hid (fun k => agreed_mini h1 HO.out MF1.out k)
              have AB := Lib.hid (fun k => agreed_mini h2 HO.out MF2.out k)
              have FA := Lib.hid (fun k => frame_mini h1 k)
              have FB := Lib.hid (fun k => frame_mini h2 k)
              have zq := (TQ.out.bel.block b2 (Array.getElem?_eq_some_iff.1 H30.out).1).trans H30.out
              have yq : wr.cell? ⟨b2, 0, none⟩ = some (.int .i64 o.window) := by simp only [World.cell?, zq]; rfl
              have e0 : IntKind.i64.wrap (0 - 0) = 0 := by decide
              have e00 : IntKind.i64.wrap 0 = 0 := by decide
              have qw : decide (o.window < 0) = false := by have := HO.out.window; simp; omega
              have ei : IntKind.i64.wrap ((i : Int) + 1) = (i : Int) + 1 := IntWalk.i64_in _ (by omega)
              clear h1 h2 zq
              go_wp2_with fail
              go_quiet ((first | (go_at_call 21; with_reducible exact Calls.quiet_of_same (FA.out _)) | (go_at_call 21; with_reducible exact Calls.quiet_of_same (FB.out _)) | (go_at_call 23; with_reducible exact Calls.quiet_of (CA.out _)) | (go_at_call 23; with_reducible exact Calls.quiet_of (CB.out _)) | (go_at_call 12; with_reducible exact Calls.quiet_of (AA.out _)) | (go_at_call 12; with_reducible exact Calls.quiet_of (AB.out _))))
              go_wp2_with fail
              go_roundw
              case rel => exact ⟨i + 1, by omega, by go_num, by rw [HPN.out]; exact (TQ.out.norow.less (K' := []) (by simp)).drewN _⟩
              case measure => simp [intOf]; omega
    · obtain rfl : i = n := by omega
      have HTN := Lib.hid HT2
      clear HT2
      have qn : decide ((i : Int) < (i : Int)) = false := by simp
      go_wp2_with fail
      refine bodyPost_ret (v := .tuple #[.pointer (some ⟨pa, 0, none⟩), .pointer (some ⟨pb, 0, none⟩), .pointer (some ⟨w2.heap.size, 0, none⟩), .pointer (some ⟨w2.heap.size + 1, 0, none⟩), .bool true]) (by simp [results, Tryz.results10, go_sem]) rfl ?_
      exact ⟨pa, pb, _, _, rfl, HTN.out.base BB.out⟩

end Go.Proofs.YtpidjmgapiekaaaGreatDoor
