/- This text proves, over the loaded program, that the law LineCounts returns true for every input. -/
import Derived.Test.YtkpbjahjiajodaaDoorLActs
import Derived.Deep.DeepCutAuto
import Derived.Deep.CutBlock
namespace Go.Proofs.YtkpbjahjiajodaaDoor
open Go.RowKit Go.WideShapes

theorem lu64_wrap (x : Int) : IntKind.u64.wrap x = x % 18446744073709551616 := by
  simp [IntKind.wrap, IntKind.signed, IntKind.bits]
theorem lindex_of (x n : Int) (h : 0 < n) (hn : n < 4611686018427387904) : ∃ k : Nat, wrap64 ((IntKind.u64.wrap x).tmod n) = (k : Int) ∧ (k : Int) < n := by
  refine ⟨((x % 18446744073709551616) % n).toNat, ?_⟩
  rw [lu64_wrap, Int.tmod_eq_emod_of_nonneg (by omega)]
  have a := Int.emod_nonneg (x % 18446744073709551616) (show n ≠ 0 by omega)
  have b := Int.emod_lt_of_pos (x % 18446744073709551616) h
  generalize (x % 18446744073709551616) % n = y at *
  unfold wrap64
  omega

/-- What holds while a round's counts are held against each other. -/
abbrev CtC (w0 : World) (lb : Nat) (L : Lin) (sb : Nat) (w : World) : Prop :=
  w.cell? ⟨sb, 0, none⟩ = some (.int .i64 L.c0) ∧ w.cell? ⟨sb, 4, none⟩ = some (.int .i64 L.c4) ∧ w.cell? ⟨sb, 2, none⟩ = some (.int .i64 L.c2) ∧ w.cell? ⟨sb, 3, none⟩ = some (.int .i64 L.c3) ∧ LI w0 lb L w
theorem ct_bel {w0 w w' : World} {lb sb : Nat} {L : Lin} (h : CtC w0 lb L sb w) (hb : Below w.heap.size w w') : CtC w0 lb L sb w' := by
  obtain ⟨h0, h1, h2, h3, h4⟩ := h
  have hl := World.block_lt_of_cell? w _ h0
  exact ⟨(hb.cell (p := ⟨sb, 0, none⟩) hl).trans h0, (hb.cell (p := ⟨sb, 4, none⟩) hl).trans h1, (hb.cell (p := ⟨sb, 2, none⟩) hl).trans h2, (hb.cell (p := ⟨sb, 3, none⟩) hl).trans h3, h4.below hb⟩
theorem ct_drew {w0 w : World} {lb sb : Nat} {L : Lin} (h : CtC w0 lb L sb w) : CtC w0 lb L sb w.drew := ct_bel h ⟨rfl, rfl, rfl, Nat.le_refl _, fun _ _ => rfl⟩
theorem ct_len {w0 w : World} {lb sb : Nat} {L : Lin} {t : Nat} (ht : L.ts.length = t) (h : CtC w0 lb L sb w) : Calls Tryd.prog 30 #[.pointer (some ⟨lb, 0, none⟩)] w (fun e w' => e = .returned (.int .i64 t) ∧ w = w') := by
  subst ht; exact li_len h.2.2.2.2
theorem ct_list {w0 w : World} {lb sb : Nat} {L : Lin} {t : Nat} (ht : L.ts.length = t) (hok : L.ok) (h : CtC w0 lb L sb w) : Calls Tryd.prog 27 #[.pointer (some ⟨lb, 0, none⟩)] w (fun e w' => ∃ X c, e = .returned (.slice X t c) ∧ Below w.heap.size w w') := by
  subst ht
  exact (li_list h.2.2.2.2 hok).mono fun e w' ⟨X, c, he, _, _, hb⟩ => ⟨X, c, he, hb⟩

theorem li_of_ct {w0 w : World} {lb sb : Nat} {L : Lin} (h : CtC w0 lb L sb w) : LI w0 lb L w := h.2.2.2.2

set_option maxRecDepth 100000 in
set_option maxHeartbeats 8000000 in
theorem counts_walk (places : Int) (l : List ActE) (X : Option Addr) (c : Nat) (w : World) (A : Nat → Addr) (hG : GlobL w A) (hA : Acts w X l) (hw : ∀ x ∈ l, x.s.size ≤ maxLen) (hlm0 : l.length ≤ maxLen) :
    Calls Tryd.prog 7 #[.int .i64 places, .slice X l.length c] w fun e w' => e = .returned (.bool true) ∧ Below w.heap.size w w' := by
  obtain ⟨p, hp, hp2⟩ := lindex_of places 64 (by omega) (by omega)
  have HP := Lib.hid hp
  obtain ⟨len, hlen⟩ : ∃ x, l.length = x := ⟨_, rfl⟩
  have hlm := hlm0
  simp only [maxLen] at hlm
  rw [hlen] at hlm
  have LEN := Lib.hid hlen
  have GG := Lib.hid hG
  have AA := Lib.hid hA
  have WF := Lib.hid hw
  rw [hlen]
  clear hp hlen hG hA hw
  go_enter Tryd.func7, Tryd.ntmps7
  go_wp2_with fail
  refine (lawake_any _ A GG.out).mono ?_
  rintro e w1 ⟨rfl, hB1⟩
  have B1 := Lib.hid hB1
  clear hB1
  go_wp2_with fail
  have hp := HP.out
  simp only [hp]
  rw [show wrap64 (1 + (p : Int)) = ((1 + p : Nat) : Int) by unfold wrap64; omega]
  refine (li_new _ w w1 B1.out (by omega) (by omega)).mono ?_
  rintro e w2 ⟨lb, rfl, hI, -, -⟩
  have I2 := Lib.hid hI
  obtain ⟨n, hn⟩ : ∃ n, 1 + p = n := ⟨_, rfl⟩
  have hn64 : n ≤ 64 := by omega
  rw [hn] at I2 ⊢
  have NN := Lib.hid hn
  clear hI hn hp
  go_wp2_with fail
  go_loopw [8] (fun i wr => ∃ k : Nat, k ≤ len ∧ k ≤ 200 ∧ i = .int .i64 k ∧ ∃ L, CI L n k ∧ LI w lb L wr) (fun i _ => len - (intOf i).toNat)
  case atStart => exact ⟨0, Nat.zero_le _, by omega, rfl, _, CI.new n hn64, I2.out⟩
  case round =>
    obtain ⟨k, hk, hk200, rfl, L, hC, hI⟩ := hrel
    have II := Lib.hid hI
    have CC := Lib.hid hC
    clear hI hC
    by_cases hlt : k < len ∧ k < 200
    · obtain ⟨hlt, hlt2⟩ := hlt
      have hi1 : (0 : Int) ≤ (k : Int) := by omega
      have hi2 : (k : Int) < (len : Int) := by omega
      have hi3 : (k : Int) < 200 := by omega
      obtain ⟨x, hx⟩ : ∃ x, l[k]? = some x := ⟨l[k]'(by rw [LEN.out]; omega), by simp [LEN.out, hlt]⟩
      obtain ⟨ab, ao, hAe, d0, d1, d2, d3, d4⟩ := (AA.out.below II.out.out) k x hx
      have hxs : x.s.size ≤ 9223372036854775807 := WF.out x (List.mem_of_getElem? hx)
      have OK := Lib.hid (CC.out.ok (by omega))
      obtain ⟨kd, xi, xs, xa, xb⟩ := x
      simp only at d0 d1 d2 d3 d4 hxs
      clear hx
      subst hAe
      by_cases hbig : 1000 < xs.size
      · have hbig' : (1000 : Int) < (xs.size : Int) := by omega
        have O := Lib.hid II.out.out
        go_wp2_with fail
        go_ret
        exact ⟨rfl, O.out.alloc O.out.size _⟩
      · have hbig' : (xs.size : Int) ≤ (1000 : Int) := by omega
        go_upto_block 2 with (fail)
        have IA : ∀ o, LI w lb L (wr.alloc o) := fun o => II.out.below ((Below.refl _ _).alloc (Nat.le_refl _) o)
        have IH := Lib.hid IA
        clear IA
        go_cut [6] (fun s6 wx => s6 = .pointer (some ⟨lb, 0, none⟩) ∧ ∃ L', CI L' n (k + 1) ∧ LI w lb L' wx)
        case first =>
          clear hbig
          by_cases k1 : kd = 1
          · subst k1
            go_wp2_with fail
            refine (li_send (IH.out _) OK.out GG.out xs hxs).mono ?_
            rintro e w5 hO
            obtain ⟨v, rfl, hv, hl, hf⟩ := hO
            have F : Hid (∃ L', CI L' n (k + 1) ∧ LI w lb L' w5) := Lib.hid ⟨_, CC.out.send xs, hl⟩
            clear hv hl hf
            go_wp2_with fail
            go_meet
            case rel => exact ⟨rfl, F.out⟩
          have q1 : (kd == 1) = false := by simpa using k1
          by_cases k2 : kd = 2
          · subst k2
            clear k1 q1
            go_wp2_with fail
            refine (li_take (IH.out _) OK.out GG.out xi).mono ?_
            rintro e w5 hO
            obtain ⟨v, rfl, hv, hl, hf⟩ := hO
            have F : Hid (∃ L', CI L' n (k + 1) ∧ LI w lb L' w5) := Lib.hid ⟨_, CC.out.take xi, hl⟩
            clear hv hl hf
            go_wp2_with fail
            go_meet
            case rel => exact ⟨rfl, F.out⟩
          have q2 : (kd == 2) = false := by simpa using k2
          by_cases k3 : kd = 3
          · subst k3
            clear k1 q1 k2 q2
            go_wp2_with fail
            refine (li_drop (IH.out _) OK.out GG.out xi).mono ?_
            rintro e w5 hO
            obtain ⟨v, rfl, hv, hl, hf⟩ := hO
            have F : Hid (∃ L', CI L' n (k + 1) ∧ LI w lb L' w5) := Lib.hid ⟨_, CC.out.drop xi, hl⟩
            clear hv hl hf
            go_wp2_with fail
            go_meet
            case rel => exact ⟨rfl, F.out⟩
          have q3 : (kd == 3) = false := by simpa using k3
          by_cases k4 : kd = 4
          · subst k4
            clear k1 q1 k2 q2 k3 q3
            go_wp2_with fail
            refine (li_double (IH.out _) OK.out GG.out xi).mono ?_
            rintro e w5 hO
            obtain ⟨v, rfl, hv, hl, hf⟩ := hO
            have F : Hid (∃ L', CI L' n (k + 1) ∧ LI w lb L' w5) := Lib.hid ⟨_, CC.out.double xi, hl⟩
            clear hv hl hf
            go_wp2_with fail
            go_meet
            case rel => exact ⟨rfl, F.out⟩
          have q4 : (kd == 4) = false := by simpa using k4
          by_cases k5 : kd = 5
          · subst k5
            clear k1 q1 k2 q2 k3 q3 k4 q4
            go_wp2_with fail
            refine (li_spoil (IH.out _) OK.out GG.out xi xa xb (fun _ => Nat.le_trans (CC.out.at xi) (by decide))).mono ?_
            rintro e w5 hO
            obtain ⟨v, rfl, hv, hl, hf⟩ := hO
            have F : Hid (∃ L', CI L' n (k + 1) ∧ LI w lb L' w5) := Lib.hid ⟨_, CC.out.spoil xi xa xb, hl⟩
            clear hv hl hf
            go_wp2_with fail
            go_meet
            case rel => exact ⟨rfl, F.out⟩
          have q5 : (kd == 5) = false := by simpa using k5
          have F : Hid (∃ L', CI L' n (k + 1) ∧ LI w lb L' (wr.alloc (.cells #[.int .i64 kd, .int .i64 xi, .string xs, .int .i64 xa, .int .u8 (xb.toNat : Int)] 47))) := Lib.hid ⟨_, CC.out.mono, IH.out _⟩
          clear k1 k2 k3 k4 k5
          go_wp2_with fail
          go_meet
          case rel => exact ⟨rfl, F.out⟩
        case rest =>
          obtain ⟨rfl, L', hC', hI'⟩ := hcut
          have I3 := Lib.hid hI'
          have C3 := Lib.hid hC'
          clear hC' hI' II CC OK IH
          have OK := Lib.hid (C3.out.ok (by omega))
          go_wp2_with fail
          refine (li_stats I3.out).mono ?_
          rintro e w5 ⟨rfl, hI, -⟩
          have I4 := Lib.hid hI
          clear hI
          go_wp2_with fail
          obtain ⟨m1, m2, m3, m4, m5, m6, m7, m8, m9, m10, m11⟩ := C3.out
          obtain ⟨t, ht⟩ : ∃ t, L'.ts.length = t := ⟨_, rfl⟩
          rw [ht] at m3 m4
          have HT := Lib.hid ht
          have e1 : IntKind.i64.wrap (L'.c0 + L'.c4) = L'.c0 + L'.c4 := IntWalk.i64_in _ (by omega)
          have e2 : IntKind.i64.wrap (L'.c0 + L'.c4 - L'.c2) = L'.c0 + L'.c4 - L'.c2 := IntWalk.i64_in _ (by omega)
          have e3 : IntKind.i64.wrap (L'.c0 + L'.c4 - L'.c2 - L'.c3) = L'.c0 + L'.c4 - L'.c2 - L'.c3 := IntWalk.i64_in _ (by omega)
          have t1 : ((t : Int) != L'.c0 + L'.c4 - L'.c2 - L'.c3) = false := by simpa using m3
          have t2 : decide (n < t) = false := by simp; omega
          have S0 : CtC w lb L' w5.heap.size (w5.alloc (.cells #[.int .i64 L'.c0, .int .i64 L'.c1, .int .i64 L'.c2, .int .i64 L'.c3, .int .i64 L'.c4, .int .i64 L'.c5] 59)) :=
            ⟨by rw [World.cell?_alloc_new]; rfl, by rw [World.cell?_alloc_new]; rfl, by rw [World.cell?_alloc_new]; rfl, by rw [World.cell?_alloc_new]; rfl, I4.out.below ((Below.refl _ _).alloc (Nat.le_refl _) _)⟩
          obtain ⟨W5, hW5⟩ : ∃ W5, W5 = w5.alloc (.cells #[.int .i64 L'.c0, .int .i64 L'.c1, .int .i64 L'.c2, .int .i64 L'.c3, .int .i64 L'.c4, .int .i64 L'.c5] 59) := ⟨_, rfl⟩
          rw [← hW5] at S0 ⊢
          clear hW5 ht m1 m2 m3 m4 m5 m6 m7 m8 m9 m10 m11
          go_region_held3 (fun w' => w'.cell? ⟨w5.heap.size, 0, none⟩ = some (.int .i64 L'.c0) ∧ w'.cell? ⟨w5.heap.size, 4, none⟩ = some (.int .i64 L'.c4) ∧ w'.cell? ⟨w5.heap.size, 2, none⟩ = some (.int .i64 L'.c2) ∧ w'.cell? ⟨w5.heap.size, 3, none⟩ = some (.int .i64 L'.c3) ∧ LI w lb L' w')
            ((first | assumption | (exact ct_drew (by assumption)) | (refine ct_bel ?_ hbel; assumption)))
            (first
              | (go_at_call 30; (with_reducible refine (ct_len (w0 := w) (sb := w5.heap.size) HT.out ?_).mono ?_); assumption; rintro e w' ⟨rfl, rfl⟩)
              | (go_at_call 27; (with_reducible refine (ct_list (w0 := w) (sb := w5.heap.size) HT.out OK.out ?_).mono ?_); assumption; rintro e w' ⟨X3, c3, rfl, hbel⟩))
          all_goals
            go_wp2_with fail
            exact ⟨⟨k + 1, by omega, by omega, by go_num, L', C3.out, li_of_ct (by assumption)⟩, by simp [intOf]; omega⟩
    · have O := Lib.hid II.out.out
      by_cases hlt1 : k < len
      · have h2 : (200 : Int) ≤ (k : Int) := by omega
        have h1 : (k : Int) < (len : Int) := by omega
        clear hlt
        go_wp2
        go_ret
        exact ⟨rfl, O.out⟩
      · have h1 : (len : Int) ≤ (k : Int) := by omega
        clear hlt hlt1
        go_wp2
        go_ret
        exact ⟨rfl, O.out⟩

theorem counts_any (w : World) (A : Nat → Addr) (hG : GlobL w A) (places : Int) (_hp : (Lit.int .i64 places).wf = true) (X : Option Addr) (c : Nat) (l : List ActE)
    (h : l.length ≤ c ∧ c ≤ maxLen ∧ Acts w X l ∧ ∀ x ∈ l, (Lit.int .i64 x.i).wf = true ∧ (Lit.int .i64 x.at_).wf = true ∧ x.s.size ≤ maxLen) :
    Calls Tryd.prog 7 #[.int .i64 places, .slice X l.length c] w fun e w' => e = .returned (.bool true) ∧ Below w.heap.size w w' :=
  counts_walk places l X c w A hG h.2.2.1 (fun x hx => (h.2.2.2 x hx).2.2) (by omega)

end Go.Proofs.YtkpbjahjiajodaaDoor
