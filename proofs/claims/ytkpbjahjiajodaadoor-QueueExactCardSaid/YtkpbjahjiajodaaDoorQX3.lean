/- This text walks the law QueueExact, over the loaded program. -/
import Derived.Test.YtkpbjahjiajodaaDoorQX2
import Derived.Deep.DeepCutAuto
import Derived.Deep.CutBlock
namespace Go.Proofs.YtkpbjahjiajodaaDoor
open Go.RowKit Go.WideShapes
set_option linter.unusedSimpArgs false

/-- What a round's frame leaves. -/
def XF1 (w0 : World) (qb m rb k : Nat) (q : Que) (G : List (Int × Int)) (b : Nat) (kd n x : Int) (nx : Bool) (f : Value) (w : World) : Prop :=
  ∃ fr : Int, f = .int .i64 fr ∧ (Lit.int .i64 fr).wf = true ∧ XC2 w0 qb m rb k q q G w ∧ ActQ w b kd n x nx
/-- What a round's act leaves. -/
def XF2 (w0 : World) (qb m rb k : Nat) (A : Nat → Addr) (f g : Value) (w : World) : Prop :=
  ∃ (q' : Que) (G' : List (Int × Int)) (err : Option Nat), QGood q' G' (k + 1) ∧ XC2 w0 qb m rb (k + 1) q' q' G' w ∧ NumQ w A rb f err ∧ g = .int .i64 (qNum err)

theorem wf_of {n : Int} (h1 : -9223372036854775808 ≤ n) (h2 : n ≤ 9223372036854775807) : (Lit.int .i64 n).wf = true := by
  have : IntKind.i64.min ≤ n ∧ n ≤ IntKind.i64.max := ⟨h1, h2⟩
  simpa [Lit.wf] using this
theorem wf_le {n : Int} (h : (Lit.int .i64 n).wf = true) : n ≤ 9223372036854775807 := by
  have : IntKind.i64.min ≤ n ∧ n ≤ IntKind.i64.max := by simpa [Lit.wf] using h
  exact this.2

/-- What the tests of a round hold on to. -/
def XT (w0 : World) (qb m rb N : Nat) (q : Que) (G : List (Int × Int)) (A : Nat → Addr) (f : Value) (err : Option Nat) (sv gv : Value) (w : World) : Prop :=
  XC2 w0 qb m rb N q q G w ∧ NumQ w A rb f err ∧ w.heap[rb]? = some (.cells #[.int .i64 q.first, sv, gv, .int .i64 q.wrong, .int .i64 q.fin, .bool q.closed] 88 (0, 0))
abbrev XTC (w0 : World) (qb m rb N : Nat) (q : Que) (G : List (Int × Int)) (A : Nat → Addr) (f : Value) (err : Option Nat) (sv gv : Value) (w : World) : Prop :=
  w.cell? ⟨rb, 0, none⟩ = some (.int .i64 q.first) ∧ w.cell? ⟨rb, 1, none⟩ = some sv ∧ w.cell? ⟨rb, 3, none⟩ = some (.int .i64 q.wrong) ∧ XT w0 qb m rb N q G A f err sv gv w
section
variable {w0 w w' : World} {qb m rb N : Nat} {q : Que} {G : List (Int × Int)} {A : Nat → Addr} {f : Value} {err : Option Nat} {sv gv : Value}
theorem XT.below (h : XT w0 qb m rb N q G A f err sv gv w) (hb : Below w.heap.size w w') : XT w0 qb m rb N q G A f err sv gv w' :=
  ⟨h.1.below hb, h.2.1.below hb, (hb.block _ (Array.getElem?_eq_some_iff.1 h.2.2).1).trans h.2.2⟩
theorem XT.cells (h : XT w0 qb m rb N q G A f err sv gv w) : XTC w0 qb m rb N q G A f err sv gv w :=
  ⟨by simp [World.cell?, h.2.2], by simp [World.cell?, h.2.2], by simp [World.cell?, h.2.2], h⟩
theorem xt_bel (h : XTC w0 qb m rb N q G A f err sv gv w) (hb : Below w.heap.size w w') : XTC w0 qb m rb N q G A f err sv gv w' := (h.2.2.2.below hb).cells
theorem xt_drew (h : XTC w0 qb m rb N q G A f err sv gv w) : XTC w0 qb m rb N q G A f err sv gv w.drew := xt_bel h ⟨rfl, rfl, rfl, Nat.le_refl _, fun _ _ => rfl⟩
theorem xt_num (hA : Apart 9 w0 A) (h : XTC w0 qb m rb N q G A f err sv gv w) : Calls Tryd.prog 43 #[f] w fun e w' => e = .returned (.int .i64 (qNum err)) ∧ w = w' := numq_any h.2.2.2.2.1 (hA.below h.2.2.2.1.out)
theorem xt_wrong (h : XTC w0 qb m rb N q G A f err sv gv w) : Calls Tryd.prog 16 #[.pointer (some ⟨qb, 0, none⟩)] w (fun e w' => e = .returned (.int .i64 q.wrong) ∧ w = w') := xwrong_any h.2.2.2.1
theorem xt_last (hok : q.ok) (h : XTC w0 qb m rb N q G A f err sv gv w) : Calls Tryd.prog 15 #[.pointer (some ⟨qb, 0, none⟩)] w (fun e w' => e = .returned (.int .i64 q.last) ∧ Below w.heap.size w w') := xlast_any h.2.2.2.1 hok
theorem xt_rlast (hok : q.ok) (h : XTC w0 qb m rb N q G A f err sv gv w) : Calls Tryd.prog 46 #[.pointer (some ⟨rb, 0, none⟩)] w (fun e w' => e = .returned (.int .i64 q.last) ∧ Below w.heap.size w w') := xrlast_any h.2.2.2.1 hok
theorem xt_first (h : XTC w0 qb m rb N q G A f err sv gv w) : Calls Tryd.prog 21 #[.pointer (some ⟨qb, 0, none⟩)] w (fun e w' => e = .returned (.int .i64 q.first) ∧ w = w') := xfirst_any h.2.2.2.1
theorem xt_len {t : Nat} (ht : q.xs.length = t) (h : XTC w0 qb m rb N q G A f err sv gv w) : Calls Tryd.prog 22 #[.pointer (some ⟨qb, 0, none⟩)] w (fun e w' => e = .returned (.int .i64 t) ∧ w = w') := by
  subst ht; exact xlen_any h.2.2.2.1
theorem XT.at4 (h : XT w0 qb m rb N q G A f err sv gv w) : w.cell? ⟨rb, 4, none⟩ = some (.int .i64 q.fin) := by simp [World.cell?, h.2.2]
theorem XT.at5 (h : XT w0 qb m rb N q G A f err sv gv w) : w.cell? ⟨rb, 5, none⟩ = some (.bool q.closed) := by simp [World.cell?, h.2.2]
theorem xt_of (h : XTC w0 qb m rb N q G A f err sv gv w) : XT w0 qb m rb N q G A f err sv gv w := h.2.2.2
theorem xt_xc (h : XTC w0 qb m rb N q G A f err sv gv w) : XC2 w0 qb m rb N q q G w := h.2.2.2.1
end

theorem lindex4 (x : Int) : ∃ k : Nat, IntKind.i64.wrap ((IntKind.u64.wrap x).tmod 4) = (k : Int) ∧ (k : Int) < 4 := by
  refine ⟨((x % 18446744073709551616) % 4).toNat, ?_⟩
  rw [lu64_wrap, Int.tmod_eq_emod_of_nonneg (by omega), IntWalk.i64_in _ (by omega)]
  omega
theorem Cloned.ints {w w' : World} {ys : List Int} {e : Ending} (h : Cloned w (ys.map (Value.int .i64)) e w') : ∃ A c, e = .returned (.slice A ys.length c) ∧ Cells w' A (ys.map (Value.int .i64)) ∧ Below w.heap.size w w' := by
  obtain ⟨A, c, he, hc, hb⟩ := h
  rw [List.length_map] at he
  exact ⟨A, c, he, hc, hb⟩

set_option maxRecDepth 100000 in
set_option maxHeartbeats 16000000 in
theorem qexact_walk (d : Nat) (hd : d ≤ 6) (l : List QAct) (X : Option Addr) (c : Nat) (w : World) (A : Nat → Addr) (hP : Apart 9 w A) (hA : QActs w X l) (hw : ∀ x ∈ l, (Lit.int .i64 x.n).wf = true) (hlm0 : l.length ≤ maxLen) :
    Calls Tryd.prog 11 #[.int .i64 d, .slice X l.length c] w fun e w' => e = .returned (.bool true) ∧ Below w.heap.size w w' := by
  obtain ⟨len, hlen⟩ : ∃ x, l.length = x := ⟨_, rfl⟩
  have hlm := hlm0
  simp only [maxLen] at hlm
  rw [hlen] at hlm
  have LEN := Lib.hid hlen
  have GG := Lib.hid (hP.glob (by decide))
  have PP := Lib.hid hP
  have AA := Lib.hid hA
  have WF := Lib.hid hw
  rw [hlen]
  clear hlen hP hA hw hlm0
  go_enter Tryd.func11, Tryd.ntmps11
  go_wp2_with fail
  refine (qawake_any _ A GG.out).mono ?_
  rintro e w1 ⟨rfl, hB1⟩
  have B1 := Lib.hid hB1
  clear hB1
  go_wp2_with fail
  refine (new_any d w1 hd).mono ?_
  rintro e w2 ⟨qb, m, g, rfl, hQ, hB2, hqb, hm, hg⟩
  have Q2 := Lib.hid hQ
  have B2 := Lib.hid (And.intro hB2 (And.intro hqb (And.intro hm hg)))
  clear hQ hB2 hqb hm hg
  go_wp2_with fail
  refine (rqnew_any d w2 hd).mono ?_
  rintro e w3 ⟨rb, sv, rfl, hR, hB3, hrb⟩
  have I3 : Hid (XC2 w qb m rb 0 (Que.new d) (Que.new d) [] w3) := Lib.hid (by
    have h1 := Q2.out.map.lt
    have h2 := Q2.out.row.lt
    have h3 := Q2.out.lt
    have b1 := B1.out.size
    have b2 := B2.out.1.size
    refine ⟨g, 0, d, [w2.heap.size], sv, _, Q2.out.below hB3, hR, ((B1.out.trans (B2.out.1.mono b1)).trans (hB3.mono (by omega))), ⟨by have := B2.out.2.1; omega, by have := B2.out.2.2.1; omega, by have := B2.out.2.2.2; omega, by omega, fun x hx => by simp at hx; omega⟩, fun x hx => ?_⟩
    simp at hx
    rcases hx with rfl | rfl
    · exact ⟨by omega, by omega, by omega⟩
    · exact ⟨by omega, by omega, by omega⟩)
  clear hR hB3 hrb
  go_wp2_with fail
  go_loopw [8] (fun i wz => ∃ k : Nat, k ≤ len ∧ k ≤ 400 ∧ i = .int .i64 k ∧ ∃ q G, QGood q G k ∧ XC2 w qb m rb k q q G wz) (fun i _ => len - (intOf i).toNat)
  case atStart => exact ⟨0, Nat.zero_le _, by omega, rfl, _, _, QGood.new d hd, I3.out⟩
  case round =>
    obtain ⟨k, hk, hk400, rfl, q, G, hC, hI⟩ := hrel
    have II := Lib.hid hI
    have CC := Lib.hid hC
    clear hI hC
    by_cases hlt : k < len ∧ k < 400
    · obtain ⟨hlt, hlt2⟩ := hlt
      have hi1 : (0 : Int) ≤ (k : Int) := by omega
      have hi2 : (k : Int) < (len : Int) := by omega
      have hi3 : (k : Int) < 400 := by omega
      obtain ⟨x, hx⟩ : ∃ x, l[k]? = some x := ⟨l[k]'(by rw [LEN.out]; omega), by simp [LEN.out, hlt]⟩
      obtain ⟨ab, ao, hAe, d0, d1, d2, d3⟩ := (AA.out.below II.out.out) k x hx
      have hxn := Lib.hid (WF.out x (List.mem_of_getElem? hx))
      obtain ⟨kd, xn, xx, nx⟩ := x
      simp only at d0 d1 d2 d3 hxn
      clear hx
      subst hAe
      go_upto_if 64 with (fail)
      have IH : Hid (XC2 w qb m rb k q q G (wr.alloc (.cells #[.int .i64 kd, .int .i64 xn, .int .i64 xx, .bool nx] 84))) := Lib.hid (II.out.below ((Below.refl _ _).alloc (Nat.le_refl _) _))
      have AX : Hid (ActQ (wr.alloc (.cells #[.int .i64 kd, .int .i64 xn, .int .i64 xx, .bool nx] 84)) wr.heap.size kd xn xx nx) := Lib.hid (heap_alloc_new wr _)
      obtain ⟨ax, hax⟩ : ∃ ax, wr.heap.size = ax := ⟨_, rfl⟩
      obtain ⟨W4, hW4⟩ : ∃ W4, W4 = wr.alloc (.cells #[.int .i64 kd, .int .i64 xn, .int .i64 xx, .bool nx] 84) := ⟨_, rfl⟩
      rw [← hW4] at IH AX ⊢
      rw [hax] at AX ⊢
      clear hW4 hax d0 d1 d2 d3
      go_cut [10] (fun s10 wx => XF1 w qb m rb k q G ax kd xn xx nx s10 wx)
      case first =>
        cases nx
        case false =>
          go_wp2_with fail
          go_meet
          case rel => exact ⟨xn, rfl, hxn.out, IH.out, AX.out⟩
        case true =>
          obtain ⟨j, hj, hj4⟩ := lindex4 xn
          have HJ := Lib.hid hj
          have S0 : W4.drew.cell? ⟨ax, 1, none⟩ = some (.int .i64 xn) := AX.out.at1
          have ID := Lib.hid (IH.out.drewN 1)
          have FRW : Hid ((Lit.int .i64 (q.last + (j : Int))).wf = true ∧ IntKind.i64.wrap (q.last + (j : Int)) = q.last + (j : Int)) := Lib.hid (by
            obtain ⟨o1, o2, o3⟩ := CC.out.1
            have h1 : 0 ≤ q.last + (j : Int) ∧ q.last + (j : Int) ≤ 2000000000 := by unfold Que.last; omega
            exact ⟨wf_of (by omega) (by omega), IntWalk.i64_in _ (by omega)⟩)
          clear hj
          go_upto_region 15 with (fail)
          refine wp_region_held_drew (S := (fun w' => w'.cell? ⟨ax, 1, none⟩ = some (.int .i64 xn))) (by kernel_rfl) ?_ (fun hHeld => ?_)
          · (try dsimp only); (first | exact S0 | exact S1)
          refine wpAnyH_take (i := 0) (v := ?_) rfl (by kernel_rfl) (by kernel_rfl) (by kernel_rfl) (fun _ _ _ h => h) (Or.inl ⟨by rfl, ?_⟩) (by assumption) ?_
          rotate_left; · (intro w hSw; (try dsimp only at hSw); go_simp; try with_reducible rfl)
          (try simp only [Act.put, List.setIfInBounds_toArray, List.set_cons_zero, List.set_cons_succ, List.getElem_toArray, List.getElem_cons_zero, List.getElem_cons_succ])
          refine wpAnyH_take (i := 2) (v := ?_) rfl (by kernel_rfl) (by kernel_rfl) (by kernel_rfl) (fun _ _ _ h => h) (Or.inl ⟨by rfl, ?_⟩) (by assumption) ?_
          rotate_left; · (intro w hSw; (try dsimp only at hSw); go_simp; try with_reducible rfl)
          (try simp only [Act.put, List.setIfInBounds_toArray, List.set_cons_zero, List.set_cons_succ, List.getElem_toArray, List.getElem_cons_zero, List.getElem_cons_succ])
          refine wpAnyH_take (i := 3) (v := ?_) rfl (by kernel_rfl) (by kernel_rfl) (by kernel_rfl) (fun _ _ _ h => h) (Or.inl ⟨by rfl, ?_⟩) (by assumption) ?_
          rotate_left; · (intro w hSw; (try dsimp only at hSw); go_simp; try with_reducible rfl)
          (try simp only [Act.put, List.setIfInBounds_toArray, List.set_cons_zero, List.set_cons_succ, List.getElem_toArray, List.getElem_cons_zero, List.getElem_cons_succ])
          refine wpAnyH_take (i := 4) (v := ?_) rfl (by kernel_rfl) (by kernel_rfl) (by kernel_rfl) (fun _ _ _ h => h) (Or.inl ⟨by rfl, ?_⟩) (by assumption) ?_
          rotate_left; · (intro w hSw; (try dsimp only at hSw); go_simp; try with_reducible rfl)
          (try simp only [Act.put, List.setIfInBounds_toArray, List.set_cons_zero, List.set_cons_succ, List.getElem_toArray, List.getElem_cons_zero, List.getElem_cons_succ])
          refine wpAnyH_take (i := 5) (v := ?_) rfl (by kernel_rfl) (by kernel_rfl) (by kernel_rfl) (fun _ _ _ h => h) (Or.inl ⟨by rfl, ?_⟩) (by assumption) ?_
          rotate_left; · (intro w hSw; (try dsimp only at hSw); go_simp; try with_reducible rfl)
          (try simp only [Act.put, List.setIfInBounds_toArray, List.set_cons_zero, List.set_cons_succ, List.getElem_toArray, List.getElem_cons_zero, List.getElem_cons_succ])
          refine wpAnyH_take (i := 6) (v := ?_) rfl (by kernel_rfl) (by kernel_rfl) (by kernel_rfl) (fun _ _ _ h => h) (Or.inl ⟨by rfl, ?_⟩) (by assumption) ?_
          rotate_left; · (intro w hSw; (try dsimp only at hSw); go_simp; try with_reducible rfl)
          (try simp only [Act.put, List.setIfInBounds_toArray, List.set_cons_zero, List.set_cons_succ, List.getElem_toArray, List.getElem_cons_zero, List.getElem_cons_succ])
          refine wpAnyH_ready (rs := [1]) (by kernel_rfl) (by simp) ?_
          refine AllReadyH.cons rfl (fun K hK => ?_) AllReadyH.nil
          (try simp only [List.getElem_toArray, List.getElem_cons_zero, List.getElem_cons_succ])
          go_simp
          (refine (xrlast_any ID.out CC.out.1).mono ?_; rintro e w5 ⟨rfl, hb5⟩; have S1 := (hb5.cell (World.block_lt_of_cell? _ _ S0)).trans S0)
          refine hK.out _ _ ?_ (fun hHeld2 => ?_)
          · (try dsimp only); (first | exact S0 | exact S1)
          clear hK K hHeld
          have hHeld := hHeld2
          clear hHeld2
          (try simp only [Act.put, List.setIfInBounds_toArray, List.set_cons_zero, List.set_cons_succ, List.getElem_toArray, List.getElem_cons_zero, List.getElem_cons_succ])
          refine wpAnyH_take (i := 7) (v := ?_) rfl (by kernel_rfl) (by kernel_rfl) (by kernel_rfl) (fun _ _ _ h => h) (Or.inl ⟨by rfl, ?_⟩) (by assumption) ?_
          rotate_left; · (intro w hSw; (try dsimp only at hSw); go_simp; try with_reducible rfl)
          (try simp only [Act.put, List.setIfInBounds_toArray, List.set_cons_zero, List.set_cons_succ, List.getElem_toArray, List.getElem_cons_zero, List.getElem_cons_succ])
          refine wpAnyH_take (i := 8) (v := ?_) rfl (by kernel_rfl) (by kernel_rfl) (by kernel_rfl) (fun _ _ _ h => h) (Or.inl ⟨by rfl, ?_⟩) (by assumption) ?_
          rotate_left; · (intro w hSw; (try dsimp only at hSw); go_simp; try with_reducible rfl)
          (try simp only [Act.put, List.setIfInBounds_toArray, List.set_cons_zero, List.set_cons_succ, List.getElem_toArray, List.getElem_cons_zero, List.getElem_cons_succ])
          refine wpAnyH_done (by kernel_rfl) ?_ _
          have F : Hid (XF1 w qb m rb k q G ax kd xn xx true (.int .i64 (IntKind.i64.wrap (q.last + IntKind.i64.wrap ((IntKind.u64.wrap xn).tmod 4)))) w5) := Lib.hid (by
            rw [HJ.out, FRW.out.2]
            exact ⟨_, rfl, FRW.out.1, ID.out.below hb5, AX.out.frame (FrameA.of_below (show Below W4.heap.size W4 w5 from ⟨hb5.os, hb5.tape, hb5.output, hb5.size, hb5.block⟩))⟩)
          go_wp2_with fail
          go_meet
          case rel => exact F.out
      case rest =>
        obtain ⟨fr, rfl, hfr, hI4, hA4⟩ := hcut
        have FR := Lib.hid hfr
        have I4 := Lib.hid hI4
        have A4 := Lib.hid hA4
        have e0 := hA4.at0
        have e2 := hA4.at2
        clear hfr hI4 hA4 IH AX
        go_upto_block 2 with (fail)
        go_cut [11, 12] (fun s11 s12 wx => XF2 w qb m rb k A s11 s12 wx)
        case first =>
          by_cases k1 : kd = 1
          · as_aux_lemma =>
              subst k1
              go_wp2_with fail
              refine (xput_any I4.out (GG.out.below I4.out.out) CC.out.1 fr xx).mono ?_
              rintro e w5 ⟨v, rfl, hv, hX, hf⟩
              have NV := Lib.hid hv
              have X5 := Lib.hid hX
              have e2 := (A4.out.frame hf).at2
              clear hv hX hf
              go_wp2_with fail
              refine (xrput_any X5.out CC.out (by omega) fr xx).mono ?_
              rintro e w6 ⟨rfl, hX, hk⟩
              have F : Hid (XF2 w qb m rb k A v (.int .i64 (qNum (q.err fr xx))) w6) := Lib.hid ⟨_, G, _, CC.out.put fr xx, hX.mono (by omega), NV.out.keptR hk, rfl⟩
              clear hX hk
              go_wp2_with fail
              go_meet
              case rel => exact F.out
          have q1 : (kd == 1) = false := by simpa using k1
          by_cases k3 : kd = 3
          · as_aux_lemma =>
              subst k3
              clear k1 q1
              go_wp2_with fail
              refine (xuse_any I4.out CC.out (by omega) fr FR.out).mono ?_
              rintro e w5 ⟨rfl, hX, -⟩
              have X5 := Lib.hid hX
              clear hX
              go_wp2_with fail
              refine (xruse_any X5.out CC.out (by omega) fr).mono ?_
              rintro e w6 ⟨rfl, hX, -⟩
              have F : Hid (XF2 w qb m rb k A .nilIface (.int .i64 (qNum none)) w6) := Lib.hid ⟨_, _, none, CC.out.use fr, hX, rfl, rfl⟩
              clear hX
              go_wp2_with fail
              go_meet
              case rel => exact F.out
          have q3 : (kd == 3) = false := by simpa using k3
          by_cases k4 : kd = 4
          · as_aux_lemma =>
              subst k4
              clear k1 q1 k3 q3
              go_wp2_with fail
              refine (xright_any I4.out).mono ?_
              rintro e w5 ⟨rfl, hX, -⟩
              have X5 := Lib.hid hX
              clear hX
              go_wp2_with fail
              refine (xrright_any X5.out).mono ?_
              rintro e w6 ⟨rfl, hX, -⟩
              have F : Hid (XF2 w qb m rb k A .nilIface (.int .i64 (qNum none)) w6) := Lib.hid ⟨_, _, none, CC.out.right, hX.mono (by omega), rfl, rfl⟩
              clear hX
              go_wp2_with fail
              go_meet
              case rel => exact F.out
          have q4 : (kd == 4) = false := by simpa using k4
          by_cases k5 : kd = 5
          · as_aux_lemma =>
              subst k5
              clear k1 q1 k3 q3 k4 q4
              go_wp2_with fail
              refine (xclose_any I4.out (GG.out.below I4.out.out) CC.out fr).mono ?_
              rintro e w5 ⟨v, rfl, hv, hX, -⟩
              have NV := Lib.hid hv
              have X5 := Lib.hid hX
              clear hv hX
              go_wp2_with fail
              refine (xrclose_any X5.out CC.out (by omega) fr).mono ?_
              rintro e w6 ⟨rfl, hX, hk⟩
              have F : Hid (XF2 w qb m rb k A v (.int .i64 (qNum (q.closeErr fr))) w6) := Lib.hid ⟨_, G, _, CC.out.close fr, hX.mono (by omega), NV.out.keptR hk, rfl⟩
              clear hX hk
              go_wp2_with fail
              go_meet
              case rel => exact F.out
          have q5 : (kd == 5) = false := by simpa using k5
          by_cases k6 : kd = 6
          · as_aux_lemma =>
              subst k6
              clear k1 q1 k3 q3 k4 q4 k5 q5
              go_wp2_with fail
              refine (xforget_any I4.out CC.out fr FR.out).mono ?_
              rintro e w5 ⟨rfl, hX, -⟩
              have X5 := Lib.hid hX
              clear hX
              go_wp2_with fail
              refine (xrforget_any X5.out CC.out fr).mono ?_
              rintro e w6 ⟨rfl, hX, -⟩
              have F : Hid (XF2 w qb m rb k A .nilIface (.int .i64 (qNum none)) w6) := Lib.hid ⟨_, G, none, CC.out.forget fr, hX.mono (by omega), rfl, rfl⟩
              clear hX
              go_wp2_with fail
              go_meet
              case rel => exact F.out
          have q6 : (kd == 6) = false := by simpa using k6
          have F : Hid (XF2 w qb m rb k A .nilIface (.int .i64 (qNum none)) wc) := Lib.hid ⟨q, G, none, CC.out.mono, I4.out.mono (by omega), rfl, rfl⟩
          clear k1 k3 k4 k5 k6
          go_wp2_with fail
          go_meet
          case rel => exact F.out
        case rest =>
          as_aux_lemma =>
            obtain ⟨q', G', err, hC', hX', hv, rfl⟩ := hcut
            have C5 := Lib.hid hC'
            have X5 := Lib.hid hX'
            have N5 := Lib.hid hv
            have OK5 : Hid q'.ok := Lib.hid C5.out.1
            clear hC' hX' hv II CC I4 A4 e0 e2
            go_wp2_with fail
            refine (xget_any X5.out C5.out.1 fr).mono ?_
            obtain ⟨a, ha⟩ : ∃ a, (q'.get fr).1 = a := ⟨_, rfl⟩
            obtain ⟨b, hb⟩ : ∃ b, (q'.get fr).2 = b := ⟨_, rfl⟩
            have RG := Lib.hid (fun j => xrget_any (X5.out.drewN j) C5.out.1 fr)
            rw [ha, hb] at RG
            rw [ha, hb]
            clear ha hb
            rintro e w5 ⟨rfl, k5, rfl⟩
            go_wp2_with fail
            refine (RG.out k5).mono ?_
            rintro e w6 ⟨rfl, k6, rfl⟩
            obtain ⟨V, hV⟩ : ∃ V, V = (wc.drewN k5).drewN k6 := ⟨_, rfl⟩
            rw [← hV]
            have X6 : Hid (XC2 w qb m rb (k + 1) q' q' G' V ∧ NumQ V A rb u11 err) := Lib.hid (by
              rw [hV]
              exact ⟨(X5.out.drewN k5).drewN k6, N5.out.below ⟨rfl, rfl, rfl, Nat.le_refl _, fun _ _ => rfl⟩⟩)
            clear hV RG
            go_upto_region 38 with (fail)
            obtain ⟨A0, cap, gv, hcell⟩ : ∃ A0 cap gv, V.heap[rb]? = some (.cells #[.int .i64 q'.first, .slice A0 q'.xs.length cap, gv, .int .i64 q'.wrong, .int .i64 q'.fin, .bool q'.closed] 88 (0, 0)) := by
              obtain ⟨g, o, cap, fp, sv, gv, h1, h2, _⟩ := X6.out.1
              obtain ⟨A0, cap0, hsv⟩ := h2.row.lens
              subst hsv
              exact ⟨A0, cap0, gv, h2.cell⟩
            obtain ⟨t, ht⟩ : ∃ t, q'.xs.length = t := ⟨_, rfl⟩
            have HT := Lib.hid ht
            rw [ht] at hcell
            have S0 : XTC w qb m rb (k + 1) q' G' A u11 err (.slice A0 t cap) gv V := XT.cells ⟨X6.out.1, X6.out.2, hcell⟩
            clear ht hcell X6
            go_region_held3 (fun w' => w'.cell? ⟨rb, 0, none⟩ = some (.int .i64 q'.first) ∧ w'.cell? ⟨rb, 1, none⟩ = some (.slice A0 t cap) ∧ w'.cell? ⟨rb, 3, none⟩ = some (.int .i64 q'.wrong) ∧ XT w qb m rb (k + 1) q' G' A u11 err (.slice A0 t cap) gv w')
              ((first | assumption | (exact xt_drew (by assumption)) | (refine xt_bel ?_ hbel; assumption)))
              (first
                | (go_at_call 43; (with_reducible refine (xt_num (w0 := w) (qb := qb) (m := m) (rb := rb) (N := k + 1) (q := q') (G := G') (A := A) (f := u11) (err := err) (sv := .slice A0 t cap) (gv := gv) PP.out ?_).mono ?_); assumption; rintro e w' ⟨rfl, rfl⟩)
                | (go_at_call 16; (with_reducible refine (xt_wrong (w0 := w) (qb := qb) (m := m) (rb := rb) (N := k + 1) (q := q') (G := G') (A := A) (f := u11) (err := err) (sv := .slice A0 t cap) (gv := gv) ?_).mono ?_); assumption; rintro e w' ⟨rfl, rfl⟩)
                | (go_at_call 15; (with_reducible refine (xt_last (w0 := w) (qb := qb) (m := m) (rb := rb) (N := k + 1) (q := q') (G := G') (A := A) (f := u11) (err := err) (sv := .slice A0 t cap) (gv := gv) OK5.out ?_).mono ?_); assumption; rintro e w' ⟨rfl, hbel⟩)
                | (go_at_call 46; (with_reducible refine (xt_rlast (w0 := w) (qb := qb) (m := m) (rb := rb) (N := k + 1) (q := q') (G := G') (A := A) (f := u11) (err := err) (sv := .slice A0 t cap) (gv := gv) OK5.out ?_).mono ?_); assumption; rintro e w' ⟨rfl, hbel⟩)
                | (go_at_call 21; (with_reducible refine (xt_first (w0 := w) (qb := qb) (m := m) (rb := rb) (N := k + 1) (q := q') (G := G') (A := A) (f := u11) (err := err) (sv := .slice A0 t cap) (gv := gv) ?_).mono ?_); assumption; rintro e w' ⟨rfl, rfl⟩)
                | (go_at_call 22; (with_reducible refine (xt_len (w0 := w) (qb := qb) (m := m) (rb := rb) (N := k + 1) (q := q') (G := G') (A := A) (f := u11) (err := err) (sv := .slice A0 t cap) (gv := gv) HT.out ?_).mono ?_); assumption; rintro e w' ⟨rfl, rfl⟩))
            all_goals
              as_aux_lemma =>
                have XW := xt_of (by assumption)
                have XH := Lib.hid XW
                clear XW
                go_wp2_with fail
                refine (xclosed_any XH.out.1).mono ?_
                rintro e w7 ⟨rfl, k7, rfl⟩
                obtain ⟨cl, hcl⟩ : ∃ b, q'.closed = b := ⟨_, rfl⟩
                have XK := Lib.hid ((show Hid _ from XH).out.below (w' := World.drewN _ k7) ⟨rfl, rfl, rfl, Nat.le_refl _, fun _ _ => rfl⟩)
                have r4 := XK.out.at4
                have r5 := XK.out.at5
                rw [hcl] at r5 ⊢
                obtain ⟨ys, hys⟩ : ∃ ys, q'.xs.drop (fr - q'.first).toNat = ys := ⟨_, rfl⟩
                have L1 := Lib.hid (xlist_any XK.out.1 C5.out.1 fr (wf_le FR.out))
                have L2 := Lib.hid (fun w8 (hb : Below (World.heap _).size _ w8) => xrlist_any (XK.out.1.below hb) C5.out.1 fr)
                have YL : Hid (ys.length ≤ 1000000) := Lib.hid (by have := C5.out.1.2.2; rw [← hys, List.length_drop]; omega)
                rw [hys] at L1 L2
                clear hys hcl
                cases cl <;> (
                  go_wp2_with fail
                  refine L1.out.mono ?_
                  intro e w8 hL
                  obtain ⟨Y1, cy1, rfl, hY1, hB8⟩ := hL.ints
                  have Y1H := Lib.hid hY1
                  have X8 := Lib.hid (XK.out.below hB8)
                  have L3 := Lib.hid (L2.out _ hB8)
                  clear hL hY1 hB8
                  go_wp2_with fail
                  refine L3.out.mono ?_
                  intro e w9 hL
                  obtain ⟨Y2, cy2, rfl, hY2, hB9⟩ := hL.ints
                  have Y2H := Lib.hid hY2
                  have Y1K := Lib.hid (Y1H.out.below hB9)
                  have X9 := Lib.hid (X8.out.below hB9)
                  clear hL hY2 hB9
                  go_wp2_with fail
                  refine (rsame_ints Y1 Y2 cy1 cy2 ys ys _ Y1K.out Y2H.out YL.out rfl).mono ?_
                  rintro e w10 ⟨rfl, k10, rfl⟩
                  go_wp2_with fail
                  exact ⟨⟨k + 1, by omega, by omega, by go_num, q', G', C5.out, X9.out.1.drewN k10⟩, by simp [intOf]; omega⟩)
    · obtain ⟨g, o, cap0, fp, sv, gv, h1, h2, h3, h4, h5⟩ := II.out
      obtain ⟨A0, cap, hsv, _, _, hcs⟩ := h2.row.slice
      subst hsv
      obtain ⟨t, ht⟩ : ∃ t, q.xs.length = t := ⟨_, rfl⟩
      have HT := Lib.hid ht
      have r1 := h2.c1
      rw [ht] at r1
      have S0 : wr.drew.cell? ⟨rb, 1, none⟩ = some (.slice A0 t cap) := r1
      have LL : Hid (Calls Tryd.prog 23 #[.pointer (some ⟨qb, 0, none⟩), .int .i64 0] wr.drew (Cloned wr.drew (q.xs.map (Value.int .i64)))) := Lib.hid (by
        have := xlist_any (II.out.drewN 1) CC.out.1 0 (by decide)
        rw [show (0 - q.first).toNat = 0 by have := CC.out.1.1; omega, List.drop_zero] at this
        exact this)
      have SM : Hid (∀ w5 Y1 cy1, Cells w5 Y1 (q.xs.map (Value.int .i64)) → Below wr.drew.heap.size wr.drew w5 → Calls Tryd.prog 53 #[.slice Y1 t cy1, .slice A0 t cap] w5 (Reads w5 (.bool true))) := Lib.hid (fun w5 Y1 cy1 hY hb => by
        have hA : Cells w5 A0 (q.xs.map (Value.int .i64)) := Cells.below (w := wr) hcs ⟨hb.os, hb.tape, hb.output, hb.size, hb.block⟩
        have := rsame_ints Y1 A0 cy1 cap q.xs q.xs w5 hY hA (by have := CC.out.1.2.2; omega) rfl
        rw [HT.out] at this
        exact this)
      have O := Lib.hid h3
      clear h1 h2 h3 h4 h5 hcs ht r1
      by_cases hlt1 : k < len
      · have h2 : (400 : Int) ≤ (k : Int) := by omega
        have h1 : (k : Int) < (len : Int) := by omega
        clear hlt
        go_upto_region 43 with (fail)
        refine wp_region_held_drew (S := (fun w' => w'.cell? ⟨rb, 1, none⟩ = some (.slice A0 t cap))) (by kernel_rfl) ?_ (fun hHeld => ?_)
        · (try dsimp only); (first | exact S0 | exact S1 | exact S2)
        refine wpAnyH_take (i := 0) (v := ?_) rfl (by kernel_rfl) (by kernel_rfl) (by kernel_rfl) (fun _ _ _ h => h) (Or.inl ⟨by rfl, ?_⟩) (by assumption) ?_
        rotate_left; · (intro w hSw; (try dsimp only at hSw); go_simp; try with_reducible rfl)
        (try simp only [Act.put, List.setIfInBounds_toArray, List.set_cons_zero, List.set_cons_succ, List.getElem_toArray, List.getElem_cons_zero, List.getElem_cons_succ])
        refine wpAnyH_take (i := 2) (v := ?_) rfl (by kernel_rfl) (by kernel_rfl) (by kernel_rfl) (fun _ _ _ h => h) (Or.inl ⟨by rfl, ?_⟩) (by assumption) ?_
        rotate_left; · (intro w hSw; (try dsimp only at hSw); go_simp; try with_reducible rfl)
        (try simp only [Act.put, List.setIfInBounds_toArray, List.set_cons_zero, List.set_cons_succ, List.getElem_toArray, List.getElem_cons_zero, List.getElem_cons_succ])
        refine wpAnyH_take (i := 3) (v := ?_) rfl (by kernel_rfl) (by kernel_rfl) (by kernel_rfl) (fun _ _ _ h => h) (Or.inl ⟨by rfl, ?_⟩) (by assumption) ?_
        rotate_left; · (intro w hSw; (try dsimp only at hSw); go_simp; try with_reducible rfl)
        (try simp only [Act.put, List.setIfInBounds_toArray, List.set_cons_zero, List.set_cons_succ, List.getElem_toArray, List.getElem_cons_zero, List.getElem_cons_succ])
        refine wpAnyH_take (i := 4) (v := ?_) rfl (by kernel_rfl) (by kernel_rfl) (by kernel_rfl) (fun _ _ _ h => h) (Or.inl ⟨by rfl, ?_⟩) (by assumption) ?_
        rotate_left; · (intro w hSw; (try dsimp only at hSw); go_simp; try with_reducible rfl)
        (try simp only [Act.put, List.setIfInBounds_toArray, List.set_cons_zero, List.set_cons_succ, List.getElem_toArray, List.getElem_cons_zero, List.getElem_cons_succ])
        refine wpAnyH_take (i := 5) (v := ?_) rfl (by kernel_rfl) (by kernel_rfl) (by kernel_rfl) (fun _ _ _ h => h) (Or.inl ⟨by rfl, ?_⟩) (by assumption) ?_
        rotate_left; · (intro w hSw; (try dsimp only at hSw); go_simp; try with_reducible rfl)
        (try simp only [Act.put, List.setIfInBounds_toArray, List.set_cons_zero, List.set_cons_succ, List.getElem_toArray, List.getElem_cons_zero, List.getElem_cons_succ])
        refine wpAnyH_ready (rs := [1]) (by kernel_rfl) (by simp) ?_
        refine AllReadyH.cons rfl (fun K hK => ?_) AllReadyH.nil
        (try simp only [List.getElem_toArray, List.getElem_cons_zero, List.getElem_cons_succ])
        go_simp
        (refine LL.out.mono ?_; intro e w5 hL; obtain ⟨Y1, cy1, rfl, hY1, hB5⟩ := hL.ints; rw [HT.out]; have S1 := (hB5.cell (World.block_lt_of_cell? _ _ S0)).trans S0)
        refine hK.out _ _ ?_ (fun hHeld2 => ?_)
        · (try dsimp only); (first | exact S0 | exact S1 | exact S2)
        clear hK K hHeld
        have hHeld := hHeld2
        clear hHeld2
        (try simp only [Act.put, List.setIfInBounds_toArray, List.set_cons_zero, List.set_cons_succ, List.getElem_toArray, List.getElem_cons_zero, List.getElem_cons_succ])
        refine wpAnyH_ready (rs := [6]) (by kernel_rfl) (by simp) ?_
        refine AllReadyH.cons rfl (fun K hK => ?_) AllReadyH.nil
        (try simp only [List.getElem_toArray, List.getElem_cons_zero, List.getElem_cons_succ])
        go_simp
        (refine (SM.out w5 Y1 cy1 hY1 hB5).mono ?_; rintro e w6 ⟨rfl, k6, rfl⟩; have S2 : (w5.drewN k6).cell? ⟨rb, 1, none⟩ = some (.slice A0 t cap) := S1)
        refine hK.out _ _ ?_ (fun hHeld2 => ?_)
        · (try dsimp only); (first | exact S0 | exact S1 | exact S2)
        clear hK K hHeld
        have hHeld := hHeld2
        clear hHeld2
        (try simp only [Act.put, List.setIfInBounds_toArray, List.set_cons_zero, List.set_cons_succ, List.getElem_toArray, List.getElem_cons_zero, List.getElem_cons_succ])
        refine wpAnyH_take (i := 7) (v := ?_) rfl (by kernel_rfl) (by kernel_rfl) (by kernel_rfl) (fun _ _ _ h => h) (Or.inl ⟨by rfl, ?_⟩) (by assumption) ?_
        rotate_left; · (intro w hSw; (try dsimp only at hSw); go_simp; try with_reducible rfl)
        (try simp only [Act.put, List.setIfInBounds_toArray, List.set_cons_zero, List.set_cons_succ, List.getElem_toArray, List.getElem_cons_zero, List.getElem_cons_succ])
        refine wpAnyH_done (by kernel_rfl) ?_ _
        go_wp2
        go_ret
        exact ⟨rfl, O.out.trans (show Below w.heap.size wr (w5.drewN k6) from ⟨hB5.os, hB5.tape, hB5.output, hB5.size, fun i hi => hB5.block i (Nat.lt_of_lt_of_le hi O.out.size)⟩)⟩
      · have h1 : (len : Int) ≤ (k : Int) := by omega
        clear hlt hlt1
        go_upto_region 43 with (fail)
        refine wp_region_held_drew (S := (fun w' => w'.cell? ⟨rb, 1, none⟩ = some (.slice A0 t cap))) (by kernel_rfl) ?_ (fun hHeld => ?_)
        · (try dsimp only); (first | exact S0 | exact S1 | exact S2)
        refine wpAnyH_take (i := 0) (v := ?_) rfl (by kernel_rfl) (by kernel_rfl) (by kernel_rfl) (fun _ _ _ h => h) (Or.inl ⟨by rfl, ?_⟩) (by assumption) ?_
        rotate_left; · (intro w hSw; (try dsimp only at hSw); go_simp; try with_reducible rfl)
        (try simp only [Act.put, List.setIfInBounds_toArray, List.set_cons_zero, List.set_cons_succ, List.getElem_toArray, List.getElem_cons_zero, List.getElem_cons_succ])
        refine wpAnyH_take (i := 2) (v := ?_) rfl (by kernel_rfl) (by kernel_rfl) (by kernel_rfl) (fun _ _ _ h => h) (Or.inl ⟨by rfl, ?_⟩) (by assumption) ?_
        rotate_left; · (intro w hSw; (try dsimp only at hSw); go_simp; try with_reducible rfl)
        (try simp only [Act.put, List.setIfInBounds_toArray, List.set_cons_zero, List.set_cons_succ, List.getElem_toArray, List.getElem_cons_zero, List.getElem_cons_succ])
        refine wpAnyH_take (i := 3) (v := ?_) rfl (by kernel_rfl) (by kernel_rfl) (by kernel_rfl) (fun _ _ _ h => h) (Or.inl ⟨by rfl, ?_⟩) (by assumption) ?_
        rotate_left; · (intro w hSw; (try dsimp only at hSw); go_simp; try with_reducible rfl)
        (try simp only [Act.put, List.setIfInBounds_toArray, List.set_cons_zero, List.set_cons_succ, List.getElem_toArray, List.getElem_cons_zero, List.getElem_cons_succ])
        refine wpAnyH_take (i := 4) (v := ?_) rfl (by kernel_rfl) (by kernel_rfl) (by kernel_rfl) (fun _ _ _ h => h) (Or.inl ⟨by rfl, ?_⟩) (by assumption) ?_
        rotate_left; · (intro w hSw; (try dsimp only at hSw); go_simp; try with_reducible rfl)
        (try simp only [Act.put, List.setIfInBounds_toArray, List.set_cons_zero, List.set_cons_succ, List.getElem_toArray, List.getElem_cons_zero, List.getElem_cons_succ])
        refine wpAnyH_take (i := 5) (v := ?_) rfl (by kernel_rfl) (by kernel_rfl) (by kernel_rfl) (fun _ _ _ h => h) (Or.inl ⟨by rfl, ?_⟩) (by assumption) ?_
        rotate_left; · (intro w hSw; (try dsimp only at hSw); go_simp; try with_reducible rfl)
        (try simp only [Act.put, List.setIfInBounds_toArray, List.set_cons_zero, List.set_cons_succ, List.getElem_toArray, List.getElem_cons_zero, List.getElem_cons_succ])
        refine wpAnyH_ready (rs := [1]) (by kernel_rfl) (by simp) ?_
        refine AllReadyH.cons rfl (fun K hK => ?_) AllReadyH.nil
        (try simp only [List.getElem_toArray, List.getElem_cons_zero, List.getElem_cons_succ])
        go_simp
        (refine LL.out.mono ?_; intro e w5 hL; obtain ⟨Y1, cy1, rfl, hY1, hB5⟩ := hL.ints; rw [HT.out]; have S1 := (hB5.cell (World.block_lt_of_cell? _ _ S0)).trans S0)
        refine hK.out _ _ ?_ (fun hHeld2 => ?_)
        · (try dsimp only); (first | exact S0 | exact S1 | exact S2)
        clear hK K hHeld
        have hHeld := hHeld2
        clear hHeld2
        (try simp only [Act.put, List.setIfInBounds_toArray, List.set_cons_zero, List.set_cons_succ, List.getElem_toArray, List.getElem_cons_zero, List.getElem_cons_succ])
        refine wpAnyH_ready (rs := [6]) (by kernel_rfl) (by simp) ?_
        refine AllReadyH.cons rfl (fun K hK => ?_) AllReadyH.nil
        (try simp only [List.getElem_toArray, List.getElem_cons_zero, List.getElem_cons_succ])
        go_simp
        (refine (SM.out w5 Y1 cy1 hY1 hB5).mono ?_; rintro e w6 ⟨rfl, k6, rfl⟩; have S2 : (w5.drewN k6).cell? ⟨rb, 1, none⟩ = some (.slice A0 t cap) := S1)
        refine hK.out _ _ ?_ (fun hHeld2 => ?_)
        · (try dsimp only); (first | exact S0 | exact S1 | exact S2)
        clear hK K hHeld
        have hHeld := hHeld2
        clear hHeld2
        (try simp only [Act.put, List.setIfInBounds_toArray, List.set_cons_zero, List.set_cons_succ, List.getElem_toArray, List.getElem_cons_zero, List.getElem_cons_succ])
        refine wpAnyH_take (i := 7) (v := ?_) rfl (by kernel_rfl) (by kernel_rfl) (by kernel_rfl) (fun _ _ _ h => h) (Or.inl ⟨by rfl, ?_⟩) (by assumption) ?_
        rotate_left; · (intro w hSw; (try dsimp only at hSw); go_simp; try with_reducible rfl)
        (try simp only [Act.put, List.setIfInBounds_toArray, List.set_cons_zero, List.set_cons_succ, List.getElem_toArray, List.getElem_cons_zero, List.getElem_cons_succ])
        refine wpAnyH_done (by kernel_rfl) ?_ _
        go_wp2
        go_ret
        exact ⟨rfl, O.out.trans (show Below w.heap.size wr (w5.drewN k6) from ⟨hB5.os, hB5.tape, hB5.output, hB5.size, fun i hi => hB5.block i (Nat.lt_of_lt_of_le hi O.out.size)⟩)⟩

set_option maxRecDepth 100000 in
set_option maxHeartbeats 3200000 in
theorem qexact_none (d : Int) (h : d < 0 ∨ 6 < d) (l : List QAct) (X : Option Addr) (c : Nat) (w : World) (A : Nat → Addr) (hP : Apart 9 w A) :
    Calls Tryd.prog 11 #[.int .i64 d, .slice X l.length c] w fun e w' => e = .returned (.bool true) ∧ Below w.heap.size w w' := by
  have GG := Lib.hid (hP.glob (by decide))
  obtain ⟨len, hlen⟩ : ∃ x, l.length = x := ⟨_, rfl⟩
  rw [hlen]
  have RN := Lib.hid (fun w => rqnew_none d w h)
  clear hP hlen
  have HM := Lib.hid h
  clear h
  go_enter Tryd.func11, Tryd.ntmps11
  go_wp2_with fail
  refine (qawake_any _ A GG.out).mono ?_
  rintro e w1 ⟨rfl, hB1⟩
  have B1 := Lib.hid hB1
  clear hB1
  go_wp2_with fail
  refine (new_err d _ HM.out (A 0) (GG.out.below B1.out 0 (by omega))).mono ?_
  rintro e w2 ⟨v, rfl, v', hv, hw, hbel, b, rfl, hb⟩
  obtain rfl : v = _ := by simpa using hv
  have W2 := Lib.hid hw
  have B2 := Lib.hid (B1.out.trans (hbel.mono B1.out.size))
  have g0 := GG.out.below B2.out 0 (by omega)
  clear hw hbel
  go_wp2_with fail
  refine (RN.out _).mono ?_
  rintro e w3 ⟨rfl, rfl⟩
  go_wp2_with fail
  refine W2.out.is.mono ?_
  rintro e w3 ⟨rfl, rfl⟩
  go_wp2_with fail
  go_ret
  exact ⟨rfl, B2.out⟩

theorem qexact_any (w : World) (A : Nat → Addr) (hP : Apart 9 w A) (d : Int) (_hd : (Lit.int .i64 d).wf = true) (X : Option Addr) (c : Nat) (l : List QAct)
    (h : l.length ≤ c ∧ c ≤ maxLen ∧ QActs w X l ∧ ∀ x ∈ l, (Lit.int .i64 x.n).wf = true ∧ (Lit.int .i64 x.x).wf = true) :
    Calls Tryd.prog 11 #[.int .i64 d, .slice X l.length c] w fun e w' => e = .returned (.bool true) ∧ Below w.heap.size w w' := by
  by_cases hp : d < 0 ∨ 6 < d
  · exact qexact_none d hp l X c w A hP
  · obtain ⟨n, rfl⟩ : ∃ n : Nat, d = n := ⟨d.toNat, by omega⟩
    exact qexact_walk n (by omega) l X c w A hP h.2.2.1 (fun x hx => (h.2.2.2 x hx).1) (by omega)

end Go.Proofs.YtkpbjahjiajodaaDoor
