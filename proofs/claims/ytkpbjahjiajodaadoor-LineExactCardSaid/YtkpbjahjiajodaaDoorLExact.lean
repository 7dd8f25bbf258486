/- This text walks the law LineExact, over the loaded program. -/
import Derived.Test.YtkpbjahjiajodaaDoorRLine8
import Derived.Deep.WholeRow
namespace Go.Proofs.YtkpbjahjiajodaaDoor
open Go.RowKit Go.WideShapes

/-- What a round's act leaves. -/
def XR (w0 : World) (lb rb n k : Nat) (A : Nat → Addr) (b : Nat) (kd xi : Int) (xs : ByteArray) (xa : Int) (xb : UInt8) (f g s t : Value) (w : World) : Prop :=
  ∃ (L' : Lin) (err : Option Nat) (x : ByteArray), CI L' n (k + 1) ∧ XI w0 lb rb L' w ∧ Num w A f err ∧ g = .int .i64 (refNum err) ∧ s = .string x ∧ t = .string x ∧ ActX w b kd xi xs xa xb

theorem agg6_eq (a b c d e f : Int) (w : World) : (Op.equal 75 (.agg #[.int .i64 a, .int .i64 b, .int .i64 c, .int .i64 d, .int .i64 e, .int .i64 f]) (.agg #[.int .i64 a, .int .i64 b, .int .i64 c, .int .i64 d, .int .i64 e, .int .i64 f])).run Tryd.prog w = .ok true w := by
  have u3 := Tryd.underlying3
  have a3 := Tryd.isAgg3
  have z3 := Tryd.sizeOf3
  rw [Op.equal, show Op.maxDepth = 9999 + 1 from rfl, Op.equalIn]
  simp only [Sem.run_bind, run_underlying Tryd.underlying75, Result.andThen_ok]
  simp only [Std.Legacy.Range.forIn_eq_forIn_range', Std.Legacy.Range.size, Nat.sub_zero, Nat.add_sub_cancel, Nat.div_one, List.range'_succ, List.range'_zero, List.forIn_cons, List.forIn_nil]
  go_simp
theorem agg6_ne (a b c d e f : Int) (w : World) : (binOp .neq 75 (.agg #[.int .i64 a, .int .i64 b, .int .i64 c, .int .i64 d, .int .i64 e, .int .i64 f]) (.agg #[.int .i64 a, .int .i64 b, .int .i64 c, .int .i64 d, .int .i64 e, .int .i64 f])).run Tryd.prog w = .ok (.bool false) w := by
  simp [binOp, go_sem, agg6_eq]

/-- What the tests of a round hold on to. -/
def XS (w0 : World) (lb rb : Nat) (A0 : Option Addr) (cap : Nat) (L : Lin) (A : Nat → Addr) (f : Value) (err : Option Nat) (xb : Nat) (xi : Int) (sb t : Nat) (w : World) : Prop :=
  L.ts.length = t ∧ XI w0 lb rb L w ∧ RAt w rb (.slice A0 t cap) L ∧ Num w A f err ∧ w.cell? ⟨xb, 1, none⟩ = some (.int .i64 xi) ∧ w.heap[sb]? = some (.cells #[.int .i64 L.c0, .int .i64 L.c1, .int .i64 L.c2, .int .i64 L.c3, .int .i64 L.c4, .int .i64 L.c5] 59 (0, 0))
abbrev XC (w0 : World) (lb rb : Nat) (A0 : Option Addr) (cap : Nat) (L : Lin) (A : Nat → Addr) (f : Value) (err : Option Nat) (xb : Nat) (xi : Int) (sb t : Nat) (w : World) : Prop :=
  w.cell? ⟨rb, 1, none⟩ = some (.slice A0 t cap) ∧ w.cell? ⟨xb, 1, none⟩ = some (.int .i64 xi) ∧ w.cell? ⟨sb, 0, none⟩ = some (.int .i64 L.c0) ∧ w.cell? ⟨sb, 1, none⟩ = some (.int .i64 L.c1) ∧ w.cell? ⟨sb, 2, none⟩ = some (.int .i64 L.c2) ∧ w.cell? ⟨sb, 3, none⟩ = some (.int .i64 L.c3) ∧ w.cell? ⟨sb, 4, none⟩ = some (.int .i64 L.c4) ∧ w.cell? ⟨sb, 5, none⟩ = some (.int .i64 L.c5) ∧ w.cell? ⟨rb, 2, none⟩ = some (.int .i64 L.c0) ∧ w.cell? ⟨rb, 3, none⟩ = some (.int .i64 L.c1) ∧ w.cell? ⟨rb, 4, none⟩ = some (.int .i64 L.c2) ∧ w.cell? ⟨rb, 5, none⟩ = some (.int .i64 L.c3) ∧ w.cell? ⟨rb, 6, none⟩ = some (.int .i64 L.c4) ∧ w.cell? ⟨rb, 7, none⟩ = some (.int .i64 L.c5) ∧ XS w0 lb rb A0 cap L A f err xb xi sb t w
section
variable {w0 w w' : World} {lb rb cap xb sb t : Nat} {A0 : Option Addr} {L : Lin} {A : Nat → Addr} {f : Value} {err : Option Nat} {xi : Int}
theorem XS.cells (h : XS w0 lb rb A0 cap L A f err xb xi sb t w) : XC w0 lb rb A0 cap L A f err xb xi sb t w := by
  obtain ⟨_, _, h2, _, h4, h5⟩ := id h
  exact ⟨h2.at1, h4, by simp [World.cell?, h5], by simp [World.cell?, h5], by simp [World.cell?, h5], by simp [World.cell?, h5], by simp [World.cell?, h5], by simp [World.cell?, h5], h2.at2, h2.at3, h2.at4, h2.at5, h2.at6, h2.at7, h⟩
theorem XS.below (h : XS w0 lb rb A0 cap L A f err xb xi sb t w) (hb : Below w.heap.size w w') : XS w0 lb rb A0 cap L A f err xb xi sb t w' := by
  obtain ⟨h0, h1, h2, h3, h4, h5⟩ := h
  exact ⟨h0, h1.below hb, h2.below hb, h3.below hb, (hb.cell (World.block_lt_of_cell? w _ h4)).trans h4, (hb.block _ (Array.getElem?_eq_some_iff.1 h5).1).trans h5⟩
theorem xc_xs (h : XC w0 lb rb A0 cap L A f err xb xi sb t w) : XS w0 lb rb A0 cap L A f err xb xi sb t w := h.2.2.2.2.2.2.2.2.2.2.2.2.2.2
theorem xc_bel (h : XC w0 lb rb A0 cap L A f err xb xi sb t w) (hb : Below w.heap.size w w') : XC w0 lb rb A0 cap L A f err xb xi sb t w' := ((xc_xs h).below hb).cells
theorem xc_drew (h : XC w0 lb rb A0 cap L A f err xb xi sb t w) : XC w0 lb rb A0 cap L A f err xb xi sb t w.drew := xc_bel h ⟨rfl, rfl, rfl, Nat.le_refl _, fun _ _ => rfl⟩
theorem xc_num (hA : Apart 9 w0 A) (h : XC w0 lb rb A0 cap L A f err xb xi sb t w) : Calls Tryd.prog 43 #[f] w fun e w' => e = .returned (.int .i64 (refNum err)) ∧ w = w' := num_any (xc_xs h).2.2.2.1 (hA.below (xc_xs h).2.1.out)
theorem xc_len (h : XC w0 lb rb A0 cap L A f err xb xi sb t w) : Calls Tryd.prog 30 #[.pointer (some ⟨lb, 0, none⟩)] w (fun e w' => e = .returned (.int .i64 t) ∧ w = w') := by
  have h' := xc_xs h
  have := li_len h'.2.1.1
  rw [h'.1] at this
  exact this
theorem xc_clean (hG : GlobL w0 A) (hok : L.ok) (h : XC w0 lb rb A0 cap L A f err xb xi sb t w) : Calls Tryd.prog 31 #[.pointer (some ⟨lb, 0, none⟩), .int .i64 xi] w (fun e w' => e = .returned (.bool (L.clean xi)) ∧ Below w.heap.size w w') :=
  (li_clean (xc_xs h).2.1.1 hok hG xi).mono fun _ _ ⟨he, _, hb⟩ => ⟨he, hb⟩
theorem xc_rclean (hok : L.ok) (h : XC w0 lb rb A0 cap L A f err xb xi sb t w) : Calls Tryd.prog 44 #[.pointer (some ⟨rb, 0, none⟩), .int .i64 xi] w (fun e w' => e = .returned (.bool (L.clean xi)) ∧ Below w.heap.size w w') := rclean_any (xc_xs h).2.2.1 hok xi
theorem xc_xi (h : XC w0 lb rb A0 cap L A f err xb xi sb t w) : XI w0 lb rb L w := (xc_xs h).2.1
end

/-- What the last loop holds on to. -/
def YI (w0 : World) (rb : Nat) (A0 : Option Addr) (cap : Nat) (L : Lin) (t : Nat) (Y : Option Addr) (w : World) : Prop :=
  L.ts.length = t ∧ Below w0.heap.size w0 w ∧ RAt w rb (.slice A0 t cap) L ∧ ListT w Y (nows L.ts)
theorem YI.below {w0 w w' : World} {rb cap t : Nat} {A0 Y : Option Addr} {L : Lin} (h : YI w0 rb A0 cap L t Y w) (hb : Below w.heap.size w w') : YI w0 rb A0 cap L t Y w' :=
  ⟨h.1, h.2.1.trans (hb.mono h.2.1.size), h.2.2.1.below hb, h.2.2.2.frame (FrameT.of_below hb)⟩
theorem YI.at {w0 w : World} {rb cap t j : Nat} {A0 Y : Option Addr} {L : Lin} (h : YI w0 rb A0 cap L t Y w) (hj : j < t) : ∃ yb yo g o s, Y = some ⟨yb, yo, none⟩ ∧ A0 = some ⟨g, o, none⟩ ∧ w.cell? ⟨yb, yo + j, none⟩ = some (.string s) ∧ w.cell? ⟨g, o + j * 2, none⟩ = some (.string s) := by
  obtain ⟨h0, _, h2, h3⟩ := h
  obtain ⟨x, hx⟩ : ∃ x, L.ts[j]? = some x := ⟨L.ts[j]'(by omega), by simp [h0, hj]⟩
  obtain ⟨yb, yo, hY, hc⟩ := h3.cells j (.string x.1) (by simp [nows, hx])
  rcases h2.row with ⟨_, h0', _⟩ | ⟨g, o, cap', he, hr⟩
  · omega
  · have : A0 = some ⟨g, o, none⟩ := by simp at he; exact he.1
    exact ⟨yb, yo, g, o, x.1, hY, this, hc, (rnow_cell hr hx).1⟩

set_option maxRecDepth 100000 in
set_option maxHeartbeats 16000000 in
theorem exact_walk (n : Nat) (hn1 : 1 ≤ n) (hn64 : n ≤ 64) (l : List ActE) (X : Option Addr) (c : Nat) (w : World) (A : Nat → Addr) (hP : Apart 9 w A) (hA : Acts w X l) (hw : ∀ x ∈ l, x.s.size ≤ maxLen) (hlm0 : l.length ≤ maxLen) :
    Calls Tryd.prog 10 #[.int .i64 n, .slice X l.length c] w fun e w' => e = .returned (.bool true) ∧ Below w.heap.size w w' := by
  obtain ⟨len, hlen⟩ : ∃ x, l.length = x := ⟨_, rfl⟩
  have hlm := hlm0
  simp only [maxLen] at hlm
  rw [hlen] at hlm
  have LEN := Lib.hid hlen
  have GG := Lib.hid (hP.globL (by decide))
  have PP := Lib.hid hP
  have AA := Lib.hid hA
  have WF := Lib.hid hw
  rw [hlen]
  clear hlen hP hA hw hlm0
  go_enter Tryd.func10, Tryd.ntmps10
  go_wp2_with fail
  refine (lawake_any _ A GG.out).mono ?_
  rintro e w1 ⟨rfl, hB1⟩
  have B1 := Lib.hid hB1
  clear hB1
  go_wp2_with fail
  refine (li_new n w w1 B1.out (by omega) (by omega)).mono ?_
  rintro e w2 ⟨lb, rfl, hI, -, -⟩
  have I2 := Lib.hid hI
  clear hI
  go_wp2_with fail
  refine (rnew_any n w2 (by omega) (by omega)).mono ?_
  rintro e w3 ⟨rfl, hR, hB⟩
  have I3 : Hid (XI w lb w2.heap.size (Lin.new n) w3) := Lib.hid ⟨I2.out.below hB, ⟨_, hR⟩, I2.out.out.size⟩
  obtain ⟨rb, hrb⟩ : ∃ rb, w2.heap.size = rb := ⟨_, rfl⟩
  rw [hrb] at I3 ⊢
  clear hR hB hrb
  go_wp2_with fail
  go_loopw [8] (fun i wr => ∃ k : Nat, k ≤ len ∧ k ≤ 200 ∧ i = .int .i64 k ∧ ∃ L, CI L n k ∧ XI w lb rb L wr) (fun i _ => len - (intOf i).toNat)
  case atStart => exact ⟨0, Nat.zero_le _, by omega, rfl, _, CI.new n hn64, I3.out⟩
  case round =>
    obtain ⟨k, hk, hk200, rfl, L, hC, hI⟩ := hrel
    have II := Lib.hid hI
    have CC := Lib.hid hC
    clear hI hC
    by_cases hlt : k < len ∧ k < 200
    · obtain ⟨hlt, hlt2⟩ := hlt
      have hi1 : (0 : Int) ≤ (k : Int) := by omega
      have hi2 : (k : Int) < (len : Int) := by omega
      have hi3 : (k : Int) < 200 := by omega
      obtain ⟨x, hx⟩ : ∃ x, l[k]? = some x := ⟨l[k]'(by rw [LEN.out]; omega), by simp [LEN.out, hlt]⟩
      obtain ⟨ab, ao, hAe, d0, d1, d2, d3, d4⟩ := (AA.out.below II.out.out) k x hx
      have hxs : x.s.size ≤ 9223372036854775807 := WF.out x (List.mem_of_getElem? hx)
      have OK := Lib.hid (CC.out.ok (by omega))
      obtain ⟨kd, xi, xs, xa, xb⟩ := x
      simp only at d0 d1 d2 d3 d4 hxs
      clear hx
      subst hAe
      by_cases hbig : 1000 < xs.size
      · have hbig' : (1000 : Int) < (xs.size : Int) := by omega
        have O := Lib.hid II.out.out
        go_wp2_with fail
        go_ret
        exact ⟨rfl, O.out.alloc O.out.size _⟩
      · have hbig' : (xs.size : Int) ≤ (1000 : Int) := by omega
        go_upto_block 2 with (fail)
        have IH : Hid (XI w lb rb L (wr.alloc (.cells #[.int .i64 kd, .int .i64 xi, .string xs, .int .i64 xa, .int .u8 (xb.toNat : Int)] 47))) := Lib.hid (II.out.below ((Below.refl _ _).alloc (Nat.le_refl _) _))
        have AX : Hid (ActX (wr.alloc (.cells #[.int .i64 kd, .int .i64 xi, .string xs, .int .i64 xa, .int .u8 (xb.toNat : Int)] 47)) wr.heap.size kd xi xs xa xb) := Lib.hid (heap_alloc_new wr _)
        go_cut [10, 11, 12, 13] (fun s10 s11 s12 s13 wx => XR w lb rb n k A wr.heap.size kd xi xs xa xb s10 s11 s12 s13 wx)
        case first =>
          by_cases k1 : kd = 1
          · subst k1
            clear hbig
            go_wp2_with fail
            refine (li_send IH.out.1 OK.out GG.out xs hxs).mono ?_
            rintro e w5 hO
            obtain ⟨v, he, hv, hM, hf⟩ := IH.out.lo hO (send_err L xs)
            obtain rfl : e = .returned (v) := he
            have NV := Lib.hid hv
            have MM := Lib.hid hM
            have AX5 := Lib.hid (AX.out.frame hf)
            obtain ⟨sv, hR⟩ := hM.2.1
            have RR := Lib.hid hR
            have c1 := AX5.out.at1
            have c2 := AX5.out.at2
            have c3 := AX5.out.at3
            have c4 := AX5.out.at4
            clear hO hv hM hf hR d0 d1 d2 d3 d4
            go_wp2_with fail
            refine (rsend_any RR.out OK.out xs hxs).mono ?_
            rintro e w6 hD
            obtain ⟨rfl, hX, _, hk⟩ := MM.out.done hD
            have F : Hid (XR w lb rb n k A wr.heap.size 1 xi xs xa xb v (.int .i64 (refNum (L.send xs).2)) (.string ByteArray.empty) (.string ByteArray.empty) w6) := Lib.hid
              ⟨_, _, _, CC.out.send xs, hX, NV.out.keptR RR.out hk, rfl, rfl, rfl, AX5.out.keptR RR.out hk⟩
            clear hD hX hk
            go_wp2_with fail
            go_meet
            case rel => exact F.out
          have q1 : (kd == 1) = false := by simpa using k1
          by_cases k2 : kd = 2
          · subst k2
            clear hbig k1 q1
            go_wp2_with fail
            refine (li_take IH.out.1 OK.out GG.out xi).mono ?_
            rintro e w5 hO
            obtain ⟨v, he, hv, hM, hf⟩ := IH.out.lo hO (take_err L xi)
            obtain rfl : e = .returned (.tuple #[.string (L.taken xi), v]) := he
            have NV := Lib.hid hv
            have MM := Lib.hid hM
            have AX5 := Lib.hid (AX.out.frame hf)
            obtain ⟨sv, hR⟩ := hM.2.1
            have RR := Lib.hid hR
            have c1 := AX5.out.at1
            have c2 := AX5.out.at2
            have c3 := AX5.out.at3
            have c4 := AX5.out.at4
            clear hO hv hM hf hR d0 d1 d2 d3 d4
            go_wp2_with fail
            refine (rtake_any RR.out OK.out xi).mono ?_
            rintro e w6 hD
            obtain ⟨rfl, hX, _, hk⟩ := MM.out.done hD
            have F : Hid (XR w lb rb n k A wr.heap.size 2 xi xs xa xb v (.int .i64 (refNum (L.take xi).2)) (.string (L.taken xi)) (.string (L.taken xi)) w6) := Lib.hid
              ⟨_, _, _, CC.out.take xi, hX, NV.out.keptR RR.out hk, rfl, rfl, rfl, AX5.out.keptR RR.out hk⟩
            clear hD hX hk
            go_wp2_with fail
            go_meet
            case rel => exact F.out
          have q2 : (kd == 2) = false := by simpa using k2
          by_cases k3 : kd = 3
          · subst k3
            clear hbig k1 q1 k2 q2
            go_wp2_with fail
            refine (li_drop IH.out.1 OK.out GG.out xi).mono ?_
            rintro e w5 hO
            obtain ⟨v, he, hv, hM, hf⟩ := IH.out.lo hO (drop_err L xi)
            obtain rfl : e = .returned (v) := he
            have NV := Lib.hid hv
            have MM := Lib.hid hM
            have AX5 := Lib.hid (AX.out.frame hf)
            obtain ⟨sv, hR⟩ := hM.2.1
            have RR := Lib.hid hR
            have c1 := AX5.out.at1
            have c2 := AX5.out.at2
            have c3 := AX5.out.at3
            have c4 := AX5.out.at4
            clear hO hv hM hf hR d0 d1 d2 d3 d4
            go_wp2_with fail
            obtain ⟨ds, hds⟩ := rdrop_any RR.out OK.out xi
            refine hds.mono ?_
            clear hds
            rintro e w6 hD
            obtain ⟨rfl, hX, _, hk⟩ := MM.out.done hD
            have F : Hid (XR w lb rb n k A wr.heap.size 3 xi xs xa xb v (.int .i64 (refNum (L.drop xi).2)) (.string ByteArray.empty) (.string ByteArray.empty) w6) := Lib.hid
              ⟨_, _, _, CC.out.drop xi, hX, NV.out.keptR RR.out hk, rfl, rfl, rfl, AX5.out.keptR RR.out hk⟩
            clear hD hX hk
            go_wp2_with fail
            go_meet
            case rel => exact F.out
          have q3 : (kd == 3) = false := by simpa using k3
          by_cases k4 : kd = 4
          · subst k4
            clear hbig k1 q1 k2 q2 k3 q3
            go_wp2_with fail
            refine (li_double IH.out.1 OK.out GG.out xi).mono ?_
            rintro e w5 hO
            obtain ⟨v, he, hv, hM, hf⟩ := IH.out.lo hO (double_err L xi)
            obtain rfl : e = .returned (v) := he
            have NV := Lib.hid hv
            have MM := Lib.hid hM
            have AX5 := Lib.hid (AX.out.frame hf)
            obtain ⟨sv, hR⟩ := hM.2.1
            have RR := Lib.hid hR
            have c1 := AX5.out.at1
            have c2 := AX5.out.at2
            have c3 := AX5.out.at3
            have c4 := AX5.out.at4
            clear hO hv hM hf hR d0 d1 d2 d3 d4
            go_wp2_with fail
            refine (rdouble_any RR.out OK.out xi).mono ?_
            rintro e w6 hD
            obtain ⟨rfl, hX, _, hk⟩ := MM.out.done hD
            have F : Hid (XR w lb rb n k A wr.heap.size 4 xi xs xa xb v (.int .i64 (refNum (L.double xi).2)) (.string ByteArray.empty) (.string ByteArray.empty) w6) := Lib.hid
              ⟨_, _, _, CC.out.double xi, hX, NV.out.keptR RR.out hk, rfl, rfl, rfl, AX5.out.keptR RR.out hk⟩
            clear hD hX hk
            go_wp2_with fail
            go_meet
            case rel => exact F.out
          have q4 : (kd == 4) = false := by simpa using k4
          by_cases k5 : kd = 5
          · subst k5
            clear hbig k1 q1 k2 q2 k3 q3 k4 q4
            go_wp2_with fail
            refine (li_spoil IH.out.1 OK.out GG.out xi xa xb (fun _ => Nat.le_trans (CC.out.at xi) (by decide))).mono ?_
            rintro e w5 hO
            obtain ⟨v, he, hv, hM, hf⟩ := IH.out.lo hO (spoil_err L xi xa xb)
            obtain rfl : e = .returned (v) := he
            have NV := Lib.hid hv
            have MM := Lib.hid hM
            have AX5 := Lib.hid (AX.out.frame hf)
            obtain ⟨sv, hR⟩ := hM.2.1
            have RR := Lib.hid hR
            have c1 := AX5.out.at1
            have c2 := AX5.out.at2
            have c3 := AX5.out.at3
            have c4 := AX5.out.at4
            clear hO hv hM hf hR d0 d1 d2 d3 d4
            go_wp2_with fail
            refine (rspoil_any RR.out OK.out xi xa xb (fun _ => Nat.le_trans (CC.out.at xi) (by decide))).mono ?_
            rintro e w6 hD
            obtain ⟨rfl, hX, _, hk⟩ := MM.out.done hD
            have F : Hid (XR w lb rb n k A wr.heap.size 5 xi xs xa xb v (.int .i64 (refNum (L.spoil xi xa xb).2)) (.string ByteArray.empty) (.string ByteArray.empty) w6) := Lib.hid
              ⟨_, _, _, CC.out.spoil xi xa xb, hX, NV.out.keptR RR.out hk, rfl, rfl, rfl, AX5.out.keptR RR.out hk⟩
            clear hD hX hk
            go_wp2_with fail
            go_meet
            case rel => exact F.out
          have q5 : (kd == 5) = false := by simpa using k5
          have F : Hid (XR w lb rb n k A wr.heap.size kd xi xs xa xb .nilIface (.int .i64 (refNum none)) (.string ByteArray.empty) (.string ByteArray.empty) (wr.alloc (.cells #[.int .i64 kd, .int .i64 xi, .string xs, .int .i64 xa, .int .u8 (xb.toNat : Int)] 47))) := Lib.hid
            ⟨_, none, _, CC.out.mono, IH.out, rfl, rfl, rfl, rfl, AX.out⟩
          clear hbig k1 k2 k3 k4 k5
          go_wp2_with fail
          go_meet
          case rel => exact F.out
        case rest =>
          obtain ⟨L', err, x, hC', hX', hv, rfl, rfl, rfl, hAX⟩ := hcut
          have I3 := Lib.hid hX'
          have C3 := Lib.hid hC'
          have N3 := Lib.hid hv
          have AX3 := Lib.hid hAX
          clear hC' hX' hv hAX II CC OK IH AX d0 d1 d2 d3 d4
          have OK := Lib.hid (C3.out.ok (by omega))
          obtain ⟨sv, hR⟩ := I3.out.2.1
          obtain ⟨A0, cap, hsv, hc1, hc2, _⟩ := hR.row.slice
          subst hsv
          obtain ⟨t, ht⟩ : ∃ t, L'.ts.length = t := ⟨_, rfl⟩
          have HT := Lib.hid ht
          have ht64 : t ≤ 64 := by have := C3.out.2.2.2.1; omega
          rw [ht] at hR hc1
          have R3 := Lib.hid hR
          clear ht
          clear hR
          go_wp2_with fail
          refine (li_stats I3.out.1).mono ?_
          rintro e w5 ⟨rfl, hI, hB5⟩
          have B5 := Lib.hid hB5
          clear hI hB5
          go_wp2_with fail
          have hst := agg6_eq L'.c0 L'.c1 L'.c2 L'.c3 L'.c4 L'.c5
          have hsu := agg6_ne L'.c0 L'.c1 L'.c2 L'.c3 L'.c4 L'.c5
          have XS0 : Hid (XS w lb rb A0 cap L' A u10 err wr.heap.size xi w5.heap.size t (w5.alloc (.cells #[.int .i64 L'.c0, .int .i64 L'.c1, .int .i64 L'.c2, .int .i64 L'.c3, .int .i64 L'.c4, .int .i64 L'.c5] 59))) := Lib.hid (by
            have hb : Below wc.heap.size wc (w5.alloc (.cells #[.int .i64 L'.c0, .int .i64 L'.c1, .int .i64 L'.c2, .int .i64 L'.c3, .int .i64 L'.c4, .int .i64 L'.c5] 59)) := B5.out.alloc B5.out.size _
            exact ⟨HT.out, I3.out.below hb, R3.out.below hb, N3.out.below hb, (hb.cell (World.block_lt_of_cell? _ _ AX3.out.at1)).trans AX3.out.at1, heap_alloc_new w5 _⟩)
          obtain ⟨W5, hW5⟩ : ∃ W5, W5 = w5.alloc (.cells #[.int .i64 L'.c0, .int .i64 L'.c1, .int .i64 L'.c2, .int .i64 L'.c3, .int .i64 L'.c4, .int .i64 L'.c5] 59) := ⟨_, rfl⟩
          rw [← hW5] at XS0 ⊢
          obtain ⟨sb, hsb⟩ : ∃ sb, w5.heap.size = sb := ⟨_, rfl⟩
          rw [hsb] at XS0 ⊢
          obtain ⟨ax, hax⟩ : ∃ ax, wr.heap.size = ax := ⟨_, rfl⟩
          rw [hax] at XS0 ⊢
          have S0 : XC w lb rb A0 cap L' A u10 err ax xi sb t W5 := XS0.out.cells
          clear hW5 hsb hax
          go_region_held3 (fun w' => w'.cell? ⟨rb, 1, none⟩ = some (.slice A0 t cap) ∧ w'.cell? ⟨ax, 1, none⟩ = some (.int .i64 xi) ∧ w'.cell? ⟨sb, 0, none⟩ = some (.int .i64 L'.c0) ∧ w'.cell? ⟨sb, 1, none⟩ = some (.int .i64 L'.c1) ∧ w'.cell? ⟨sb, 2, none⟩ = some (.int .i64 L'.c2) ∧ w'.cell? ⟨sb, 3, none⟩ = some (.int .i64 L'.c3) ∧ w'.cell? ⟨sb, 4, none⟩ = some (.int .i64 L'.c4) ∧ w'.cell? ⟨sb, 5, none⟩ = some (.int .i64 L'.c5) ∧ w'.cell? ⟨rb, 2, none⟩ = some (.int .i64 L'.c0) ∧ w'.cell? ⟨rb, 3, none⟩ = some (.int .i64 L'.c1) ∧ w'.cell? ⟨rb, 4, none⟩ = some (.int .i64 L'.c2) ∧ w'.cell? ⟨rb, 5, none⟩ = some (.int .i64 L'.c3) ∧ w'.cell? ⟨rb, 6, none⟩ = some (.int .i64 L'.c4) ∧ w'.cell? ⟨rb, 7, none⟩ = some (.int .i64 L'.c5) ∧ XS w lb rb A0 cap L' A u10 err ax xi sb t w')
            ((first | assumption | (exact xc_drew (by assumption)) | (refine xc_bel ?_ hbel; assumption)))
            (first
              | (go_at_call 43; (with_reducible refine (xc_num (w0 := w) (lb := lb) (rb := rb) (A0 := A0) (cap := cap) (L := L') (A := A) (f := u10) (err := err) (xb := ax) (xi := xi) (sb := sb) (t := t) PP.out ?_).mono ?_); assumption; rintro e w' ⟨rfl, rfl⟩)
              | (go_at_call 30; (with_reducible refine (xc_len (w0 := w) (lb := lb) (rb := rb) (A0 := A0) (cap := cap) (L := L') (A := A) (f := u10) (err := err) (xb := ax) (xi := xi) (sb := sb) (t := t) ?_).mono ?_); assumption; rintro e w' ⟨rfl, rfl⟩)
              | (go_at_call 31; (with_reducible refine (xc_clean (w0 := w) (lb := lb) (rb := rb) (A0 := A0) (cap := cap) (L := L') (A := A) (f := u10) (err := err) (xb := ax) (xi := xi) (sb := sb) (t := t) GG.out OK.out ?_).mono ?_); assumption; rintro e w' ⟨rfl, hbel⟩)
              | (go_at_call 44; (with_reducible refine (xc_rclean (w0 := w) (lb := lb) (rb := rb) (A0 := A0) (cap := cap) (L := L') (A := A) (f := u10) (err := err) (xb := ax) (xi := xi) (sb := sb) (t := t) OK.out ?_).mono ?_); assumption; rintro e w' ⟨rfl, hbel⟩))
          all_goals
            go_wp2_with fail
            exact ⟨⟨k + 1, by omega, by omega, by go_num, L', C3.out, xc_xi (by assumption)⟩, by simp [intOf]; omega⟩
    · have OK := Lib.hid (CC.out.ok (by omega))
      obtain ⟨sv, hR⟩ := II.out.2.1
      obtain ⟨A0, cap, hsv, hc1, hc2, _⟩ := hR.row.slice
      subst hsv
      obtain ⟨t, ht⟩ : ∃ t, L.ts.length = t := ⟨_, rfl⟩
      have HT := Lib.hid ht
      have ht64 : t ≤ 64 := by have := CC.out.2.2.2.1; omega
      rw [ht] at hR hc1
      have RR := Lib.hid hR
      clear hR ht
      by_cases hlt1 : k < len
      · have h2 : (200 : Int) ≤ (k : Int) := by omega
        have h1 : (k : Int) < (len : Int) := by omega
        clear hlt
        go_wp2_with fail
        refine (li_list II.out.1 OK.out).mono ?_
        rw [HT.out]
        rintro e w5 ⟨Y, cy, rfl, hY, hI5, hB5⟩
        have Y5 : Hid (YI w rb A0 cap L t Y w5) := Lib.hid ⟨HT.out, (II.out.below hB5).out, RR.out.below hB5, hY⟩
        clear hY hI5 hB5
        go_wp2_with fail
        go_loopw [16] (fun jv wx => ∃ j : Nat, j ≤ t ∧ jv = .int .i64 j ∧ YI w rb A0 cap L t Y wx) (fun jv _ => t - (intOf jv).toNat)
        case atStart => exact ⟨0, Nat.zero_le _, rfl, Y5.out⟩
        case round =>
          obtain ⟨j, hj, rfl, hYI⟩ := hrel
          have YY := Lib.hid hYI
          have r1 := hYI.2.2.1.at1
          clear hYI
          by_cases hjt : j < t
          · obtain ⟨yb, yo, g, o, s, rfl, rfl, y1, y2⟩ := YY.out.at hjt
            have hj0 : (0 : Int) ≤ (j : Int) := by omega
            have hj1 : (j : Int) < (t : Int) := by omega
            have ej : IntKind.i64.wrap ((j : Int) + 1) = (j : Int) + 1 := IntWalk.i64_in _ (by omega)
            go_wp2_with fail
            go_quiet (fail)
            go_wp2_with fail
            exact ⟨⟨j + 1, by omega, by go_num, YY.out.below ⟨rfl, rfl, rfl, Nat.le_refl _, fun _ _ => rfl⟩⟩, by simp [intOf]; omega⟩
          · have hj2 : (t : Int) ≤ (j : Int) := by omega
            have O2 := Lib.hid YY.out.2.1
            clear hjt
            go_wp2_with fail
            go_ret
            exact ⟨rfl, O2.out⟩
      · have h1 : (len : Int) ≤ (k : Int) := by omega
        clear hlt hlt1
        go_wp2_with fail
        refine (li_list II.out.1 OK.out).mono ?_
        rw [HT.out]
        rintro e w5 ⟨Y, cy, rfl, hY, hI5, hB5⟩
        have Y5 : Hid (YI w rb A0 cap L t Y w5) := Lib.hid ⟨HT.out, (II.out.below hB5).out, RR.out.below hB5, hY⟩
        clear hY hI5 hB5
        go_wp2_with fail
        go_loopw [16] (fun jv wx => ∃ j : Nat, j ≤ t ∧ jv = .int .i64 j ∧ YI w rb A0 cap L t Y wx) (fun jv _ => t - (intOf jv).toNat)
        case atStart => exact ⟨0, Nat.zero_le _, rfl, Y5.out⟩
        case round =>
          obtain ⟨j, hj, rfl, hYI⟩ := hrel
          have YY := Lib.hid hYI
          have r1 := hYI.2.2.1.at1
          clear hYI
          by_cases hjt : j < t
          · obtain ⟨yb, yo, g, o, s, rfl, rfl, y1, y2⟩ := YY.out.at hjt
            have hj0 : (0 : Int) ≤ (j : Int) := by omega
            have hj1 : (j : Int) < (t : Int) := by omega
            have ej : IntKind.i64.wrap ((j : Int) + 1) = (j : Int) + 1 := IntWalk.i64_in _ (by omega)
            go_wp2_with fail
            go_quiet (fail)
            go_wp2_with fail
            exact ⟨⟨j + 1, by omega, by go_num, YY.out.below ⟨rfl, rfl, rfl, Nat.le_refl _, fun _ _ => rfl⟩⟩, by simp [intOf]; omega⟩
          · have hj2 : (t : Int) ≤ (j : Int) := by omega
            have O2 := Lib.hid YY.out.2.1
            clear hjt
            go_wp2_with fail
            go_ret
            exact ⟨rfl, O2.out⟩

set_option maxRecDepth 100000 in
set_option maxHeartbeats 3200000 in
theorem exact_none (m : Int) (h : m < 1 ∨ 64 < m) (l : List ActE) (X : Option Addr) (c : Nat) (w : World) (A : Nat → Addr) (hP : Apart 9 w A) :
    Calls Tryd.prog 10 #[.int .i64 m, .slice X l.length c] w fun e w' => e = .returned (.bool true) ∧ Below w.heap.size w w' := by
  have GG := Lib.hid (hP.globL (by decide))
  obtain ⟨len, hlen⟩ : ∃ x, l.length = x := ⟨_, rfl⟩
  rw [hlen]
  have RN := Lib.hid (fun w => rnew_none m w h)
  clear hP hlen
  have HM := Lib.hid h
  clear h
  go_enter Tryd.func10, Tryd.ntmps10
  go_wp2_with fail
  refine (lawake_any _ A GG.out).mono ?_
  rintro e w1 ⟨rfl, hB1⟩
  have B1 := Lib.hid hB1
  clear hB1
  go_wp2_with fail
  refine (lnew_err m _ HM.out (A 0) (GG.out.below B1.out 0 (by omega))).mono ?_
  rintro e w2 ⟨v, rfl, v', hv, hw, hbel, b, rfl, hb⟩
  obtain rfl : v = _ := by simpa using hv
  have W2 := Lib.hid hw
  have B2 := Lib.hid (B1.out.trans (hbel.mono B1.out.size))
  have g0 := GG.out.below B2.out 0 (by omega)
  clear hw hbel hb hv
  go_wp2_with fail
  refine (RN.out _).mono ?_
  rintro e w3 ⟨rfl, rfl⟩
  go_wp2_with fail
  refine W2.out.is.mono ?_
  rintro e w3 ⟨rfl, rfl⟩
  go_wp2_with fail
  go_ret
  exact ⟨rfl, B2.out⟩

theorem exact_any (w : World) (A : Nat → Addr) (hP : Apart 9 w A) (places : Int) (_hp : (Lit.int .i64 places).wf = true) (X : Option Addr) (c : Nat) (l : List ActE)
    (h : l.length ≤ c ∧ c ≤ maxLen ∧ Acts w X l ∧ ∀ x ∈ l, (Lit.int .i64 x.i).wf = true ∧ (Lit.int .i64 x.at_).wf = true ∧ x.s.size ≤ maxLen) :
    Calls Tryd.prog 10 #[.int .i64 places, .slice X l.length c] w fun e w' => e = .returned (.bool true) ∧ Below w.heap.size w w' := by
  by_cases hp : places < 1 ∨ 64 < places
  · exact exact_none places hp l X c w A hP
  · obtain ⟨n, rfl⟩ : ∃ n : Nat, places = n := ⟨places.toNat, by omega⟩
    exact exact_walk n (by omega) (by omega) l X c w A hP h.2.2.1 (fun x hx => (h.2.2.2 x hx).2.2) (by omega)

end Go.Proofs.YtkpbjahjiajodaaDoor
