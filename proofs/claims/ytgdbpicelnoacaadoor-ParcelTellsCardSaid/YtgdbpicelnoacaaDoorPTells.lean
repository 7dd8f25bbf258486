/- This text proves ParcelTells over the loaded program: a byte that is another one is told. -/
import Derived.Test.YtgdbpicelnoacaaDoorAwake24
import Derived.Test.YtgdbpicelnoacaaDoorOpenPar
import Derived.Test.YtgdbpicelnoacaaDoorBytes
namespace Go.Proofs.YtgdbpicelnoacaaDoor
open Go.RowKit Go.WideShapes
set_option linter.unusedSimpArgs false

/-- Another byte in the sum's is told. -/
theorem tell_sum {L : List UInt8} (hd : decErr L = none) {k : Nat} (h1 : L.length - 4 ≤ k) (h2 : k < L.length) {b : UInt8} (hb : b ≠ L[k]) : decErr (L.set k b) = some 4 := by
  obtain ⟨l1, l2, l3, l4⟩ := decErr_none hd
  unfold decErr
  rw [List.length_set, if_neg (by omega), if_neg, if_pos]
  · have e1 : (L.set k b).take (L.length - 4) = L.take (L.length - 4) := by
      apply List.ext_getElem?
      intro i
      by_cases hi : i < L.length - 4
      · rw [List.getElem?_take_of_lt hi, List.getElem?_take_of_lt hi, List.getElem?_set_ne (by omega)]
      · rw [List.getElem?_eq_none (by simp; omega), List.getElem?_eq_none (by simp; omega)]
    rw [e1, l4]
    intro h
    have := congrArg (fun l => l[k - (L.length - 4)]?) h
    rw [List.getElem?_drop, List.getElem?_drop, show L.length - 4 + (k - (L.length - 4)) = k by omega, List.getElem?_eq_getElem h2, List.getElem?_set_self h2] at this
    exact hb (Option.some.inj this).symm
  · rintro (h | h)
    · omega
    · apply h
      rw [← l3, List.getD_eq_getElem?_getD, List.getD_eq_getElem?_getD, List.getElem?_set_ne (by omega)]
/-- What is read of bytes with another one is another packet. -/
theorem tell_other {a : Par} (_ha : a.good = true) {k : Nat} (h2 : k < (encP a).length) {b : UInt8} (hb : b ≠ (encP a)[k]) (ho : decOk ((encP a).set k b) = true) (X : Option Addr) (c : Nat) :
    encP ((decQ ((encP a).set k b)).2.par ((decB ((encP a).set k b)).2 : Int) X c) = (encP a).set k b ∧ ((decQ ((encP a).set k b)).2.par ((decB ((encP a).set k b)).2 : Int) X c).same a = false ∧ ((decQ ((encP a).set k b)).2.par ((decB ((encP a).set k b)).2 : Int) X c).good = true := by
  have e := enc_dec ho
  have e1 : encP ((decQ ((encP a).set k b)).2.par ((decB ((encP a).set k b)).2 : Int) X c) = (encP a).set k b := e
  refine ⟨e1, ?_, ?_⟩
  · cases hs : ((decQ ((encP a).set k b)).2.par ((decB ((encP a).set k b)).2 : Int) X c).same a with
    | false => rfl
    | true =>
      obtain ⟨h3, h4⟩ := same_iff.1 hs
      rw [encP_flds, h3, h4, ← encP_flds] at e1
      have := congrArg (fun l => l[k]?) e1
      rw [List.getElem?_eq_getElem h2, List.getElem?_set_self h2] at this
      exact absurd (Option.some.inj this).symm hb
  · unfold decOk at ho
    rw [Bool.and_eq_true, Bool.and_eq_true] at ho
    rw [good_par]
    exact ho.2.2

/-- What was read is a packet of numbers of their kinds. -/
theorem dec_in (l : List UInt8) (X : Option Addr) (c : Nat) (w : World) (hc : Cells w X (iv (decQ l).2.ins)) : ((decQ l).2.par ((decB l).2 : Int) X c).ok w := by
  have h : _ := body_in (decB l).1 ((decB l).2 : Int)
  have e : (decB l).1.body ((decB l).2 : Int) = decQ l := rfl
  rw [e] at h
  have hb := byte_le (Rdr.mk (decM l) false)
  have e2 : (Rdr.mk (decM l) false).byte = decB l := rfl
  rw [e2] at hb
  obtain ⟨h1, h2, h3, h4, h5, h6, h7⟩ := h
  exact ⟨by show In64 ((decB l).2 : Int); unfold In64; omega, h1, h2, h3, h4, h5, by show (decQ l).2.ins.length ≤ 1000000; omega, h7, hc⟩
theorem ints_at {L : List UInt8} {k : Nat} (h : k < L.length) {x : Int} (hx : (ints L).getD k 0 = x) : x = ((L[k]).toNat : Int) := by
  rw [← hx]
  simp [ints, List.getD_eq_getElem?_getD, List.getElem?_eq_getElem h]
/-- A packet's block. -/
def OneP (W : World) (a : Par) (w : World) : Prop := Below W.heap.size W w ∧ w.heap[W.heap.size]? = some (.cells a.cs 61 (0, 0))
theorem OneP.start (W : World) (a : Par) : OneP W a (W.alloc (.cells a.cs 61)) := ⟨(Below.refl _ _).alloc (Nat.le_refl _) _, heap_alloc_new W _⟩
theorem OneP.step {W : World} {a : Par} {w w' : World} (h : OneP W a w) (hb : Below w.heap.size w w') : OneP W a w' :=
  ⟨h.1.trans (hb.mono h.1.size), (hb.block _ (Array.getElem?_eq_some_iff.1 h.2).1).trans h.2⟩
theorem OneP.kept {W : World} {a : Par} {w w' : World} {fp : List Nat} (h : OneP W a w) (hk : Kept fp w w') (hf : ∀ x ∈ fp, W.heap.size < x) : OneP W a w' :=
  ⟨below_kept h.1 hk (fun x hx => Nat.le_of_lt (hf x hx)) (Nat.le_refl _), (hk.block _ (Array.getElem?_eq_some_iff.1 h.2).1 (fun hm => by have := hf _ hm; omega)).trans h.2⟩
theorem OneP.lt {W : World} {a : Par} {w : World} (h : OneP W a w) : W.heap.size < w.heap.size := (Array.getElem?_eq_some_iff.1 h.2).1

set_option maxRecDepth 100000 in
set_option maxHeartbeats 12800000 in
theorem ptells_any (W : World) (A : Nat → Addr) (hA : Apart 5 W A) (a : Par) (ha : a.came W) (at_ : Int) (_ha : (Lit.int .i64 at_).wf = true) (mask : Int) (_hm : (Lit.int .i64 mask).wf = true) : Calls Tryd.prog 10 #[a.v, .int .i64 at_, .int .i64 mask] W fun e W' => e = .returned (.bool true) ∧ Below W.heap.size W W' := by
  have T0 := Lib.hid (OneP.start W a)
  have AA := Lib.hid (fun w' (h : OneP W a w') => hA.below h.1)
  have AW := Lib.hid (awake24_any A _ (AA.out _ T0.out))
  have EA := Lib.hid (fun w' (h : OneP W a w') (hl : a.ins.length ≤ 1000000) => enc_good A a w' ((ha.ok hl).below h.1) ((AA.out _ h).glob (by decide)))
  have FA := Lib.hid (fun w' (h : OneP W a w') (hl : a.ins.length ≤ 1000000) => enc_bad A a w' ((ha.ok hl).below h.1) ((AA.out _ h).glob (by decide)))
  have HA := Lib.hid ha
  obtain ⟨L, hL⟩ : ∃ L, encP a = L := ⟨_, rfl⟩
  have PL : Hid (a.good = true → L.length ≤ 104 ∧ 6 ≤ L.length ∧ decErr L = none) := Lib.hid (fun h => ⟨hL ▸ encP_short h, by rw [← hL, encP_len]; omega, hL ▸ decErr_enc h⟩)
  have PO : Hid (∀ (k : Nat) (h2 : k < L.length) (b : UInt8), a.good = true → b ≠ L[k] → decOk (L.set k b) = true → ∀ (X : Option Addr) (c : Nat), encP ((decQ (L.set k b)).2.par ((decB (L.set k b)).2 : Int) X c) = L.set k b ∧ ((decQ (L.set k b)).2.par ((decB (L.set k b)).2 : Int) X c).same a = false ∧ ((decQ (L.set k b)).2.par ((decB (L.set k b)).2 : Int) X c).good = true) := Lib.hid (by
    subst hL
    exact fun k h2 b hg hb ho X c => tell_other hg h2 hb ho X c)
  rw [hL] at EA
  have CA := Lib.hid (fun w' (h : OneP W a w') => ha.2.2.2.2.2.2.2.2.below h.1)
  obtain ⟨ga, hga⟩ : ∃ ga, a.good = ga := ⟨_, rfl⟩
  rw [hga] at EA FA PL PO
  clear hA ha hL hga HA
  obtain ⟨kind, nonce, frm, base, ins, ack, sum, X, c⟩ := a
  unfold Par.v at *
  unfold Par.cs at AW
  dsimp only at *
  by_cases l1 : 100 < ins.length
  · have q1 : (100 : Int) < (ins.length : Int) := by omega
    clear l1
    go_enter Tryd.func10, Tryd.ntmps10
    go_wp2_with fail
    refine AW.out.mono ?_
    rintro e w1 ⟨rfl, hb1⟩
    have T1 := Lib.hid (T0.out.step hb1)
    clear hb1
    obtain ⟨⟨p0, -⟩, ⟨p1, -⟩, ⟨p2, -⟩, ⟨p3, -⟩, ⟨p4, -⟩, ⟨p5, -⟩, ⟨p6, -⟩⟩ := cells7 T1.out.2
    go_wp2_with fail
    go_ret
    exact ⟨rfl, T1.out.1⟩
  have q1 : (ins.length : Int) ≤ 100 := by omega
  have Q1 : Hid (ins.length ≤ 1000000) := Lib.hid (by omega)
  clear l1
  go_enter Tryd.func10, Tryd.ntmps10
  go_wp2_with fail
  refine AW.out.mono ?_
  rintro e w1 ⟨rfl, hb1⟩
  have T1 := Lib.hid (T0.out.step hb1)
  clear hb1
  obtain ⟨⟨p0, -⟩, ⟨p1, -⟩, ⟨p2, -⟩, ⟨p3, -⟩, ⟨p4, -⟩, ⟨p5, -⟩, ⟨p6, -⟩⟩ := cells7 T1.out.2
  go_wp2_with fail
  clear p0 p1 p2 p3 p4 p5 p6
  cases ga with
  | false =>
    refine (FA.out _ T1.out Q1.out (by first | trivial | rfl)).mono ?_
    rintro e w2 ⟨⟨va, rfl, hwa⟩, hb2⟩
    have T2 := Lib.hid (T1.out.step hb2)
    obtain ⟨ba, Ca, rfl, -, -⟩ := hwa
    clear hb2
    go_wp2_with fail
    go_ret
    exact ⟨rfl, T2.out.1⟩
  | true =>
    refine (EA.out _ T1.out Q1.out (by first | trivial | rfl)).mono ?_
    rintro e w2 ⟨rfl, hb2⟩
    have T2 := Lib.hid (T1.out.step hb2)
    clear hb2
    obtain ⟨p1, p2, p3⟩ := PL.out (by first | trivial | rfl)
    obtain ⟨S, hS⟩ : ∃ S, strB L = S := ⟨_, rfl⟩
    have hSd : S.data.toList = L := by rw [← hS]; exact strB_list L
    have hSs : S.size = L.length := by rw [← hS]; exact strB_size L
    rw [hS]
    have HSS := Lib.hid (And.intro hSd hSs)
    have PD := Lib.hid p3
    obtain ⟨g, cg, w3, hcv, hrow, hb3, hg⟩ := conv_bytes w2 S
    rw [hSd] at hrow
    obtain ⟨j, hj, hj2⟩ := index_of at_ 4 (by omega) (by omega)
    obtain ⟨m, hm, hm2⟩ := index_of mask 255 (by omega) (by omega)
    obtain ⟨k2, hk2, hk3⟩ := index_of at_ (S.size : Int) (by omega) (by omega)
    have T3 := Lib.hid (T2.out.step hb3)
    have q3 : (S.size : Int) ≤ 512 := by omega
    have q4 : (6 : Int) ≤ (S.size : Int) := by omega
    obtain ⟨k1, hk1⟩ : ∃ k1 : Nat, (S.size : Int) - 4 + (j : Int) = (k1 : Int) := ⟨S.size - 4 + j, by omega⟩
    have i0 : (0 : Int) ≤ (k1 : Int) := by omega
    have i1 : (k1 : Int) < (S.size : Int) := by omega
    have hk1l : k1 < (ints L).length := by rw [ints_len]; omega
    obtain ⟨hc, hf⟩ := hrow k1 hk1l
    obtain ⟨x0, hx0⟩ : ∃ x0, (ints L).getD k1 0 = x0 := ⟨_, rfl⟩
    rw [hx0] at hc
    have X0 : Hid (∃ h : k1 < L.length, x0 = ((L[k1]'h).toNat : Int)) := Lib.hid ⟨by omega, ints_at _ hx0⟩
    clear hx0
    have R3 := Lib.hid hrow
    have KK : Hid ((k1 < L.length ∧ L.length - 4 ≤ k1) ∧ (k2 : Int) < S.size ∧ (m : Int) < 255) := Lib.hid ⟨by omega, hk3, hm2⟩
    have hcb := (hrow.set (Go.bits .xor .u8 x0 (1 + (m : Int))) hk1l).back (c := cg) (show ((ints L).set k1 _).length = S.size by rw [List.length_set, ints_len]; omega)
    have G3 := Lib.hid (And.intro hg hcv)
    have HB3 := Lib.hid hb3
    have hk2' := Lib.hid (And.intro hk2 hk3)
    clear hrow hSd hSs hS p1 p2 p3 hk1l hb3 hg hk2 hk3
    go_wp2_with fail
    obtain ⟨y1, hy1⟩ : ∃ y1, Go.bits .xor .u8 x0 (1 + (m : Int)) = y1 := ⟨_, rfl⟩
    have D1 := Lib.hid (fun w' (h : Apart 5 w' A) => dec_none A (strOfNums ((ints L).set k1 y1)) w' h (by rw [strOfNums_size, List.length_set, ints_len]; have := (PL.out (by first | trivial | rfl)).1; omega) 4 (by
      rw [nums_data]
      refine tell_sum PD.out KK.out.1.2 KK.out.1.1 ?_
      obtain ⟨_, hx⟩ := X0.out
      rw [← hy1, hx]
      exact xor_other _ _ (by omega) (by have := KK.out.2.2; omega)))
    rw [hy1]
    have T4 := Lib.hid (T3.out.kept (Kept.setCell w3 g k1 (.int .u8 y1)) (by have := G3.out.1; have := T2.out.lt; simp; omega))
    clear hc hf hcb hy1
    refine (D1.out _ (AA.out _ T4.out)).mono ?_
    rintro e w5 ⟨⟨v, rfl, hv⟩, hb5⟩
    obtain ⟨bv, Cv, rfl, -, -⟩ := hv
    have T6 := Lib.hid ((T4.out.step hb5).step ((Below.refl w5.heap.size w5).alloc (Nat.le_refl _) (.cells #[.int .i64 0, .int .i64 0, .int .i64 0, .int .i64 0, .slice none 0 0, .int .i64 0, .int .u64 0] 61)))
    clear hb5
    unfold ZV
    obtain ⟨g', cg', w7, hcv', hrow, hb7, hg⟩ := conv_bytes (w5.alloc (.cells #[.int .i64 0, .int .i64 0, .int .i64 0, .int .i64 0, .slice none 0 0, .int .i64 0, .int .u64 0] 61)) S
    rw [HSS.out.1] at hrow
    have T7 := Lib.hid (T6.out.step hb7)
    obtain ⟨hk2, hk3⟩ := hk2'.out
    have hk2l : k2 < (ints L).length := by rw [ints_len, ← HSS.out.2]; omega
    have j0 : (0 : Int) ≤ (k2 : Int) := by omega
    obtain ⟨hc, hf⟩ := hrow k2 hk2l
    obtain ⟨x2, hx2⟩ : ∃ x2, (ints L).getD k2 0 = x2 := ⟨_, rfl⟩
    rw [hx2] at hc
    have KL : Hid (k2 < L.length) := Lib.hid (by rw [ints_len] at hk2l; exact hk2l)
    have X2 := Lib.hid (ints_at KL.out hx2)
    obtain ⟨y2, hy2⟩ : ∃ y2, Go.bits .xor .u8 x2 (1 + (m : Int)) = y2 := ⟨_, rfl⟩
    have R8 := Lib.hid (hrow.set y2 hk2l)
    have hcb := R8.out.back (c := cg') (show ((ints L).set k2 y2).length = S.size by rw [List.length_set, ints_len, HSS.out.2])
    have D2 := Lib.hid (fun w' (h : Apart 5 w' A) => dec_any A (strOfNums ((ints L).set k2 y2)) w' h (by rw [strOfNums_size, List.length_set, ints_len]; have := (PL.out (by first | trivial | rfl)).1; omega))
    rw [nums_data] at D2
    have OT : Hid (UInt8.ofNat y2.toNat ≠ L[k2]'(KL.out)) := Lib.hid (by
      have hx := X2.out
      rw [← hy2, hx]
      exact xor_other _ _ (by omega) (by have := KK.out.2.2; omega))
    have PP2 := Lib.hid (PO.out k2 KL.out (UInt8.ofNat y2.toNat) (by first | trivial | rfl) OT.out)
    have T8 := Lib.hid (T7.out.kept (Kept.setCell w7 g' k2 (.int .u8 y2)) (by have := T6.out.lt; simp; omega))
    have HX2 := Lib.hid hx2
    clear hrow hk2l hb7 hx2 hg D1 X0 R3 HB3 G3
    go_wp2_with fail
    have ST : Hid (strOfNums ((ints L).set k2 y2) = strB (L.set k2 (UInt8.ofNat y2.toNat))) := Lib.hid (by
      apply ByteArray.ext
      apply Array.ext'
      rw [nums_data, strB_list])
    refine (D2.out _ (AA.out _ T8.out)).mono ?_
    rintro e w9 ⟨hb9, h⟩
    have T9 := Lib.hid (T8.out.step hb9)
    rcases h with ⟨ho, X', c', he, hcl, -⟩ | ⟨-, v2, rfl, bz, Cz, rfl, -, -⟩
    case inr =>
      clear hb9
      unfold ZV
      go_wp2_with fail
      go_ret
      exact ⟨rfl, (T9.out.step ((Below.refl w9.heap.size w9).alloc (Nat.le_refl _) _)).1⟩
    have pin := dec_in _ X' c' w9 hcl
    obtain ⟨e1, e2, e3⟩ := PP2.out ho X' c'
    obtain ⟨Q, hQ⟩ : ∃ Q, decQ (L.set k2 (UInt8.ofNat y2.toNat)) = Q := ⟨_, rfl⟩
    obtain ⟨kk, hkk⟩ : ∃ kk : Int, ((decB (L.set k2 (UInt8.ofNat y2.toNat))).2 : Int) = kk := ⟨_, rfl⟩
    rw [hQ, hkk] at he e1 e2 e3 pin
    rw [hQ] at hcl
    obtain ⟨R2, nn, ff, bb, ii, aa, ss⟩ := Q
    subst he
    unfold Flds.par at e1 e2 e3 pin ⊢
    unfold Par.v
    dsimp only at e1 e2 e3 pin hcl ⊢
    have al := (Below.refl w9.heap.size w9).alloc (Nat.le_refl _) (.cells #[.int .i64 kk, .int .i64 nn, .int .i64 ff, .int .i64 bb, .slice X' ii.length c', .int .i64 aa, .int .u64 ss] 61)
    have T10 := Lib.hid (T9.out.step al)
    have X10 := Lib.hid (heap_alloc_new w9 (.cells #[.int .i64 kk, .int .i64 nn, .int .i64 ff, .int .i64 bb, .slice X' ii.length c', .int .i64 aa, .int .u64 ss] 61))
    have EN := enc_good A _ _ (pin.below al) ((AA.out _ T10.out).glob (by decide)) e3
    rw [e1] at EN
    have ENH := Lib.hid EN
    have R10 := Lib.hid ((R8.out.below hb9).below al)
    have PIN := Lib.hid (pin.below al)
    have E2 := Lib.hid e2
    clear EN e1 e2 e3 pin al hb9 hcl hQ hkk ho hcv'
    go_wp2_with fail
    refine ENH.out.mono ?_
    rintro e w11 ⟨rfl, hb11⟩
    have T11 := Lib.hid (T10.out.step hb11)
    have hcb := (R10.out.below hb11).back (c := cg') (show ((ints L).set k2 y2).length = S.size by rw [List.length_set, ints_len, HSS.out.2])
    rw [ST.out] at hcb
    have SM := Lib.hid (psame_any _ ⟨kind, nonce, frm, base, ins, ack, sum, X, c⟩ w11 ((PIN.out.below hb11).2.2.2.2.2.2.2.2) (CA.out _ T11.out) (PIN.out.2.2.2.2.2.2.1))
    rw [E2.out] at SM
    obtain ⟨⟨r0, -⟩, ⟨r1, -⟩, ⟨r2, -⟩, ⟨r3, -⟩, ⟨r4, -⟩, ⟨r5, -⟩, ⟨r6, -⟩⟩ := cells7 ((hb11.block _ (Array.getElem?_eq_some_iff.1 X10.out).1).trans X10.out)
    obtain ⟨⟨p0, -⟩, ⟨p1, -⟩, ⟨p2, -⟩, ⟨p3, -⟩, ⟨p4, -⟩, ⟨p5, -⟩, ⟨p6, -⟩⟩ := cells7 T11.out.2
    clear hb11
    unfold Par.v at SM
    dsimp only at SM
    go_wp2_with fail
    refine SM.out.mono ?_
    rintro e w12 ⟨rfl, hb12⟩
    have T12 := Lib.hid (T11.out.step hb12)
    clear hb12
    go_wp2_with fail
    go_ret
    exact ⟨rfl, T12.out.1⟩

end Go.Proofs.YtgdbpicelnoacaaDoor
