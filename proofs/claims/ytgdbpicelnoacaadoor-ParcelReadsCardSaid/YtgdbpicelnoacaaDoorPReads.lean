/- This text proves ParcelReads over the loaded program: every bytes are the packet that the document says, or none. -/
import Derived.Test.YtgdbpicelnoacaaDoorAwake24
import Derived.Test.YtgdbpicelnoacaaDoorRGood3
import Derived.Test.YtgdbpicelnoacaaDoorREnc5
import Derived.Test.YtgdbpicelnoacaaDoorNumber
namespace Go.Proofs.YtgdbpicelnoacaaDoor
open Go.RowKit Go.WideShapes
set_option linter.unusedSimpArgs false

/-- The number of an error of bytes. -/
def faultN (l : List UInt8) : Nat := match decErr l with
  | none => 0
  | some 2 => 4
  | some 0 => 3
  | some _ => 5
theorem decErr_cases (l : List UInt8) : decErr l = none ∧ faultN l = 0 ∨ decErr l = some 2 ∧ faultN l = 4 ∨ decErr l = some 0 ∧ faultN l = 3 ∨ decErr l = some 4 ∧ faultN l = 5 := by
  unfold faultN
  unfold decErr
  split
  · exact .inr (.inl ⟨rfl, rfl⟩)
  · split
    · exact .inr (.inr (.inl ⟨rfl, rfl⟩))
    · split
      · exact .inr (.inr (.inr ⟨rfl, rfl⟩))
      · exact .inl ⟨rfl, rfl⟩
theorem ofNum_lt5 (i : Nat) (h1 : 1 ≤ i) (h2 : i ≤ 5) : ofNum i < 5 := by
  have h : i = 1 ∨ i = 2 ∨ i = 3 ∨ i = 4 ∨ i = 5 := by omega
  rcases h with rfl | rfl | rfl | rfl | rfl <;> decide
/-- What was read is a packet of numbers of their kinds. -/
theorem dec_in2 (l : List UInt8) (X : Option Addr) (c : Nat) (w : World) (hc : Cells w X (iv (decQ l).2.ins)) : ((decQ l).2.par ((decB l).2 : Int) X c).ok w := by
  have h : _ := body_in (decB l).1 ((decB l).2 : Int)
  have e : (decB l).1.body ((decB l).2 : Int) = decQ l := rfl
  rw [e] at h
  have hb := byte_le (Rdr.mk (decM l) false)
  have e2 : (Rdr.mk (decM l) false).byte = decB l := rfl
  rw [e2] at hb
  obtain ⟨h1, h2, h3, h4, h5, h6, h7⟩ := h
  exact ⟨by show In64 ((decB l).2 : Int); unfold In64; omega, h1, h2, h3, h4, h5, by show (decQ l).2.ins.length ≤ 1000000; omega, h7, hc⟩
theorem list_sB (s : ByteArray) (L : List UInt8) (h : s.data.toList = L) : strB L = s := by
  apply ByteArray.ext
  apply Array.ext'
  rw [strB_list, h]

set_option maxRecDepth 100000 in
set_option maxHeartbeats 3200000 in
theorem fault_any (s : ByteArray) (w : World) (hs : s.size ≤ 100000) : Calls Tryd.prog 76 #[.string s] w fun e w' => e = .returned (.int .i64 (faultN s.data.toList : Nat)) ∧ Below w.heap.size w w' := by
  have hlen : s.data.toList.length = s.size := rfl
  have q0 : (s.size : Int) ≤ 100000 := by omega
  by_cases h1 : 512 < s.size
  · have E : Hid (faultN s.data.toList = 4) := Lib.hid (by unfold faultN decErr; rw [hlen, if_pos h1]; rfl)
    have q : (512 : Int) < (s.size : Int) := by omega
    clear hs h1 hlen
    go_enter Tryd.func76, Tryd.ntmps76
    go_wp2
    go_ret
    exact ⟨by rw [E.out]; rfl, Below.refl _ _⟩
  by_cases h2 : s.size < 6
  · have E : Hid (faultN s.data.toList = 3) := Lib.hid (by unfold faultN decErr; rw [hlen, if_neg h1, if_pos (.inl h2)]; rfl)
    have q : (s.size : Int) < 6 := by omega
    clear hs h1 h2 hlen
    go_enter Tryd.func76, Tryd.ntmps76
    go_wp2
    go_ret
    exact ⟨by rw [E.out]; rfl, Below.refl _ _⟩
  have qa : (s.size : Int) ≤ 512 := by omega
  have qb : (6 : Int) ≤ (s.size : Int) := by omega
  have q1 : 0 < s.size := by omega
  have q6 : (0 : Int) < (s.size : Int) := by omega
  have hb : s.data.toList.getD 0 0 = s[0]'q1 := by rw [List.getD_eq_getElem?_getD, List.getElem?_eq_getElem (by rw [hlen]; exact q1)]; rfl
  by_cases h3 : s.data.toList.getD 0 0 = 80
  case neg =>
    have E : Hid (faultN s.data.toList = 3) := Lib.hid (by unfold faultN decErr; rw [hlen, if_neg h1, if_pos (.inr h3)]; rfl)
    have q5 : (((s[0]'q1).toNat : Int) != 80) = true := by
      rw [hb] at h3
      simp only [bne_iff_ne, ne_eq]
      intro e
      have h80 : (80 : UInt8).toNat = 80 := rfl
      exact h3 (UInt8.toNat_inj.1 (by omega))
    clear hs h1 h2 h3 hb hlen
    go_enter Tryd.func76, Tryd.ntmps76
    go_wp2
    go_ret
    exact ⟨by rw [E.out]; rfl, Below.refl _ _⟩
  have q5 : (((s[0]'q1).toNat : Int) != 80) = false := by
    rw [hb] at h3
    rw [h3]; rfl
  obtain ⟨m, hmm⟩ : ∃ m, s.size - 4 = m := ⟨_, rfl⟩
  have q7 : (s.size : Int) - 4 = (m : Int) := by omega
  have q8 : (m : Int) ≤ (s.size : Int) := by omega
  have q9 : (0 : Int) ≤ (m : Int) := by omega
  have SE := Lib.hid (sealed_any (s.extract 0 m) w (by simp only [ByteArray.size_extract]; omega))
  rw [extract_take] at SE
  have n2 : ¬ (s.data.toList.length < 6 ∨ s.data.toList.getD 0 0 ≠ 80) := by rw [hlen]; rintro (h | h); exact h2 h; exact h h3
  have EX : (s.extract 0 m ++ strB (sum4 (s.data.toList.take m))).data.toList = s.data.toList.take m ++ sum4 (s.data.toList.take m) := by
    rw [show (s.extract 0 m ++ strB (sum4 (s.data.toList.take m))).data.toList = (s.extract 0 m).data.toList ++ (strB (sum4 (s.data.toList.take m))).data.toList by simp, extract_take, strB_list]
  by_cases h4 : sum4 (s.data.toList.take m) = s.data.toList.drop m
  · have E : Hid (faultN s.data.toList = 0) := Lib.hid (by unfold faultN decErr; rw [if_neg (by rw [hlen]; exact h1), if_neg n2, hlen, hmm, if_neg (by simp [h4])]; first | rfl | done)
    have qn : ((s.extract 0 m ++ strB (sum4 (s.data.toList.take m))).toList == s.toList) = true := by
      rw [bytes_eq, decide_eq_true_eq]
      apply ByteArray.ext
      apply Array.ext'
      rw [EX, h4, List.take_append_drop]
    clear hs h1 h2 h3 h4 hb hlen hmm n2 EX
    go_enter Tryd.func76, Tryd.ntmps76
    go_wp2_with fail
    refine SE.out.mono ?_
    rintro e w1 ⟨rfl, hb1⟩
    have B1 := Lib.hid hb1
    clear hb1
    go_wp2_with fail
    go_ret
    exact ⟨by rw [E.out]; rfl, B1.out⟩
  · have E : Hid (faultN s.data.toList = 5) := Lib.hid (by unfold faultN decErr; rw [if_neg (by rw [hlen]; exact h1), if_neg n2, hlen, hmm, if_pos h4]; rfl)
    have qn : ((s.extract 0 m ++ strB (sum4 (s.data.toList.take m))).toList == s.toList) = false := by
      rw [bytes_eq, decide_eq_false_iff_not]
      intro h
      have h5 := congrArg (fun b : ByteArray => b.data.toList) h
      rw [EX] at h5
      have h6 := congrArg (List.drop m) h5
      have hl : (s.data.toList.take m).length = m := by rw [List.length_take, hlen]; omega
      rw [List.drop_append_of_le_length (by omega), List.drop_of_length_le (by omega)] at h6
      exact h4 h6
    clear hs h1 h2 h3 h4 hb hlen hmm n2 EX
    go_enter Tryd.func76, Tryd.ntmps76
    go_wp2_with fail
    refine SE.out.mono ?_
    rintro e w1 ⟨rfl, hb1⟩
    have B1 := Lib.hid hb1
    clear hb1
    go_wp2_with fail
    go_ret
    exact ⟨by rw [E.out]; rfl, B1.out⟩

set_option maxRecDepth 100000 in
set_option maxHeartbeats 6400000 in
/-- reads. -/
theorem preads1 (A : Nat → Addr) (s : ByteArray) (w : World) (hA : Apart 5 w A) (hs : s.size ≤ 10000) : Calls Tryd.prog 48 #[.string s] w fun e w' => e = .returned (.bool true) ∧ Below w.heap.size w w' := by
  have D := Lib.hid (dec_any A s w hA (by omega))
  have FT := Lib.hid (fun w' => fault_any s w' (by omega))
  have AA := Lib.hid (fun w' (h : Below w.heap.size w w') => hA.below h)
  have RZ := Lib.hid (fun w' => rsame_any p0 p0 w' (Cells.nil _ _) (Cells.nil _ _) (by decide))
  have e0 : p0.same p0 = true := by decide
  rw [e0] at RZ
  unfold Par.v p0 at RZ
  dsimp only at RZ
  have EN := Lib.hid (fun (h : decOk s.data.toList = true) => enc_dec h)
  have SB := Lib.hid (list_sB s _ rfl)
  have IN := Lib.hid (fun X c w' h => dec_in2 s.data.toList X c w' h)
  have GP := Lib.hid (fun (X : Option Addr) (c : Nat) (h : decOk s.data.toList = true) => show ((decQ s.data.toList).2.par ((decB s.data.toList).2 : Int) X c).good = true by
    unfold decOk at h
    rw [Bool.and_eq_true, Bool.and_eq_true] at h
    rw [good_par]
    exact h.2.2)
  have EP := Lib.hid (fun (X : Option Addr) (c : Nat) (h : decOk s.data.toList = true) => show encP ((decQ s.data.toList).2.par ((decB s.data.toList).2 : Int) X c) = s.data.toList from enc_dec h)
  have DC := decErr_cases s.data.toList
  obtain ⟨L, hL⟩ : ∃ L, s.data.toList = L := ⟨_, rfl⟩
  rw [hL] at D FT EN SB IN GP EP DC
  clear hA hs hL
  go_enter Tryd.func48, Tryd.ntmps48
  go_wp2_with fail
  refine D.out.mono ?_
  rintro e w1 ⟨hb1, h⟩
  have B1 := Lib.hid hb1
  rcases h with ⟨ho, X', c', he, hcl, -⟩ | ⟨ho, v, rfl, hv⟩
  case inr =>
    unfold ZV
    have al := (Below.refl w1.heap.size w1).alloc (Nat.le_refl _) (.cells #[.int .i64 0, .int .i64 0, .int .i64 0, .int .i64 0, .slice none 0 0, .int .i64 0, .int .u64 0] 61)
    have B2 := Lib.hid (B1.out.trans (al.mono B1.out.size))
    have X2 := Lib.hid (heap_alloc_new w1 (.cells #[.int .i64 0, .int .i64 0, .int .i64 0, .int .i64 0, .slice none 0 0, .int .i64 0, .int .u64 0] 61))
    have hv2 := hv.below al
    rcases DC with ⟨d, f⟩ | ⟨d, f⟩ | ⟨d, f⟩ | ⟨d, f⟩
    · rw [d] at hv2
      have IS := Lib.hid (fun w' (hb : Below (w1.alloc (.cells #[.int .i64 0, .int .i64 0, .int .i64 0, .int .i64 0, .slice none 0 0, .int .i64 0, .int .u64 0] 61)).heap.size (w1.alloc (.cells #[.int .i64 0, .int .i64 0, .int .i64 0, .int .i64 0, .slice none 0 0, .int .i64 0, .int .u64 0] 61)) w') => (hv2.below hb).is)
      obtain ⟨bv, Cv, rfl, -, -⟩ := hv2
      rw [f] at FT
      clear al hb1 hv
      go_wp2_with fail
      refine (FT.out _).mono ?_
      rintro e w3 ⟨rfl, hb3⟩
      have B3 := Lib.hid (B2.out.trans (hb3.mono B2.out.size))
      have g0 := ((AA.out _ B3.out).1 0 (by decide)).1
      have x3 := (hb3.block _ (Array.getElem?_eq_some_iff.1 X2.out).1).trans X2.out
      obtain ⟨⟨p0, -⟩, ⟨p1, -⟩, ⟨p2, -⟩, ⟨p3, -⟩, ⟨p4, -⟩, ⟨p5, -⟩, ⟨p6, -⟩⟩ := cells7 x3
      have IS3 := Lib.hid (IS.out _ hb3)
      clear hb3 x3
      go_wp2_with fail
      refine IS3.out.mono ?_
      rintro e w4 ⟨rfl, rfl⟩
      go_wp2_with fail
      refine (RZ.out _).mono ?_
      rintro e w5 ⟨rfl, hb5⟩
      have B5 := Lib.hid (B3.out.trans (hb5.mono B3.out.size))
      clear hb5
      go_wp2_with fail
      go_ret
      exact ⟨rfl, B5.out⟩
    · rw [d] at hv2
      have NB := Lib.hid (fun w' (hb : Below (w1.alloc (.cells #[.int .i64 0, .int .i64 0, .int .i64 0, .int .i64 0, .slice none 0 0, .int .i64 0, .int .u64 0] 61)).heap.size (w1.alloc (.cells #[.int .i64 0, .int .i64 0, .int .i64 0, .int .i64 0, .slice none 0 0, .int .i64 0, .int .u64 0] 61)) w') => number_wraps 4 5 A v w' (by decide) ((AA.out _ (B2.out.trans (hb.mono B2.out.size)))) (fun i h1 h2 => ofNum_lt5 i h1 (by omega)) (hv2.below hb))
      obtain ⟨bv, Cv, rfl, -, -⟩ := hv2
      rw [f] at FT
      clear al hb1 hv
      go_wp2_with fail
      refine (FT.out _).mono ?_
      rintro e w3 ⟨rfl, hb3⟩
      have B3 := Lib.hid (B2.out.trans (hb3.mono B2.out.size))
      have x3 := (hb3.block _ (Array.getElem?_eq_some_iff.1 X2.out).1).trans X2.out
      obtain ⟨⟨p0, -⟩, ⟨p1, -⟩, ⟨p2, -⟩, ⟨p3, -⟩, ⟨p4, -⟩, ⟨p5, -⟩, ⟨p6, -⟩⟩ := cells7 x3
      have NB3 := Lib.hid (NB.out _ hb3)
      clear hb3 x3
      go_wp2_with fail
      refine NB3.out.mono ?_
      rintro e w4 ⟨rfl, rfl⟩
      go_wp2_with fail
      refine (RZ.out _).mono ?_
      rintro e w5 ⟨rfl, hb5⟩
      have B5 := Lib.hid (B3.out.trans (hb5.mono B3.out.size))
      clear hb5
      go_wp2_with fail
      go_ret
      exact ⟨rfl, B5.out⟩
    · rw [d] at hv2
      have NB := Lib.hid (fun w' (hb : Below (w1.alloc (.cells #[.int .i64 0, .int .i64 0, .int .i64 0, .int .i64 0, .slice none 0 0, .int .i64 0, .int .u64 0] 61)).heap.size (w1.alloc (.cells #[.int .i64 0, .int .i64 0, .int .i64 0, .int .i64 0, .slice none 0 0, .int .i64 0, .int .u64 0] 61)) w') => number_wraps 3 5 A v w' (by decide) ((AA.out _ (B2.out.trans (hb.mono B2.out.size)))) (fun i h1 h2 => ofNum_lt5 i h1 (by omega)) (hv2.below hb))
      obtain ⟨bv, Cv, rfl, -, -⟩ := hv2
      rw [f] at FT
      clear al hb1 hv
      go_wp2_with fail
      refine (FT.out _).mono ?_
      rintro e w3 ⟨rfl, hb3⟩
      have B3 := Lib.hid (B2.out.trans (hb3.mono B2.out.size))
      have x3 := (hb3.block _ (Array.getElem?_eq_some_iff.1 X2.out).1).trans X2.out
      obtain ⟨⟨p0, -⟩, ⟨p1, -⟩, ⟨p2, -⟩, ⟨p3, -⟩, ⟨p4, -⟩, ⟨p5, -⟩, ⟨p6, -⟩⟩ := cells7 x3
      have NB3 := Lib.hid (NB.out _ hb3)
      clear hb3 x3
      go_wp2_with fail
      refine NB3.out.mono ?_
      rintro e w4 ⟨rfl, rfl⟩
      go_wp2_with fail
      refine (RZ.out _).mono ?_
      rintro e w5 ⟨rfl, hb5⟩
      have B5 := Lib.hid (B3.out.trans (hb5.mono B3.out.size))
      clear hb5
      go_wp2_with fail
      go_ret
      exact ⟨rfl, B5.out⟩
    · rw [d] at hv2
      have NB := Lib.hid (fun w' (hb : Below (w1.alloc (.cells #[.int .i64 0, .int .i64 0, .int .i64 0, .int .i64 0, .slice none 0 0, .int .i64 0, .int .u64 0] 61)).heap.size (w1.alloc (.cells #[.int .i64 0, .int .i64 0, .int .i64 0, .int .i64 0, .slice none 0 0, .int .i64 0, .int .u64 0] 61)) w') => number_wraps 5 5 A v w' (by decide) ((AA.out _ (B2.out.trans (hb.mono B2.out.size)))) (fun i h1 h2 => ofNum_lt5 i h1 (by omega)) (hv2.below hb))
      obtain ⟨bv, Cv, rfl, -, -⟩ := hv2
      rw [f] at FT
      clear al hb1 hv
      go_wp2_with fail
      refine (FT.out _).mono ?_
      rintro e w3 ⟨rfl, hb3⟩
      have B3 := Lib.hid (B2.out.trans (hb3.mono B2.out.size))
      have x3 := (hb3.block _ (Array.getElem?_eq_some_iff.1 X2.out).1).trans X2.out
      obtain ⟨⟨p0, -⟩, ⟨p1, -⟩, ⟨p2, -⟩, ⟨p3, -⟩, ⟨p4, -⟩, ⟨p5, -⟩, ⟨p6, -⟩⟩ := cells7 x3
      have NB3 := Lib.hid (NB.out _ hb3)
      clear hb3 x3
      go_wp2_with fail
      refine NB3.out.mono ?_
      rintro e w4 ⟨rfl, rfl⟩
      go_wp2_with fail
      refine (RZ.out _).mono ?_
      rintro e w5 ⟨rfl, hb5⟩
      have B5 := Lib.hid (B3.out.trans (hb5.mono B3.out.size))
      clear hb5
      go_wp2_with fail
      go_ret
      exact ⟨rfl, B5.out⟩
  have f0 : faultN L = 0 := by
    have hd := ho
    unfold decOk at hd
    rw [Bool.and_eq_true] at hd
    have hn : decErr L = none := by simpa using hd.1
    unfold faultN
    rw [hn]
  rw [f0] at FT
  have pin := IN.out X' c' w1 hcl
  have e1 := EP.out X' c' ho
  have e3 := GP.out X' c' ho
  obtain ⟨Q, hQ⟩ : ∃ Q, decQ L = Q := ⟨_, rfl⟩
  obtain ⟨kk, hkk⟩ : ∃ kk : Int, ((decB L).2 : Int) = kk := ⟨_, rfl⟩
  rw [hQ, hkk] at he e1 e3 pin
  obtain ⟨R2, nn, ff, bb, ii, aa, ss⟩ := Q
  subst he
  unfold Flds.par at e1 e3 pin ⊢
  unfold Par.v
  dsimp only at e1 e3 pin ⊢
  have al := (Below.refl w1.heap.size w1).alloc (Nat.le_refl _) (.cells #[.int .i64 kk, .int .i64 nn, .int .i64 ff, .int .i64 bb, .slice X' ii.length c', .int .i64 aa, .int .u64 ss] 61)
  have B2 := Lib.hid (B1.out.trans (al.mono B1.out.size))
  have X2 := Lib.hid (heap_alloc_new w1 (.cells #[.int .i64 kk, .int .i64 nn, .int .i64 ff, .int .i64 bb, .slice X' ii.length c', .int .i64 aa, .int .u64 ss] 61))
  have GD := Lib.hid (fun w' (h : Below (w1.alloc (.cells #[.int .i64 kk, .int .i64 nn, .int .i64 ff, .int .i64 bb, .slice X' ii.length c', .int .i64 aa, .int .u64 ss] 61)).heap.size (w1.alloc (.cells #[.int .i64 kk, .int .i64 nn, .int .i64 ff, .int .i64 bb, .slice X' ii.length c', .int .i64 aa, .int .u64 ss] 61)) w') => rgood_any ⟨kk, nn, ff, bb, ii, aa, ss, X', c'⟩ w' (((pin.below al).below h).2.2.2.2.2.2.2.2) pin.2.2.2.2.2.2.1)
  have ENC := Lib.hid (fun w' (h : Below (w1.alloc (.cells #[.int .i64 kk, .int .i64 nn, .int .i64 ff, .int .i64 bb, .slice X' ii.length c', .int .i64 aa, .int .u64 ss] 61)).heap.size (w1.alloc (.cells #[.int .i64 kk, .int .i64 nn, .int .i64 ff, .int .i64 bb, .slice X' ii.length c', .int .i64 aa, .int .u64 ss] 61)) w') => renc_any ⟨kk, nn, ff, bb, ii, aa, ss, X', c'⟩ w' (((pin.below al).below h).2.2.2.2.2.2.2.2) e3)
  rw [e3] at GD
  rw [e1, SB.out] at ENC
  unfold Par.v at GD ENC
  dsimp only at GD ENC
  clear al hb1 e1 e3 pin hcl hQ hkk ho f0 DC
  go_wp2_with fail
  refine (FT.out _).mono ?_
  rintro e w3 ⟨rfl, hb3⟩
  have B3 := Lib.hid (B2.out.trans (hb3.mono B2.out.size))
  have x3 := (hb3.block _ (Array.getElem?_eq_some_iff.1 X2.out).1).trans X2.out
  obtain ⟨⟨p0, -⟩, ⟨p1, -⟩, ⟨p2, -⟩, ⟨p3, -⟩, ⟨p4, -⟩, ⟨p5, -⟩, ⟨p6, -⟩⟩ := cells7 x3
  have H3 := Lib.hid hb3
  have X3 := Lib.hid x3
  clear hb3 x3
  go_wp2_with fail
  refine (GD.out _ H3.out).mono ?_
  rintro e w4 ⟨rfl, hb4⟩
  have B4 := Lib.hid (B3.out.trans (hb4.mono B3.out.size))
  have x4 := (hb4.block _ (Array.getElem?_eq_some_iff.1 X3.out).1).trans X3.out
  clear p0 p1 p2 p3 p4 p5 p6
  obtain ⟨⟨p0, -⟩, ⟨p1, -⟩, ⟨p2, -⟩, ⟨p3, -⟩, ⟨p4, -⟩, ⟨p5, -⟩, ⟨p6, -⟩⟩ := cells7 x4
  have H4 := Lib.hid (H3.out.trans (hb4.mono H3.out.size))
  clear hb4 x4
  go_wp2_with fail
  refine (ENC.out _ H4.out).mono ?_
  rintro e w5 ⟨rfl, hb5⟩
  have B5 := Lib.hid (B4.out.trans (hb5.mono B4.out.size))
  clear hb5
  go_wp2_with fail
  go_ret
  exact ⟨rfl, B5.out⟩

set_option maxRecDepth 100000 in
theorem preads_any (W : World) (A : Nat → Addr) (hA : Apart 5 W A) (s : ByteArray) (_hs : s.size ≤ 140737488351232) : Calls Tryd.prog 13 #[.string s] W fun e W' => e = .returned (.bool true) ∧ Below W.heap.size W W' := by
  have AW := Lib.hid (awake24_any A W hA)
  have AA := Lib.hid (fun w' (h : Below W.heap.size W w') => hA.below h)
  clear hA
  by_cases h1 : 4096 < s.size
  · have q : (4096 : Int) < (s.size : Int) := by omega
    clear h1
    go_enter Tryd.func13, Tryd.ntmps13
    go_wp2_with fail
    refine AW.out.mono ?_
    rintro e w1 ⟨rfl, hb1⟩
    have B1 := Lib.hid hb1
    clear hb1
    go_wp2_with fail
    go_ret
    exact ⟨rfl, B1.out⟩
  have q : (s.size : Int) ≤ 4096 := by omega
  have R1 := Lib.hid (fun w' (h : Below W.heap.size W w') => preads1 A s w' (AA.out _ h) (by omega))
  have SE := Lib.hid (fun w' => sealed_any s w' (by omega))
  have R2 := Lib.hid (fun w' (h : Below W.heap.size W w') => preads1 A (s ++ strB (sum4 s.data.toList)) w' (AA.out _ h) (by rw [ByteArray.size_append, strB_size, sum4_len]; omega))
  clear h1
  go_enter Tryd.func13, Tryd.ntmps13
  go_wp2_with fail
  refine AW.out.mono ?_
  rintro e w1 ⟨rfl, hb1⟩
  have B1 := Lib.hid hb1
  clear hb1
  go_wp2_with fail
  refine (R1.out _ B1.out).mono ?_
  rintro e w2 ⟨rfl, hb2⟩
  have B2 := Lib.hid (B1.out.trans (hb2.mono B1.out.size))
  clear hb2
  go_wp2_with fail
  refine (SE.out _).mono ?_
  rintro e w3 ⟨rfl, hb3⟩
  have B3 := Lib.hid (B2.out.trans (hb3.mono B2.out.size))
  clear hb3
  go_wp2_with fail
  refine (R2.out _ B3.out).mono ?_
  rintro e w4 ⟨rfl, hb4⟩
  have B4 := Lib.hid (B3.out.trans (hb4.mono B3.out.size))
  clear hb4
  go_wp2_with fail
  go_ret
  exact ⟨rfl, B4.out⟩

end Go.Proofs.YtgdbpicelnoacaaDoor
