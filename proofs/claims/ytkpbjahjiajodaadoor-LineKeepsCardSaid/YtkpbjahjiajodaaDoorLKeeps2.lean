/- This text walks the law LineKeeps. -/
import Derived.Test.YtkpbjahjiajodaaDoorLKeeps
import Derived.Deep.WholeRow
namespace Go.Proofs.YtkpbjahjiajodaaDoor
open Go.RowKit Go.WideShapes

def Z45 : Array Value := (thereL []).toArray
theorem zero45 (w : World) : (zeroValue 45).run Tryd.prog w = .ok (.agg Z45) w := by kernel_rfl
theorem info45 : (Tryd.prog.info? 45).map (·.size) = some Z45.size := by kernel_rfl
theorem store45 (w : World) : ∃ W', (storeCells ⟨w.heap.size, 0, none⟩ Z45.toList).run Tryd.prog (w.alloc (.cells Z45 45)) = .ok () W' ∧ W'.heap[w.heap.size]? = some (.cells (thereL []).toArray 45 (0, 0)) ∧ Below w.heap.size w W' :=
  ⟨_, run_storeCells_new w 45 Z45 Z45 info45 rfl (by decide +kernel), heap_alloc_new w _, (Below.refl _ _).alloc (Nat.le_refl _) _⟩

theorem tx_back (v : World) (g : Nat) (hg : g = v.heap.size) (m : Nat) (hm : m < 256) :
    (convert 49 9 (.slice (some ⟨g, 0, none⟩) 2 2)).run Tryd.prog (v.alloc (.cells #[.int .u8 (m : Int), .int .u8 ((m : Int) / 256)] 5)) = .ok (.string (tx m)) (v.alloc (.cells #[.int .u8 (m : Int), .int .u8 ((m : Int) / 256)] 5)) := by
  subst hg
  refine run_convert_bytes_back _ 49 9 5 _ 2 [UInt8.ofNat m, UInt8.ofNat (m / 256)] Tryd.underlying49 Tryd.underlying5 Tryd.underlying9 (fun j hj => ?_)
  rw [add_plain, World.cell?_alloc_new]
  match j, hj with
  | 0, _ =>
    show some (Value.int .u8 (m : Int)) = some (Value.int .u8 ((UInt8.ofNat m).toNat : Int))
    rw [UInt8.toNat_ofNat']
    congr 2; omega
  | 1, _ =>
    show some (Value.int .u8 ((m : Int) / 256)) = some (Value.int .u8 ((UInt8.ofNat (m / 256)).toNat : Int))
    rw [UInt8.toNat_ofNat']
    congr 2; omega

theorem tx_first {S : ByteArray} {m : Nat} (h : tx m = S) (hm : m < 256) (h0 : 0 < S.size) : wrap64 ((S[0]'h0).toNat : Int) = (m : Int) := by
  subst h
  have e : (tx m)[0]'h0 = UInt8.ofNat m := rfl
  rw [e, UInt8.toNat_ofNat']
  unfold wrap64
  omega

/-- The act of a round, in its own block. -/
def ActB (w : World) (b : Nat) (kd xi : Int) (xs : ByteArray) (xa : Int) (xb : UInt8) : Prop := w.heap[b]? = some (.cells #[.int .i64 kd, .int .i64 xi, .string xs, .int .i64 xa, .int .u8 (xb.toNat : Int)] 47 (0, 0))
theorem ActB.frame {w w' : World} {b : Nat} {kd xi : Int} {xs : ByteArray} {xa : Int} {xb : UInt8} (h : ActB w b kd xi xs xa xb) (hf : FrameT w w') : ActB w' b kd xi xs xa xb :=
  (hf b (Array.getElem?_eq_some_iff.1 h).1 (fun D hd => by have := h.symm.trans hd; simp at this) (fun D hd => by have := h.symm.trans hd; simp at this)).trans h
theorem ActB.cell {w : World} {b : Nat} {kd xi : Int} {xs : ByteArray} {xa : Int} {xb : UInt8} (h : ActB w b kd xi xs xa xb) : w.cell? ⟨b, 1, none⟩ = some (.int .i64 xi) := by
  simp [World.cell?, show w.heap[b]? = _ from h]

/-- What a round leaves. -/
def Round (w0 : World) (lb tb k : Nat) (w : World) (s6 : Value) : Prop := ∃ (L' : Lin) (next' : Nat), s6 = .int .i64 (next' : Nat) ∧ KI L' next' (k + 1) ∧ LI w0 lb L' w ∧ There w0 w tb L'.ts

set_option maxRecDepth 100000 in
set_option maxHeartbeats 8000000 in
theorem keeps_walk (l : List ActE) (X : Option Addr) (c : Nat) (w : World) (A : Nat → Addr) (hG : GlobL w A) (hA : Acts w X l) (hlm0 : l.length ≤ maxLen) :
    Calls Tryd.prog 6 #[.slice X l.length c] w fun e w' => e = .returned (.bool true) ∧ Below w.heap.size w w' := by
  obtain ⟨len, hlen⟩ : ∃ x, l.length = x := ⟨_, rfl⟩
  have hlm := hlm0
  simp only [maxLen] at hlm
  rw [hlen] at hlm
  have LEN := Lib.hid hlen
  have GG := Lib.hid hG
  have AA := Lib.hid hA
  rw [hlen]
  clear hlen hG hA hlm0
  go_enter Tryd.func6, Tryd.ntmps6
  go_wp2_with fail
  refine (lawake_any _ A GG.out).mono ?_
  rintro e w1 ⟨rfl, hB1⟩
  have B1 := Lib.hid hB1
  clear hB1
  go_wp2_with fail
  refine (li_new 64 w w1 B1.out (by decide) (by decide)).mono ?_
  rintro e w2 ⟨lb, rfl, hI, -, -⟩
  have I2 := Lib.hid hI
  obtain ⟨w3, hst3, hT3, hB3⟩ := store45 w2
  have z45 := zero45
  have T3 : Hid (There w w3 w2.heap.size []) := Lib.hid ⟨I2.out.out.size, hT3⟩
  have I3 := Lib.hid (I2.out.below hB3)
  obtain ⟨tb, htb⟩ : ∃ tb, tb = w2.heap.size := ⟨_, rfl⟩
  have HTB := Lib.hid htb
  clear hI hT3 hB3 htb
  go_wp2_with fail
  rw [← HTB.out]
  rw [← HTB.out] at T3
  clear HTB hst3 z45
  go_loopw [6, 7] (fun nv i wr => ∃ k : Nat, k ≤ len ∧ k ≤ 200 ∧ i = .int .i64 k ∧ ∃ (L : Lin) (next : Nat), nv = .int .i64 next ∧ KI L next k ∧ LI w lb L wr ∧ There w wr tb L.ts) (fun _ i _ => len - (intOf i).toNat)
  case atStart => exact ⟨0, Nat.zero_le _, by omega, rfl, _, 0, rfl, KI.new, I3.out, T3.out⟩
  case round =>
    obtain ⟨k, hk, hk200, rfl, L, next, rfl, hK, hI, hT⟩ := hrel
    have II := Lib.hid hI
    have KK := Lib.hid hK
    have TT := Lib.hid hT
    clear hI hK hT
    by_cases hlt : k < len ∧ k < 200
    · obtain ⟨hlt, hlt2⟩ := hlt
      have hi1 : (0 : Int) ≤ (k : Int) := by omega
      have hi2 : (k : Int) < (len : Int) := by omega
      have hi3 : (k : Int) < 200 := by omega
      obtain ⟨x, hx⟩ : ∃ x, l[k]? = some x := ⟨l[k]'(by rw [LEN.out]; omega), by simp [LEN.out, hlt]⟩
      obtain ⟨ab, ao, hAe, d0, d1, d2, d3, d4⟩ := (AA.out.below II.out.out) k x hx
      have OK := Lib.hid (KK.out.1.ok (by omega))
      obtain ⟨kd, xi, xs, xa, xb⟩ := x
      simp only at d0 d1 d2 d3 d4
      clear hx
      subst hAe
      go_upto_block 2 with (fail)
      have IA : ∀ o o', LI w lb L ((wr.alloc o).alloc o') := fun o o' => (II.out.below ((Below.refl _ _).alloc (Nat.le_refl _) o)).below ((Below.refl _ _).alloc (Nat.le_refl _) o')
      have TA : ∀ o o', There w ((wr.alloc o).alloc o') tb L.ts := fun o o' => (TT.out.frame (FrameT.of_below ((Below.refl _ _).alloc (Nat.le_refl _) o))).frame (FrameT.of_below ((Below.refl _ _).alloc (Nat.le_refl _) o'))
      have IA1 : ∀ o, LI w lb L (wr.alloc o) := fun o => II.out.below ((Below.refl _ _).alloc (Nat.le_refl _) o)
      have TA1 : ∀ o, There w (wr.alloc o) tb L.ts := fun o => TT.out.frame (FrameT.of_below ((Below.refl _ _).alloc (Nat.le_refl _) o))
      have IH := Lib.hid IA
      have TH := Lib.hid TA
      have IH1 := Lib.hid IA1
      have TH1 := Lib.hid TA1
      have hnx : next ≤ 200 := by have := KK.out.2.1; omega
      have hnx2 : (next : Int) < 201 := by omega
      have hnx3 : (0 : Int) ≤ (next : Int) := by omega
      clear IA TA IA1 TA1
      go_cut [6] (fun s6 wx => Round w lb tb k wx s6)
      case first =>
        by_cases k1 : kd = 1
        · subst k1
          have hcv := tx_back (wr.alloc (.cells #[.int .i64 1, .int .i64 xi, .string xs, .int .i64 xa, .int .u8 (xb.toNat : Int)] 47)) (wr.heap.size + 1) (by simp) next (by omega)
          by_cases hf : L.most ≤ L.ts.length
          · obtain ⟨e1, e2⟩ := KK.out.full hf
            have E1 := Lib.hid e1
            have E2 := Lib.hid e2
            clear e1 e2 hf
            go_wp2_with fail
            refine (li_send (IH.out _ _) OK.out GG.out (tx next) (by rw [tx_size]; decide)).mono ?_
            rw [E1.out]
            rintro e w5 hO
            obtain ⟨b5, rfl, hw5, hI, hF⟩ := hO.no
            have F : Hid (Round w lb tb k w5 (.int .i64 next)) := Lib.hid ⟨_, _, rfl, E2.out, hI, (TH.out _ _).frame hF⟩
            clear hO hw5 hI hF
            go_wp2_with fail
            go_meet
            case rel => exact F.out
          · obtain ⟨L', e1, e2, e3⟩ := KK.out.push hf
            have E1 := Lib.hid e1
            have E2 := Lib.hid e2
            have E3 := Lib.hid e3
            clear e1 e2 e3 hf
            go_wp2_with fail
            refine (li_send (IH.out _ _) OK.out GG.out (tx next) (by rw [tx_size]; decide)).mono ?_
            rw [E1.out]
            rintro e w5 hO
            obtain ⟨rfl, hI, hF⟩ := hO.yes
            have T5 := Lib.hid ((TH.out _ _).frame hF)
            obtain ⟨cn, fn⟩ := T5.out.cell next (by omega)
            have hc64 : (cnt L.ts next : Int) ≤ 64 := by have := cnt_le L.ts next; have := KK.out.1.2.2.2.1; omega
            have hc0 : (0 : Int) ≤ (cnt L.ts next : Int) := by omega
            have F : Hid (Round w lb tb k (w5.setCell ⟨tb, next, none⟩ (.int .i64 ((cnt L.ts next : Int) + 1))) (.int .i64 ((next : Int) + 1))) := Lib.hid
              ⟨L', next + 1, by go_num, E2.out, hI.there T5.out next _, T5.out.set next _ (by omega) (by rw [E3.out, cnt_push _ _ _ (by omega) (by omega), if_pos rfl]; omega) (fun m hm hmn => by rw [E3.out, cnt_push _ _ _ (by omega) (by omega), if_neg hmn])⟩
            clear hO hI hF
            go_wp2_with fail
            go_meet
            case rel => exact F.out
        have q1 : (kd == 1) = false := by simpa using k1
        by_cases k4 : kd = 4
        · subst k4
          clear k1 q1
          go_wp2_with fail
          refine (li_list (IH1.out _) OK.out).mono ?_
          obtain ⟨t, ht⟩ : ∃ t, L.ts.length = t := ⟨_, rfl⟩
          have HT := Lib.hid ht
          rw [ht]
          rintro e w5 ⟨Y, cy, rfl, hC, hI, hB⟩
          have I5 := Lib.hid hI
          have C5 := Lib.hid hC
          have T5 := Lib.hid ((TH1.out _).frame (FrameT.of_below hB))
          have AB : Hid (ActB w5 wr.heap.size 4 xi xs xa xb) := Lib.hid (ActB.frame (heap_alloc_new wr _) (FrameT.of_below hB))
          have hd := AB.out.cell
          have ht64 : (t : Int) ≤ 64 := by have := KK.out.1.2.2.2.1; omega
          clear hI hC hB ht
          have FR : Hid (Round w lb tb k w5 (.int .i64 next)) := Lib.hid ⟨L, next, rfl, KK.out.mono, I5.out, T5.out⟩
          by_cases hx1 : xi < 0
          · have q4 : decide (0 ≤ xi) = false := by simp; omega
            go_wp2_with fail
            go_meet
            case rel => exact FR.out
          by_cases hx2 : (t : Int) ≤ xi
          · have q4 : decide (0 ≤ xi) = true := by simp; omega
            have q5 : decide (xi < (t : Int)) = false := by simp; omega
            clear hx1
            go_wp2_with fail
            go_meet
            case rel => exact FR.out
          obtain ⟨i, rfl⟩ : ∃ i : Nat, xi = i := ⟨xi.toNat, by omega⟩
          have hil : i < L.ts.length := by rw [HT.out]; omega
          have q4 : (0 : Int) ≤ (i : Int) := by omega
          have q5 : (i : Int) < (t : Int) := by omega
          obtain ⟨m, hm, hi⟩ := KK.out.at hil
          have cs := C5.out.cells i (.string (tx m)) (by simp [nows, hi])
          obtain ⟨yb, yo, rfl, n0⟩ := cs
          clear hx1 hx2
          by_cases hf : L.most ≤ L.ts.length
          · obtain ⟨e1, e2⟩ := KK.out.twiceFull hil hf
            have E1 := Lib.hid e1
            have E2 := Lib.hid e2
            clear e1 e2 hf hil hi
            go_wp2_with fail
            refine (li_double I5.out OK.out GG.out i).mono ?_
            rw [E1.out]
            rintro e w6 hO
            obtain ⟨b6, rfl, hw6, hI, hF⟩ := hO.no
            have F : Hid (Round w lb tb k w6 (.int .i64 next)) := Lib.hid ⟨_, _, rfl, E2.out, hI, T5.out.frame hF⟩
            clear hO hw6 hI hF
            go_wp2_with fail
            go_meet
            case rel => exact F.out
          · obtain ⟨L', e1, e2, e3⟩ := KK.out.twice hi hm hf
            have E1 := Lib.hid e1
            have E2 := Lib.hid e2
            have E3 := Lib.hid e3
            have C5' := C5
            have HI := Lib.hid hi
            clear e1 e2 e3 hf hil hi
            go_wp2_with fail
            refine (li_double I5.out OK.out GG.out i).mono ?_
            rw [E1.out]
            rintro e w6 hO
            obtain ⟨rfl, hI, hF⟩ := hO.yes
            have T6 := Lib.hid (T5.out.frame hF)
            have hd6 := (AB.out.frame hF).cell
            obtain ⟨yb', yo', e', n6⟩ := (C5'.out.frame hF).cells i (.string (tx m)) (by simp [nows, HI.out])
            cases e'
            obtain ⟨S, hS⟩ : ∃ S, tx m = S := ⟨_, rfl⟩
            rw [hS] at n6
            have I6 := Lib.hid hI
            have HS := Lib.hid hS
            have s2 : S.size = 2 := by rw [← hS]; rfl
            have s0 := tx_first hS (by omega) (by omega)
            obtain ⟨cn, fn⟩ := T6.out.cell m (by omega)
            have hc64 : (cnt L.ts m : Int) ≤ 64 := by have := cnt_le L.ts m; have := HT.out; omega
            have hc0 : (0 : Int) ≤ (cnt L.ts m : Int) := by omega
            have hm1 : (m : Int) < 201 := by omega
            have hm0 : (0 : Int) ≤ (m : Int) := by omega
            have F : Hid (Round w lb tb k (w6.setCell ⟨tb, m, none⟩ (.int .i64 ((cnt L.ts m : Int) + 1))) (.int .i64 next)) := Lib.hid
              ⟨L', next, rfl, E2.out, hI.there T6.out m _, T6.out.set m _ (by omega) (by rw [E3.out, cnt_push _ _ _ (by omega) (by omega), if_pos rfl]; omega) (fun m' hm' hmn => by rw [E3.out, cnt_push _ _ _ (by omega) (by omega), if_neg hmn])⟩
            clear hO hI hF n0 hd hS
            go_wp2_with fail
            go_meet
            case rel => exact F.out
        have q4 : (kd == 4) = false := by simpa using k4
        by_cases k2 : kd = 2 ∨ kd = 3
        · clear k1 q1 k4 q4
          rcases k2 with rfl | rfl <;> (
          go_wp2_with fail
          refine (li_list (IH1.out _) OK.out).mono ?_
          obtain ⟨t, ht⟩ : ∃ t, L.ts.length = t := ⟨_, rfl⟩
          have HT := Lib.hid ht
          rw [ht]
          rintro e w5 ⟨Y, cy, rfl, hC, hI, hB⟩
          have I5 := Lib.hid hI
          have C5 := Lib.hid hC
          have T5 := Lib.hid ((TH1.out _).frame (FrameT.of_below hB))
          have ht64 : (t : Int) ≤ 64 := by have := KK.out.1.2.2.2.1; omega
          have AB : Hid (ActB w5 wr.heap.size _ xi xs xa xb) := Lib.hid (ActB.frame (heap_alloc_new wr _) (FrameT.of_below hB))
          have hd := AB.out.cell
          clear hI hC hB ht
          by_cases hx : L.has xi
          · obtain ⟨i, rfl⟩ : ∃ i : Nat, xi = i := ⟨xi.toNat, by unfold Lin.has at hx; omega⟩
            have hil : i < L.ts.length := by unfold Lin.has at hx; omega
            have q4 : (0 : Int) ≤ (i : Int) := by omega
            have q5 : (i : Int) < (t : Int) := by have := HT.out; omega
            obtain ⟨m, hm, hi⟩ := KK.out.at hil
            obtain ⟨L', e1, e1t, e2, e3⟩ := KK.out.cut hi
            have E1 := Lib.hid e1
            have E1t := Lib.hid e1t
            have E2 := Lib.hid e2
            have E3 := Lib.hid e3
            have HI := Lib.hid hi
            have C5' := C5
            clear e1 e1t e2 e3 hil hi hx
            go_wp2_with fail
            refine (li_take I5.out OK.out GG.out i).mono ?_
            rw [E1.out, E1t.out]
            rintro e w6 hO
            obtain ⟨rfl, hI, hF⟩ := hO.yes2
            have T6 := Lib.hid (T5.out.frame hF)
            have hd6 := (AB.out.frame hF).cell
            obtain ⟨yb', yo', e', n6⟩ := (C5'.out.frame hF).cells i (.string (tx m)) (by simp [nows, HI.out])
            subst e'
            obtain ⟨S, hS⟩ : ∃ S, tx m = S := ⟨_, rfl⟩
            rw [hS] at n6 ⊢
            have I6 := Lib.hid hI
            have HS := Lib.hid hS
            have s2 : S.size = 2 := by rw [← hS]; rfl
            have s0 := tx_first hS (by omega) (by omega)
            obtain ⟨cn, fn⟩ := T6.out.cell m (by omega)
            have hc64 : (cnt L.ts m : Int) ≤ 64 := by have := cnt_le L.ts m; have := HT.out; omega
            have hc0 : (1 : Int) ≤ (cnt L.ts m : Int) := by have := cnt_pos L.ts i m HI.out; omega
            have hm1 : (m : Int) < 201 := by omega
            have hm0 : (0 : Int) ≤ (m : Int) := by omega
            have hm2 : decide (next ≤ m) = false := by simp; omega
            have hc2 : ((cnt L.ts m : Int) == 0) = false := beq_eq_false_iff_ne.2 (by omega)
            have F : Hid (Round w lb tb k (w6.setCell ⟨tb, m, none⟩ (.int .i64 ((cnt L.ts m : Int) - 1))) (.int .i64 next)) := Lib.hid
              ⟨L', next, rfl, E2.out, hI.there T6.out m _, T6.out.set m _ (by omega) (by rw [E3.out, cnt_erase _ _ _ _ (by omega) (by omega) HI.out, if_pos rfl]; omega) (fun m' hm' hmn => by rw [E3.out, cnt_erase _ _ _ _ (by omega) (by omega) HI.out, if_neg hmn])⟩
            clear hO hI hF hd hS
            go_wp2_with fail
            go_meet
            case rel => exact F.out
          · obtain ⟨e1, e1t⟩ := take_none hx
            have E1 := Lib.hid e1
            have E1t := Lib.hid e1t
            clear e1 e1t hx
            go_wp2_with fail
            refine (li_take I5.out OK.out GG.out xi).mono ?_
            rw [E1.out, E1t.out]
            rintro e w6 hO
            obtain ⟨b6, rfl, hw6, hI, hF⟩ := hO.no2
            have F : Hid (There w w6 tb L.ts ∧ LI w lb L w6) := Lib.hid ⟨T5.out.frame hF, hI⟩
            clear hO hw6 hI hF
            go_wp2_with fail
            exact ⟨⟨k + 1, by omega, by omega, by go_num, L, next, rfl, KK.out.mono, F.out.2, F.out.1⟩, by simp [intOf]; omega⟩)
        have q2 : (kd == 2) = false := by simp; omega
        have q3 : (kd == 3) = false := by simp; omega
        have F : Hid (Round w lb tb k (wr.alloc (.cells #[.int .i64 kd, .int .i64 xi, .string xs, .int .i64 xa, .int .u8 (xb.toNat : Int)] 47)) (.int .i64 next)) := Lib.hid ⟨L, next, rfl, KK.out.mono, IH1.out _, TH1.out _⟩
        clear k1 k2 k4
        go_wp2_with fail
        go_meet
        case rel => exact F.out
      case rest =>
        obtain ⟨L', next', rfl, hK', hI', hT'⟩ := hcut
        have I6 := Lib.hid hI'
        have K6 := Lib.hid hK'
        have T6 := Lib.hid hT'
        have OK' := Lib.hid (K6.out.1.ok (by omega))
        obtain ⟨t, ht⟩ : ∃ t, L'.ts.length = t := ⟨_, rfl⟩
        have ht64 : (t : Int) ≤ 64 := by have := K6.out.1.2.2.2.1; omega
        have HT := Lib.hid ht
        clear hI' hK' hT' II KK TT IH TH IH1 TH1 OK ht
        go_wp2_with fail
        go_loopw [14] (fun mv wr => ∃ m : Nat, m ≤ t ∧ mv = .int .i64 m ∧ LI w lb L' wr ∧ There w wr tb L'.ts) (fun mv _ => t - (intOf mv).toNat)
        case atStart => exact ⟨0, Nat.zero_le _, rfl, I6.out, T6.out⟩
        case round =>
          obtain ⟨m, hm, rfl, hI, hT⟩ := hrel
          have I7 := Lib.hid hI
          have T7 := Lib.hid hT
          clear hI hT
          have hlen := li_len I7.out
          rw [HT.out] at hlen
          have HL := Lib.hid hlen
          clear hlen
          by_cases hmt : m < t
          · have hc := li_clean I7.out OK'.out GG.out m
            rw [K6.out.clean (by rw [HT.out]; exact hmt)] at hc
            have HC := Lib.hid hc
            have hm1 : (m : Int) < (t : Int) := by omega
            clear hc
            go_wp2_with fail
            refine HL.out.mono ?_
            rintro e w8 ⟨rfl, rfl⟩
            go_wp2_with fail
            refine HC.out.mono ?_
            rintro e w8 ⟨rfl, hI, hB⟩
            have I8 := Lib.hid hI
            have T8 := Lib.hid (T7.out.frame (FrameT.of_below hB))
            clear hI hB
            go_wp2_with fail
            exact ⟨⟨m + 1, by omega, by go_num, I8.out, T8.out⟩, by simp [intOf]; omega⟩
          · obtain rfl : m = t := by omega
            go_wp2_with fail
            refine HL.out.mono ?_
            rintro e w8 ⟨rfl, rfl⟩
            go_wp2_with fail
            exact ⟨⟨k + 1, by omega, by omega, by go_num, L', next', rfl, K6.out, I7.out, T7.out⟩, by simp [intOf]; omega⟩
    · have O := Lib.hid II.out.out
      by_cases hlt1 : k < len
      · have h2 : (200 : Int) ≤ (k : Int) := by omega
        have h1 : (k : Int) < (len : Int) := by omega
        clear hlt
        go_wp2
        go_ret
        exact ⟨rfl, O.out⟩
      · have h1 : (len : Int) ≤ (k : Int) := by omega
        clear hlt hlt1
        go_wp2
        go_ret
        exact ⟨rfl, O.out⟩

theorem keeps_any (w : World) (A : Nat → Addr) (hG : GlobL w A) (X : Option Addr) (c : Nat) (l : List ActE)
    (h : l.length ≤ c ∧ c ≤ maxLen ∧ Acts w X l ∧ ∀ x ∈ l, (Lit.int .i64 x.i).wf = true ∧ (Lit.int .i64 x.at_).wf = true ∧ x.s.size ≤ maxLen) :
    Calls Tryd.prog 6 #[.slice X l.length c] w fun e w' => e = .returned (.bool true) ∧ Below w.heap.size w w' :=
  keeps_walk l X c w A hG h.2.2.1 (by omega)

end Go.Proofs.YtkpbjahjiajodaaDoor
