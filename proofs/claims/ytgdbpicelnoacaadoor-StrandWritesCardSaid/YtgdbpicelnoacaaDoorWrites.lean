/- This text proves the law StrandWrites, over the loaded program: its walk. -/
import Derived.Test.YtgdbpicelnoacaaDoorBack
import Derived.Test.YtgdbpicelnoacaaDoorRefWrite
import Derived.Test.YtgdbpicelnoacaaDoorNumber
namespace Go.Proofs.YtgdbpicelnoacaaDoor
open Go.RowKit Go.WideShapes

theorem item_small {W : Wri} {x : It} (hx : In64 x.n ∧ x.text.size ≤ 1000 ∧ x.fl.length ≤ 1000 ∧ 1 ≤ x.kind ∧ x.kind ≤ 6) : (W.item x).most = W.most ∧ (W.item x).out.length ≤ W.out.length + 1010 := by
  cases h : encI x with
  | none =>
    rw [Wri.item_ref h]
    unfold Wri.refuse
    split
    · exact ⟨rfl, by simp⟩
    · exact ⟨rfl, by omega⟩
  | some bs =>
    have := enc_len h hx.1 hx.2.1 hx.2.2.1
    rw [Wri.item_enc h hx.2.2.2]
    unfold Wri.put
    split
    · split
      · exact ⟨rfl, by simp⟩
      · exact ⟨rfl, by rw [List.length_append]; omega⟩
    · exact ⟨rfl, by omega⟩
theorem fold_small : ∀ (l : List It) (W : Wri), (∀ x ∈ l, In64 x.n ∧ x.text.size ≤ 1000 ∧ x.fl.length ≤ 1000 ∧ 1 ≤ x.kind ∧ x.kind ≤ 6) → (l.foldl Wri.item W).most = W.most ∧ (l.foldl Wri.item W).out.length ≤ W.out.length + 1010 * l.length
  | [], W, _ => ⟨rfl, by simp⟩
  | i :: r, W, h => by
    obtain ⟨h1, h2⟩ := fold_small r (W.item i) (fun x hx => h x (by simp [hx]))
    obtain ⟨h3, h4⟩ := item_small (W := W) (h i (by simp))
    rw [List.foldl_cons, List.length_cons]
    exact ⟨h1.trans h3, by omega⟩
theorem item_errs {W : Wri} (h : W.err = none ∨ W.err = some 1 ∨ W.err = some 2) (x : It) : (W.item x).err = none ∨ (W.item x).err = some 1 ∨ (W.item x).err = some 2 := by
  have hp : ∀ bs, (W.put bs).err = none ∨ (W.put bs).err = some 1 ∨ (W.put bs).err = some 2 := by
    intro bs
    unfold Wri.put
    split
    · split
      · exact .inr (.inr rfl)
      · exact h
    · exact h
  have hr : W.refuse.err = none ∨ W.refuse.err = some 1 ∨ W.refuse.err = some 2 := by
    unfold Wri.refuse
    split
    · exact .inr (.inl rfl)
    · exact h
  unfold Wri.item Wri.byte Wri.count
  repeat' split
  all_goals first | exact h | exact hp _ | exact hr
theorem fold_errs : ∀ (l : List It) (W : Wri), (W.err = none ∨ W.err = some 1 ∨ W.err = some 2) → (l.foldl Wri.item W).err = none ∨ (l.foldl Wri.item W).err = some 1 ∨ (l.foldl Wri.item W).err = some 2
  | [], _, h => h
  | i :: r, _, h => fold_errs r _ (item_errs h i)

set_option maxRecDepth 100000 in
set_option maxHeartbeats 3200000 in
theorem writes_any (w : World) (A : Nat → Addr) (hA : Apart 4 w A) (most : Int) (hm : In64 most) (X : Option Addr) (l : List It) (c : Nat) (hI : Items w X l) : Calls Tryd.prog 3 #[.int .i64 most, .slice X l.length c] w fun e w' => e = .returned (.bool true) ∧ Below w.heap.size w w' := by
  have GG := Lib.hid (hA.glob (by decide))
  have AP := Lib.hid hA
  have HM := Lib.hid hm
  have II := Lib.hid hI
  have HV := Lib.hid (heavy_any w X l c hI)
  clear hA hI hm
  obtain ⟨hv, hhv⟩ : ∃ hv, heavyL l = hv := ⟨_, rfl⟩
  obtain ⟨len, hlen⟩ : ∃ len, l.length = len := ⟨_, rfl⟩
  have LEN := Lib.hid hlen
  rw [hlen]
  go_enter Tryd.func3, Tryd.ntmps3
  go_wp2_with fail
  refine (awake_any w A GG.out).mono ?_
  rintro e w1 ⟨rfl, hb1⟩
  have B1 := Lib.hid hb1
  clear hb1
  go_wp2_with fail
  have hh := heavy_any w1 X l c (II.out.below B1.out)
  rw [hlen, hhv] at hh
  have HH := Lib.hid hh
  clear hh
  refine HH.out.mono ?_
  rintro e w2 ⟨rfl, rfl⟩
  cases hv with
  | true =>
    clear hhv hlen
    go_wp2_with fail
    go_ret
    exact ⟨rfl, B1.out⟩
  | false =>
    have NH := Lib.hid (not_heavy hhv)
    have OK : Hid (∀ k, ((l.take k).foldl Wri.item (Wri.new most)).ok) := Lib.hid (fun k => by
      have h := fold_small (l.take k) (Wri.new most) (fun x hx => by
        obtain ⟨j, hj, e⟩ := List.getElem_of_mem (List.mem_of_mem_take hx)
        subst e
        exact ⟨(II.out j _ (List.getElem?_eq_getElem hj)).2.2.1, NH.out.2 _ (List.getElem_mem hj)⟩)
      obtain ⟨h1, h2⟩ := h
      have hl := NH.out.1
      have hl2 : (l.take k).length ≤ l.length := by rw [List.length_take]; omega
      unfold Wri.ok
      rw [h1]
      have := HM.out.2
      have h3 : (Wri.new most).most = if most < 0 then 0 else most := rfl
      have h4 : (Wri.new most).out.length = 0 := rfl
      rw [h3]
      rw [h4] at h2
      split <;> omega)
    have hl60 : (len : Int) ≤ 60 := by have := NH.out.1; omega
    clear hhv hlen
    go_wp2_with fail
    refine (wi_new A most B1.out).mono ?_
    rintro e w3 ⟨rfl, h3⟩
    obtain ⟨wb, hwb⟩ : ∃ wb, w1.heap.size = wb := ⟨_, rfl⟩
    rw [hwb] at h3 ⊢
    have H3 := Lib.hid h3
    clear h3 hwb
    go_wp2_with fail
    go_loopw [6] (fun iv wr => ∃ k : Nat, k ≤ len ∧ iv = .int .i64 k ∧ WI A w wb ((l.take k).foldl Wri.item (Wri.new most)) wr) (fun iv _ => len - (intOf iv).toNat)
    case atStart => exact ⟨0, Nat.zero_le _, rfl, H3.out⟩
    case round =>
      obtain ⟨k, hk, rfl, hW⟩ := hrel
      have HW := Lib.hid hW
      clear hW
      by_cases hlt : k < len
      · obtain ⟨x, hx⟩ : ∃ x, l[k]? = some x := ⟨l[k]'(by rw [LEN.out]; exact hlt), by simp [show k < l.length by rw [LEN.out]; exact hlt]⟩
        obtain ⟨⟨b, o, rfl, h0, h1, h2, h3⟩, m1, m2, m3, m4, m5⟩ := (II.out.below HW.out.bel) k x hx
        have hxm := NH.out.2 x (List.mem_of_getElem? hx)
        have hxo : x.ok w := by
          obtain ⟨_, n1, n2, n3, n4, n5⟩ := II.out k x hx
          exact ⟨n1, n2, by omega, by omega, n5⟩
        have PUT := Lib.hid (HW.out.put (OK.out k) GG.out x hxo)
        have hts : (l.take (k + 1)).foldl Wri.item (Wri.new most) = ((l.take k).foldl Wri.item (Wri.new most)).item x := fold_snoc hx _
        have TS := Lib.hid hts
        obtain ⟨kind, n, text, fl, X', c'⟩ := x
        dsimp only at h0 h1 h2 h3
        have i0 : (0 : Int) ≤ (k : Int) := by omega
        have i1 : (k : Int) < (len : Int) := by omega
        clear hx m1 m2 m3 m4 m5 hxm hxo hts
        go_wp2_with fail
        refine PUT.out.mono ?_
        rintro e w4 ⟨rfl, h4⟩
        rw [← TS.out] at h4
        have H4 := Lib.hid h4
        clear h4
        go_wp2_with fail
        exact ⟨⟨k + 1, by omega, by go_num, H4.out⟩, by simp [intOf]; omega⟩
      · obtain rfl : k = len := by omega
        have hW := HW.out
        rw [List.take_of_length_le (by rw [LEN.out]; exact Nat.le_refl _)] at hW
        have HW2 := Lib.hid hW
        clear hW hlt
        go_wp2_with fail
        refine HW2.out.bytes.mono ?_
        rintro e w4 ⟨⟨v, rfl, hv⟩, h4⟩
        have H4 := Lib.hid h4
        clear h4
        have hEJ := fold_errs l (Wri.new most) (.inl rfl)
        have RW := refWrite_any w4 X l c (II.out.below H4.out.bel) NH.out.1 NH.out.2 most HM.out
        rw [LEN.out] at RW
        generalize l.foldl Wri.item (Wri.new most) = F at *
        have hstr : (if F.err = none then strB F.out else ByteArray.empty) = (if F.err = none then strB F.out else ⟨#[]⟩) := rfl
        rw [hstr]
        unfold wres at RW
        generalize (if F.err = none then strB F.out else (⟨#[]⟩ : ByteArray)) = S at *
        have RWH := Lib.hid RW
        clear RW hstr
        rcases hv with ⟨he, rfl⟩ | ⟨j, he, hw⟩
        · rw [he] at RWH
          dsimp only [wcode] at RWH
          clear hEJ he
          go_wp2_with fail
          refine RWH.out.mono ?_
          rintro e w5 ⟨rfl, hb5⟩
          have B5 := Lib.hid (H4.out.bel.trans (hb5.mono H4.out.bel.size))
          clear hb5
          go_wp2_with fail
          refine (num_of_nil _).mono ?_
          rintro e w6 ⟨rfl, rfl⟩
          go_wp2_with fail
          go_ret
          exact ⟨rfl, B5.out⟩
        · have hN : ∃ k : Nat, (1 ≤ k ∧ k ≤ 4) ∧ ofNum k = j ∧ wcode (some j) = (k : Int) := by
            rcases hEJ with h | h | h
            · rw [h] at he; cases he
            · rw [h] at he; cases he; exact ⟨1, by omega, rfl, rfl⟩
            · rw [h] at he; cases he; exact ⟨4, by omega, rfl, rfl⟩
          obtain ⟨q, hq, rfl, hc⟩ := hN
          rw [he, hc] at RWH
          have hw5 : ∀ w5, Below w4.heap.size w4 w5 → Calls Tryd.prog 20 #[v] w5 fun e w' => e = .returned (.int .i64 q) ∧ w5 = w' := fun w5 hb => by
            refine number_wraps q 4 A v w5 (by omega) (AP.out.below (H4.out.bel.trans (hb.mono H4.out.bel.size))) (fun i h1 h2 => ?_) (hw.below hb)
            have his : i = 1 ∨ i = 2 ∨ i = 3 ∨ i = 4 := by omega
            rcases his with rfl | rfl | rfl | rfl <;> decide
          have W5 := Lib.hid hw5
          obtain ⟨b, C, rfl, _⟩ := hw
          clear hEJ he hc hw5 hq
          go_wp2_with fail
          refine RWH.out.mono ?_
          rintro e w5 ⟨rfl, hb5⟩
          have R5 := Lib.hid (W5.out w5 hb5)
          have B5 := Lib.hid (H4.out.bel.trans (hb5.mono H4.out.bel.size))
          clear hb5
          go_wp2_with fail
          refine R5.out.mono ?_
          rintro e w6 ⟨rfl, rfl⟩
          go_wp2_with fail
          go_ret
          exact ⟨rfl, B5.out⟩

end Go.Proofs.YtgdbpicelnoacaaDoor
