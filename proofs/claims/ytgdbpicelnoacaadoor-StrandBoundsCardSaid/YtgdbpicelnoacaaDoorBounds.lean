/- This text proves the law StrandBounds, over the loaded program: its walk. -/
import Derived.Test.YtgdbpicelnoacaaDoorBack
import Derived.Test.YtgdbpicelnoacaaDoorBoundsPlain
import Derived.Test.YtgdbpicelnoacaaDoorNils
namespace Go.Proofs.YtgdbpicelnoacaaDoor
open Go.RowKit Go.WideShapes
set_option linter.unusedSimpArgs false

/-- Two writers of the law's own, side by side. -/
def W2 (A : Nat → Addr) (w0 : World) (a b : Nat) (Wa Wb : Wri) (w : World) : Prop := ∃ ga gb, WAt A w a ga Wa ∧ WAt A w b gb Wb ∧ Below w0.heap.size w0 w ∧ w0.heap.size ≤ a ∧ w0.heap.size ≤ b ∧ (∀ x ∈ ga, w0.heap.size ≤ x) ∧ (∀ x ∈ gb, w0.heap.size ≤ x) ∧ a ≠ b ∧ a ∉ gb ∧ b ∉ ga ∧ ∀ x ∈ ga, x ∉ gb
section
variable {A : Nat → Addr} {w0 w w' : World} {a b : Nat} {Wa Wb W' : Wri}
theorem W2.symm (h : W2 A w0 a b Wa Wb w) : W2 A w0 b a Wb Wa w := by
  obtain ⟨ga, gb, h1, h2, h3, h4, h5, h6, h7, h8, h9, h10, h11⟩ := h
  exact ⟨gb, ga, h2, h1, h3, h5, h4, h7, h6, fun e => h8 e.symm, h10, h9, fun x hx hy => h11 x hy hx⟩
theorem W2.wi (h : W2 A w0 a b Wa Wb w) : WI A w0 a Wa w := by
  obtain ⟨ga, gb, h1, h2, h3, h4, h5, h6, h7, h8, h9, h10, h11⟩ := h
  exact ⟨ga, h1, h3, h4, h6⟩
theorem W2.below (h : W2 A w0 a b Wa Wb w) (hb : Below w.heap.size w w') : W2 A w0 a b Wa Wb w' := by
  obtain ⟨ga, gb, h1, h2, h3, h4, h5, h6, h7, h8, h9, h10, h11⟩ := h
  exact ⟨ga, gb, h1.below hb, h2.below hb, h3.trans (hb.mono h3.size), h4, h5, h6, h7, h8, h9, h10, h11⟩
theorem W2.next {f : FuncId} {args : Array Value} (h : W2 A w0 a b Wa Wb w) (hc : ∀ gp, WAt A w a gp Wa → Calls Tryd.prog f args w (WDone A w a gp W')) : Calls Tryd.prog f args w fun e w' => e = .returned (.tuple #[]) ∧ W2 A w0 a b W' Wb w' := by
  obtain ⟨ga, gb, h1, h2, h3, h4, h5, h6, h7, h8, h9, h10, h11⟩ := h
  refine (hc ga h1).mono ?_
  rintro e w1 ⟨rfl, gp', k1, k2, k3⟩
  refine ⟨rfl, gp', gb, k1, h2.kept k2 ?_ ?_, below_kept h3 k2 (fun x hx => ?_) (Nat.le_refl _), h4, h5, fun x hx => ?_, h7, h8, h9, ?_, ?_⟩
  · intro hm
    rcases List.mem_cons.1 hm with e | hm
    · exact h8 e.symm
    · exact h10 hm
  · intro x hx hm
    rcases List.mem_cons.1 hm with rfl | hm
    · exact h9 hx
    · exact h11 x hm hx
  · rcases List.mem_cons.1 hx with rfl | hx
    · exact h4
    · exact h6 x hx
  · rcases k3 x hx with hx | hx
    · exact h6 x hx
    · exact Nat.le_trans h3.size hx
  · intro hm
    rcases k3 b hm with hx | hx
    · exact h10 hx
    · have := h2.lt; omega
  · intro x hm hx
    rcases k3 x hm with hy | hy
    · exact h11 x hy hx
    · have := h2.2.1 x hx; omega
theorem W2.put (h : W2 A w0 a b Wa Wb w) (hok : Wa.ok) (hG : Glob w0 A) (i : It) (hi : i.ok w0) : Calls Tryd.prog 17 #[.pointer (some ⟨a, 0, none⟩), i.v] w fun e w' => e = .returned (.tuple #[]) ∧ W2 A w0 a b (Wa.item i) Wb w' := by
  have hb := h.wi.bel
  exact h.next fun _ h1 => put_any h1 hok (hG.below hb) i (hi.below hb)
def MOk (M : Int) (W : Wri) : Prop := W.most = M ∧ (W.out.length : Int) ≤ M
theorem MOk.put {M : Int} {W : Wri} (h0 : 0 ≤ M) (h : MOk M W) (bs : List UInt8) : MOk M (W.put bs) := by
  obtain ⟨h1, h2⟩ := h
  unfold Wri.put
  split
  · split
    · exact ⟨h1, by simpa using h0⟩
    · refine ⟨h1, ?_⟩
      rw [List.length_append]
      omega
  · exact ⟨h1, h2⟩
theorem MOk.refuse {M : Int} {W : Wri} (h0 : 0 ≤ M) (h : MOk M W) : MOk M W.refuse := by
  unfold Wri.refuse
  split
  · exact ⟨h.1, by simpa using h0⟩
  · exact h
theorem MOk.item {M : Int} {W : Wri} (h0 : 0 ≤ M) (h : MOk M W) (i : It) : MOk M (W.item i) := by
  unfold Wri.item Wri.byte Wri.count
  repeat' split
  all_goals first | exact h | exact h.put h0 _ | exact h.refuse h0
theorem MOk.fold {M : Int} (h0 : 0 ≤ M) : ∀ (l : List It) (W : Wri), MOk M W → MOk M (l.foldl Wri.item W)
  | [], _, h => h
  | i :: r, _, h => MOk.fold h0 r _ (h.item h0 i)
theorem fold_ok (m : Int) (h1 : m ≤ 1048576) (l : List It) : (l.foldl Wri.item (Wri.new m)).ok := by
  have h : MOk (if m < 0 then 0 else m) (l.foldl Wri.item (Wri.new m)) := MOk.fold (by split <;> omega) l _ ⟨rfl, by simp only [Wri.new, List.length_nil]; split <;> omega⟩
  obtain ⟨h2, h3⟩ := h
  unfold Wri.ok
  rw [h2]
  split at h3 <;> split <;> omega
theorem w2_new (m : Int) (h : WI A w0 a Wa w) : Calls Tryd.prog 16 #[.int .i64 m] w fun e w' => e = .returned (.pointer (some ⟨w.heap.size, 0, none⟩)) ∧ W2 A w0 a w.heap.size Wa (Wri.new m) w' := by
  obtain ⟨ga, h1, h2, h3, h4⟩ := h
  refine (wnew_any A m w).mono ?_
  rintro e w1 ⟨rfl, k1, k2⟩
  exact ⟨rfl, ga, [], h1.below k2, k1, h2.trans (k2.mono h2.size), h3, h2.size, h4, by simp, by have := h1.lt; omega, by simp, fun hm => by have := h1.2.1 _ hm; omega, by simp⟩
end

theorem bytes_w2 {A : Nat → Addr} {w0 w : World} {a b : Nat} {Wa Wb : Wri} (h : W2 A w0 a b Wa Wb w) (he : Wa.err = none) : Calls Tryd.prog 18 #[.pointer (some ⟨a, 0, none⟩)] w fun e w' => e = .returned (.tuple #[.string (strB Wa.out), .nilIface]) ∧ w = w' := by
  obtain ⟨ga, gb, h1, _⟩ := h
  exact bytes_ok h1 he

/-- What holds while the bounds' law looks at all answers. -/
def BdS (w0 : World) (A : Nat → Addr) (h : Value) (g : Option Value) (w : World) : Prop := Below w0.heap.size w0 w ∧ WrapsT w h (A 3) ∧ ∀ v, g = some v → WrapsT w v (A 2)
abbrev BdC (w0 : World) (A : Nat → Addr) (h : Value) (g : Option Value) (w : World) : Prop := w.cell? ⟨2, 0, none⟩ = some (.iface 139 (.pointer (some (A 2)))) ∧ w.cell? ⟨3, 0, none⟩ = some (.iface 139 (.pointer (some (A 3)))) ∧ BdS w0 A h g w
section
variable {A : Nat → Addr} {w0 w w' : World} {h : Value} {g : Option Value}
theorem bd_bel (k : BdC w0 A h g w) (hb : Below w.heap.size w w') : BdC w0 A h g w' := by
  obtain ⟨k2, k3, k4, k5, k6⟩ := k
  exact ⟨(hb.cell (World.block_lt_of_cell? w _ k2)).trans k2, (hb.cell (World.block_lt_of_cell? w _ k3)).trans k3, k4.trans (hb.mono k4.size), k5.below hb, fun v hv => (k6 v hv).below hb⟩
theorem bd_drew (k : BdC w0 A h g w) : BdC w0 A h g w.drew := bd_bel k ⟨rfl, rfl, rfl, Nat.le_refl _, fun _ _ => rfl⟩
theorem bd_g {v : Value} (k : BdC w0 A h (some v) w) : Calls Tryd.prog 27 #[v, .iface 139 (.pointer (some (A 2)))] w fun e w' => e = .returned (.bool true) ∧ Below w.heap.size w w' := isB (k.2.2.2.2 v rfl)
theorem bd_h (k : BdC w0 A h g w) : Calls Tryd.prog 27 #[h, .iface 139 (.pointer (some (A 3)))] w fun e w' => e = .returned (.bool true) ∧ Below w.heap.size w w' := isB k.2.2.2.1
theorem bd_end (hG : Glob w0 A) (k : BdC w0 A h g w) : Calls Tryd.prog 26 #[.pointer none] w fun e w' => ∃ b, e = .returned (.iface 108 (.pointer (some ⟨b, 0, none⟩))) ∧ WrapsT w' (.iface 108 (.pointer (some ⟨b, 0, none⟩))) (A 3) ∧ Below w.heap.size w w' := by
  refine (end_nil (hG.below k.2.2.1)).mono ?_
  rintro e w' ⟨v, rfl, hb, hv⟩
  rcases hv with ⟨hn, _⟩ | ⟨j, hj, hw⟩
  · cases hn
  · cases hj
    have hw0 := hw
    obtain ⟨b, C, rfl, _⟩ := hw
    exact ⟨b, rfl, hw0, hb⟩
end

set_option maxRecDepth 100000 in
set_option maxHeartbeats 3200000 in
theorem bounds_any (w : World) (A : Nat → Addr) (hG : Glob w A) (X : Option Addr) (l : List It) (c : Nat) (hI : Items w X l) : Calls Tryd.prog 8 #[.slice X l.length c] w fun e w' => e = .returned (.bool true) ∧ Below w.heap.size w w' := by
  have GG := Lib.hid hG
  have II := Lib.hid hI
  have HV := Lib.hid (heavy_any w X l c hI)
  clear hG hI
  obtain ⟨hv, hhv⟩ : ∃ hv, heavyL l = hv := ⟨_, rfl⟩
  obtain ⟨len, hlen⟩ : ∃ len, l.length = len := ⟨_, rfl⟩
  have LEN := Lib.hid hlen
  rw [hlen]
  go_enter Tryd.func8, Tryd.ntmps8
  go_wp2_with fail
  refine (awake_any w A GG.out).mono ?_
  rintro e w1 ⟨rfl, hb1⟩
  have B1 := Lib.hid hb1
  clear hb1
  go_wp2_with fail
  have hh := heavy_any w1 X l c (II.out.below B1.out)
  rw [hlen, hhv] at hh
  have HH := Lib.hid hh
  clear hh
  refine HH.out.mono ?_
  rintro e w2 ⟨rfl, rfl⟩
  cases hv with
  | true =>
    clear hhv hlen
    go_wp2_with fail
    go_ret
    exact ⟨rfl, B1.out⟩
  | false =>
    have NH := Lib.hid (not_heavy hhv)
    have AR : Hid ((wfold l).err = none ∨ (wfold l).err = some 1) := Lib.hid (wfold_arg l _ rfl (by have := NH.out.1; simp [Wri.new]; omega) (fun x hx => by
      obtain ⟨j, hj, rfl⟩ := List.getElem_of_mem hx
      exact ⟨(II.out j _ (List.getElem?_eq_getElem hj)).2.2.1, NH.out.2 _ hx⟩))
    have hl60 : (len : Int) ≤ 60 := by have := NH.out.1; omega
    clear hhv hlen
    go_wp2_with fail
    refine (wi_new A 1048576 B1.out).mono ?_
    rintro e w3 ⟨rfl, h3⟩
    obtain ⟨wb, hwb⟩ : ∃ wb, w1.heap.size = wb := ⟨_, rfl⟩
    rw [hwb] at h3 ⊢
    have H3 := Lib.hid h3
    clear h3 hwb
    go_wp2_with fail
    go_loopw [4] (fun iv wr => ∃ k : Nat, k ≤ len ∧ iv = .int .i64 k ∧ WI A w wb (wfold (l.take k)) wr) (fun iv _ => len - (intOf iv).toNat)
    case atStart => exact ⟨0, Nat.zero_le _, rfl, H3.out⟩
    case round =>
      obtain ⟨k, hk, rfl, hW⟩ := hrel
      have HW := Lib.hid hW
      clear hW
      by_cases hlt : k < len
      · obtain ⟨x, hx⟩ : ∃ x, l[k]? = some x := ⟨l[k]'(by rw [LEN.out]; exact hlt), by simp [show k < l.length by rw [LEN.out]; exact hlt]⟩
        obtain ⟨⟨b, o, rfl, h0, h1, h2, h3⟩, m1, m2, m3, m4, m5⟩ := (II.out.below HW.out.bel) k x hx
        have hxm := NH.out.2 x (List.mem_of_getElem? hx)
        have hxo : x.ok w := by
          obtain ⟨_, n1, n2, n3, n4, n5⟩ := II.out k x hx
          exact ⟨n1, n2, by omega, by omega, n5⟩
        have PUT := Lib.hid (HW.out.put (wfold_ok _).ok GG.out x hxo)
        have hts : wfold (l.take (k + 1)) = (wfold (l.take k)).item x := by
          have hkl : k < l.length := by rw [LEN.out]; exact hlt
          rw [List.take_succ_eq_append_getElem hkl]
          rw [List.getElem?_eq_getElem hkl] at hx
          cases hx
          exact wfold_snoc _ _
        have TS := Lib.hid hts
        obtain ⟨kind, n, text, fl, X', c'⟩ := x
        dsimp only at h0 h1 h2 h3
        have i0 : (0 : Int) ≤ (k : Int) := by omega
        have i1 : (k : Int) < (len : Int) := by omega
        clear hx m1 m2 m3 m4 m5 hxm hxo hts
        go_wp2_with fail
        refine PUT.out.mono ?_
        rintro e w4 ⟨rfl, h4⟩
        rw [← TS.out] at h4
        have H4 := Lib.hid h4
        clear h4
        go_wp2_with fail
        exact ⟨⟨k + 1, by omega, by go_num, H4.out⟩, by simp [intOf]; omega⟩
      · obtain rfl : k = len := by omega
        have hW := HW.out
        rw [List.take_of_length_le (by rw [LEN.out]; exact Nat.le_refl _)] at hW
        have HW2 := Lib.hid hW
        clear hW hlt
        go_wp2_with fail
        refine HW2.out.bytes.mono ?_
        rintro e w4 ⟨⟨v, rfl, hv⟩, h4⟩
        have H4 := Lib.hid h4
        clear h4
        cases he : (wfold l).err with
        | some j =>
          rw [he] at hv
          obtain rfl : j = 1 := by
            rcases AR.out with h | h
            · rw [he] at h; cases h
            · rw [he] at h; cases h; rfl
          obtain ⟨b, C, rfl, _⟩ : WrapsT w4 v (A 1) := by
            rcases hv with ⟨hn, _⟩ | ⟨j', hj, hw⟩
            · cases hn
            · cases hj; exact hw
          have HE := Lib.hid he
          clear hv he
          go_wp2_with fail
          refine (H4.out.next (W' := wfold l) fun gp h => by
            have e : (wfold l).byte 1 = wfold l := by unfold Wri.byte; rw [if_neg (by omega), Wri.put_bad HE.out]
            have := byte_any h (wfold_ok _).ok (GG.out.below H4.out.bel) 1
            rwa [e] at this).mono ?_
          rintro e w5 ⟨rfl, h5⟩
          have H5 := Lib.hid h5
          clear h5
          go_wp2_with fail
          refine H5.out.bytes.mono ?_
          rintro e w6 ⟨⟨v, rfl, hv⟩, h6⟩
          have H6 := Lib.hid h6
          clear h6
          have hw6 : WrapsT w6 v (A 1) := by
            rcases hv with ⟨hn, _⟩ | ⟨j', hj, hw⟩
            · rw [HE.out] at hn; cases hn
            · rw [HE.out] at hj; cases hj; exact hw
          have he2 : (if (wfold l).err = none then strB (wfold l).out else ByteArray.empty) = ⟨#[]⟩ := by rw [HE.out]; rfl
          rw [he2]
          have HW6 := Lib.hid hw6
          obtain ⟨b6, C6, rfl, _⟩ := hw6
          clear hv he2
          have g1 : w6.cell? ⟨1, 0, none⟩ = some (.iface 139 (.pointer (some (A 1)))) := (GG.out.below H6.out.bel) 1 (by decide)
          go_wp2_with fail
          refine HW6.out.is.mono ?_
          rintro e w7 ⟨rfl, rfl⟩
          go_wp2_with fail
          go_ret
          exact ⟨rfl, H6.out.bel⟩
        | none =>
          rw [he] at hv
          obtain rfl : v = .nilIface := by
            rcases hv with ⟨_, hv⟩ | ⟨j', hj, _⟩
            · exact hv
            · cases hj
          have WN := Lib.hid (wfold_none he)
          clear hv he
          obtain ⟨S, hS⟩ : ∃ S, strB (wfold l).out = S := ⟨_, rfl⟩
          have hSl : S.data.toList = encL l := by rw [← hS, ← WN.out.1]; simp [strB]
          have hSz : S.size ≤ 1048576 := by
            have e : S.size = S.data.toList.length := rfl
            have := (wfold_ok l).2
            rw [WN.out.1] at this
            rw [e, hSl]; exact this
          simp only [hS, if_true]
          have hS0 := Lib.hid hS
          have SL := Lib.hid hSl
          have SZ := Lib.hid hSz
          clear hS hSl hSz
          have hSe : strB (encL l) = S := by rw [← hS0.out, WN.out.1]
          have SE := Lib.hid hSe
          clear hSe
          go_wp2_with fail
          refine (wi_new A (S.size : Int) H4.out.bel).mono ?_
          rintro e w5 ⟨rfl, h5⟩
          obtain ⟨ab, hab⟩ : ∃ ab, w4.heap.size = ab := ⟨_, rfl⟩
          rw [hab] at h5 ⊢
          have H5 := Lib.hid h5
          clear h5 hab
          have qs : (S.size : Int) ≤ 1048576 := by have := SZ.out; omega
          go_wp2_with fail
          refine (w2_new ((S.size : Int) - 1) H5.out).mono ?_
          rintro e w6 ⟨rfl, h6⟩
          obtain ⟨bb, hbb⟩ : ∃ bb, w5.heap.size = bb := ⟨_, rfl⟩
          rw [hbb] at h6 ⊢
          have H6 := Lib.hid h6
          clear h6 hbb
          go_wp2_with fail
          go_loopw [11] (fun iv wr => ∃ j : Nat, j ≤ k ∧ iv = .int .i64 j ∧ W2 A w ab bb ((l.take j).foldl Wri.item (Wri.new (S.size : Int))) ((l.take j).foldl Wri.item (Wri.new ((S.size : Int) - 1))) wr) (fun iv _ => k - (intOf iv).toNat)
          case atStart => exact ⟨0, Nat.zero_le _, rfl, H6.out⟩
          case round =>
            obtain ⟨j, hj, rfl, hR⟩ := hrel
            have HR := Lib.hid hR
            clear hR
            by_cases hlt : j < k
            · obtain ⟨x, hx⟩ : ∃ x, l[j]? = some x := ⟨l[j]'(by rw [LEN.out]; exact hlt), by simp [show j < l.length by rw [LEN.out]; exact hlt]⟩
              obtain ⟨⟨b, o, rfl, h0, h1, h2, h3⟩, m1, m2, m3, m4, m5⟩ := (II.out.below HR.out.wi.bel) j x hx
              have hbl : b < w.heap.size := by
                obtain ⟨⟨b', o', he, k0, _⟩, _⟩ := II.out j x hx
                cases he
                exact World.block_lt_of_cell? w _ k0
              have hxm := NH.out.2 x (List.mem_of_getElem? hx)
              have hxo : x.ok w := by
                obtain ⟨_, n1, n2, n3, n4, n5⟩ := II.out j x hx
                exact ⟨n1, n2, by omega, by omega, n5⟩
              have OA := Lib.hid (fold_ok (S.size : Int) (by omega) (l.take j))
              have OB := Lib.hid (fold_ok ((S.size : Int) - 1) (by omega) (l.take j))
              have PUT := Lib.hid (HR.out.put OA.out GG.out x hxo)
              have PUTB := Lib.hid (fun w' (h : W2 A w ab bb (((l.take j).foldl Wri.item (Wri.new (S.size : Int))).item x) ((l.take j).foldl Wri.item (Wri.new ((S.size : Int) - 1))) w') => h.symm.put OB.out GG.out x hxo)
              have hts : ∀ W, (l.take (j + 1)).foldl Wri.item W = ((l.take j).foldl Wri.item W).item x := by
                intro W
                have hkl : j < l.length := by rw [LEN.out]; exact hlt
                rw [List.take_succ_eq_append_getElem hkl]
                rw [List.getElem?_eq_getElem hkl] at hx
                cases hx
                rw [List.foldl_append]
                rfl
              have TS := Lib.hid hts
              have BB := Lib.hid hbl
              have HX := Lib.hid hx
              obtain ⟨kind, n, text, fl, X', c'⟩ := x
              dsimp only at h0 h1 h2 h3
              have i0 : (0 : Int) ≤ (j : Int) := by omega
              have i1 : (j : Int) < (k : Int) := by omega
              clear hx m1 m2 m3 m4 m5 hxm hxo hts hbl
              go_wp2_with fail
              refine PUT.out.mono ?_
              rintro e w7 ⟨rfl, h7⟩
              have H7 := Lib.hid h7
              have PB := Lib.hid (PUTB.out w7 h7)
              obtain ⟨⟨b', o', he, c0, c1, c2, c3⟩, _⟩ := (II.out.below h7.wi.bel) j _ HX.out
              cases he
              dsimp only at c0 c1 c2 c3
              clear h7 h0 h1 h2 h3
              go_wp2_with fail
              refine PB.out.mono ?_
              rintro e w8 ⟨rfl, h8⟩
              have H8 := Lib.hid h8.symm
              clear h8
              go_wp2_with fail
              exact ⟨⟨j + 1, by omega, by go_num, by rw [TS.out, TS.out]; exact H8.out⟩, by simp [intOf]; omega⟩
            · obtain rfl : j = k := by omega
              have hR := HR.out
              rw [List.take_of_length_le (by rw [LEN.out]; exact Nat.le_refl _)] at hR
              have HR2 := Lib.hid hR
              have hlen : (encL l).length = S.size := by rw [← SL.out]; rfl
              have hx6 : ∀ x ∈ l, (encI x).isSome ∧ 1 ≤ x.kind ∧ x.kind ≤ 6 := fun x hx => ⟨WN.out.2 x hx, (NH.out.2 x hx).2.2⟩
              have hA : l.foldl Wri.item (Wri.new (S.size : Int)) = { out := encL l, most := (S.size : Int), err := none } := by
                have hm : Wri.new (S.size : Int) = { out := [], most := (S.size : Int), err := none } := by unfold Wri.new; rw [if_neg (by omega)]
                rw [hm]
                rcases fold_bound l { out := [], most := (S.size : Int), err := none } rfl (by simp) hx6 with ⟨_, h⟩ | ⟨h, _⟩
                · simpa using h
                · simp only [List.nil_append] at h; omega
              have hB : (S.size = 0 ∧ (l.foldl Wri.item (Wri.new ((S.size : Int) - 1))).err = none) ∨ (S.size ≠ 0 ∧ (l.foldl Wri.item (Wri.new ((S.size : Int) - 1))).err = some 2) := by
                by_cases hz : S.size = 0
                · left
                  have hm : Wri.new ((S.size : Int) - 1) = { out := [], most := 0, err := none } := by unfold Wri.new; rw [if_pos (by omega)]
                  rw [hm]
                  rcases fold_bound l { out := [], most := 0, err := none } rfl (by simp) hx6 with ⟨_, h⟩ | ⟨h, _⟩
                  · exact ⟨hz, by rw [h]⟩
                  · simp only [List.nil_append] at h; omega
                · right
                  have hm : Wri.new ((S.size : Int) - 1) = { out := [], most := (S.size : Int) - 1, err := none } := by unfold Wri.new; rw [if_neg (by omega)]
                  rw [hm]
                  rcases fold_bound l { out := [], most := (S.size : Int) - 1, err := none } rfl (by simp; omega) hx6 with ⟨h, _⟩ | ⟨_, h⟩
                  · simp only [List.nil_append] at h; omega
                  · exact ⟨hz, h⟩
              rw [hA] at hR
              generalize l.foldl Wri.item (Wri.new ((S.size : Int) - 1)) = WB at *
              have HR2 := Lib.hid hR
              have HB := Lib.hid hB
              clear hR hlt hA hB hx6 hlen
              go_wp2_with fail
              refine (bytes_w2 HR2.out rfl).mono ?_
              rintro e w7 ⟨rfl, rfl⟩
              dsimp only
              rw [SE.out]
              go_wp2_with fail
              refine HR2.out.symm.wi.bytes.mono ?_
              rintro e w8 ⟨⟨v, rfl, hv⟩, h8⟩
              have H8 := Lib.hid h8
              clear h8
              generalize (if WB.err = none then strB WB.out else ByteArray.empty) = TB
              go_wp2_with fail
              refine (num_nil3 _).mono ?_
              rintro e w9 ⟨rfl, hb9⟩
              have B9 := Lib.hid hb9
              clear hb9
              go_wp2_with fail
              refine (bytes_nil (GG.out.below (H8.out.below B9.out).bel)).mono ?_
              rintro e w10 ⟨vh, bh, rfl, rfl, hwh, hb10⟩
              have HWH := Lib.hid hwh
              have B10 : Hid (Below w.heap.size w w10) := Lib.hid ((H8.out.below B9.out).bel.trans (hb10.mono (H8.out.below B9.out).bel.size))
              have B810 : Hid (Below w8.heap.size w8 w10) := Lib.hid (B9.out.trans (hb10.mono B9.out.size))
              clear hwh hb10
              have G2 : w10.cell? ⟨2, 0, none⟩ = some (.iface 139 (.pointer (some (A 2)))) := (GG.out.below B10.out) 2 (by decide)
              have G3 : w10.cell? ⟨3, 0, none⟩ = some (.iface 139 (.pointer (some (A 3)))) := (GG.out.below B10.out) 3 (by decide)
              have hcase : (S.size = 0 ∧ v = .nilIface) ∨ (S.size ≠ 0 ∧ WrapsT w10 v (A 2)) := by
                rcases HB.out with ⟨h1, h2⟩ | ⟨h1, h2⟩
                · rcases hv with ⟨_, hv⟩ | ⟨j', hj', _⟩
                  · exact .inl ⟨h1, hv⟩
                  · rw [h2] at hj'; cases hj'
                · rcases hv with ⟨hn, _⟩ | ⟨j', hj', hw⟩
                  · rw [h2] at hn; cases hn
                  · rw [h2] at hj'; cases hj'; exact .inr ⟨h1, hw.below B810.out⟩
              clear hv
              rcases hcase with ⟨hz, rfl⟩ | ⟨hz, hw⟩
              · have q : ((S.size : Int) == 0) = true := by simp [hz]
                clear hz
                have S0 : BdC w A (.iface 108 (.pointer (some ⟨bh, 0, none⟩))) none w10 := ⟨G2, G3, B10.out, HWH.out, by simp⟩
                clear G2 G3
                dsimp only [BdC] at S0
                go_wp2_with fail
                refine wp_region_held_drew (S := (fun w' => w'.cell? ⟨2, 0, none⟩ = some (.iface 139 (.pointer (some (A 2)))) ∧ w'.cell? ⟨3, 0, none⟩ = some (.iface 139 (.pointer (some (A 3)))) ∧ BdS w A (.iface 108 (.pointer (some ⟨bh, 0, none⟩))) none w')) (by kernel_rfl) ?_ (fun hHeld => ?_)
                · (try dsimp only); (first | assumption | (exact bd_drew (by assumption)) | (refine bd_bel ?_ hbel; assumption))
                refine wpAnyH_take (i := 0) (v := ?_) rfl (by kernel_rfl) (by kernel_rfl) (by kernel_rfl) (fun _ _ _ h => h) (Or.inl ⟨by rfl, ?_⟩) (by assumption) ?_
                rotate_left; · (intro w hSw; (try dsimp only at hSw); go_simp; try with_reducible rfl)
                (try simp only [Act.put, List.setIfInBounds_toArray, List.set_cons_zero, List.set_cons_succ, List.getElem_toArray, List.getElem_cons_zero, List.getElem_cons_succ])
                refine wpAnyH_take (i := 1) (v := ?_) rfl (by kernel_rfl) (by kernel_rfl) (by kernel_rfl) (fun _ _ _ h => h) (Or.inl ⟨by rfl, ?_⟩) (by assumption) ?_
                rotate_left; · (intro w hSw; (try dsimp only at hSw); go_simp; try with_reducible rfl)
                (try simp only [Act.put, List.setIfInBounds_toArray, List.set_cons_zero, List.set_cons_succ, List.getElem_toArray, List.getElem_cons_zero, List.getElem_cons_succ])
                refine wpAnyH_take (i := 2) (v := ?_) rfl (by kernel_rfl) (by kernel_rfl) (by kernel_rfl) (fun _ _ _ h => h) (Or.inl ⟨by rfl, ?_⟩) (by assumption) ?_
                rotate_left; · (intro w hSw; (try dsimp only at hSw); go_simp; try with_reducible rfl)
                (try simp only [Act.put, List.setIfInBounds_toArray, List.set_cons_zero, List.set_cons_succ, List.getElem_toArray, List.getElem_cons_zero, List.getElem_cons_succ])
                refine wpAnyH_take (i := 3) (v := ?_) rfl (by kernel_rfl) (by kernel_rfl) (by kernel_rfl) (fun _ _ _ h => h) (Or.inl ⟨by rfl, ?_⟩) (by assumption) ?_
                rotate_left; · (intro w hSw; (try dsimp only at hSw); go_simp; try with_reducible rfl)
                (try simp only [Act.put, List.setIfInBounds_toArray, List.set_cons_zero, List.set_cons_succ, List.getElem_toArray, List.getElem_cons_zero, List.getElem_cons_succ])
                refine wpAnyH_take (i := 4) (v := ?_) rfl (by kernel_rfl) (by kernel_rfl) (by kernel_rfl) (fun _ _ _ h => h) (Or.inl ⟨by rfl, ?_⟩) (by assumption) ?_
                rotate_left; · (intro w hSw; (try dsimp only at hSw); go_simp; try with_reducible rfl)
                (try simp only [Act.put, List.setIfInBounds_toArray, List.set_cons_zero, List.set_cons_succ, List.getElem_toArray, List.getElem_cons_zero, List.getElem_cons_succ])
                refine wpAnyH_take (i := 5) (v := ?_) rfl (by kernel_rfl) (by kernel_rfl) (by kernel_rfl) (fun _ _ _ h => h) (Or.inl ⟨by rfl, ?_⟩) (by assumption) ?_
                rotate_left; · (intro w hSw; (try dsimp only at hSw); go_simp; try with_reducible rfl)
                (try simp only [Act.put, List.setIfInBounds_toArray, List.set_cons_zero, List.set_cons_succ, List.getElem_toArray, List.getElem_cons_zero, List.getElem_cons_succ])
                refine wpAnyH_take (i := 6) (v := ?_) rfl (by kernel_rfl) (by kernel_rfl) (by kernel_rfl) (fun _ _ _ h => h) (Or.inl ⟨by rfl, ?_⟩) (by assumption) ?_
                rotate_left; · (intro w hSw; (try dsimp only at hSw); go_simp; try with_reducible rfl)
                (try simp only [Act.put, List.setIfInBounds_toArray, List.set_cons_zero, List.set_cons_succ, List.getElem_toArray, List.getElem_cons_zero, List.getElem_cons_succ])
                refine wpAnyH_take (i := 7) (v := ?_) rfl (by kernel_rfl) (by kernel_rfl) (by kernel_rfl) (fun _ _ _ h => h) (Or.inl ⟨by rfl, ?_⟩) (by assumption) ?_
                rotate_left; · (intro w hSw; (try dsimp only at hSw); go_simp; try with_reducible rfl)
                (try simp only [Act.put, List.setIfInBounds_toArray, List.set_cons_zero, List.set_cons_succ, List.getElem_toArray, List.getElem_cons_zero, List.getElem_cons_succ])
                refine wpAnyH_take (i := 8) (v := ?_) rfl (by kernel_rfl) (by kernel_rfl) (by kernel_rfl) (fun _ _ _ h => h) (Or.inl ⟨by rfl, ?_⟩) (by assumption) ?_
                rotate_left; · (intro w hSw; (try dsimp only at hSw); go_simp; try with_reducible rfl)
                (try simp only [Act.put, List.setIfInBounds_toArray, List.set_cons_zero, List.set_cons_succ, List.getElem_toArray, List.getElem_cons_zero, List.getElem_cons_succ])
                refine wpAnyH_take (i := 9) (v := ?_) rfl (by kernel_rfl) (by kernel_rfl) (by kernel_rfl) (fun _ _ _ h => h) (Or.inl ⟨by rfl, ?_⟩) (by assumption) ?_
                rotate_left; · (intro w hSw; (try dsimp only at hSw); go_simp; try with_reducible rfl)
                (try simp only [Act.put, List.setIfInBounds_toArray, List.set_cons_zero, List.set_cons_succ, List.getElem_toArray, List.getElem_cons_zero, List.getElem_cons_succ])
                refine wpAnyH_take (i := 10) (v := ?_) rfl (by kernel_rfl) (by kernel_rfl) (by kernel_rfl) (fun _ _ _ h => h) (Or.inl ⟨by rfl, ?_⟩) (by assumption) ?_
                rotate_left; · (intro w hSw; (try dsimp only at hSw); go_simp; try with_reducible rfl)
                (try simp only [Act.put, List.setIfInBounds_toArray, List.set_cons_zero, List.set_cons_succ, List.getElem_toArray, List.getElem_cons_zero, List.getElem_cons_succ])
                refine wpAnyH_take (i := 11) (v := ?_) rfl (by kernel_rfl) (by kernel_rfl) (by kernel_rfl) (fun _ _ _ h => h) (Or.inl ⟨by rfl, ?_⟩) (by assumption) ?_
                rotate_left; · (intro w hSw; (try dsimp only at hSw); go_simp; try with_reducible rfl)
                (try simp only [Act.put, List.setIfInBounds_toArray, List.set_cons_zero, List.set_cons_succ, List.getElem_toArray, List.getElem_cons_zero, List.getElem_cons_succ])
                refine wpAnyH_take (i := 12) (v := ?_) rfl (by kernel_rfl) (by kernel_rfl) (by kernel_rfl) (fun _ _ _ h => h) (Or.inl ⟨by rfl, ?_⟩) (by assumption) ?_
                rotate_left; · (intro w hSw; (try dsimp only at hSw); go_simp; try with_reducible rfl)
                (try simp only [Act.put, List.setIfInBounds_toArray, List.set_cons_zero, List.set_cons_succ, List.getElem_toArray, List.getElem_cons_zero, List.getElem_cons_succ])
                refine wpAnyH_take (i := 13) (v := ?_) rfl (by kernel_rfl) (by kernel_rfl) (by kernel_rfl) (fun _ _ _ h => h) (Or.inl ⟨by rfl, ?_⟩) (by assumption) ?_
                rotate_left; · (intro w hSw; (try dsimp only at hSw); go_simp; try with_reducible rfl)
                (try simp only [Act.put, List.setIfInBounds_toArray, List.set_cons_zero, List.set_cons_succ, List.getElem_toArray, List.getElem_cons_zero, List.getElem_cons_succ])
                refine wpAnyH_take (i := 14) (v := ?_) rfl (by kernel_rfl) (by kernel_rfl) (by kernel_rfl) (fun _ _ _ h => h) (Or.inl ⟨by rfl, ?_⟩) (by assumption) ?_
                rotate_left; · (intro w hSw; (try dsimp only at hSw); go_simp; try with_reducible rfl)
                (try simp only [Act.put, List.setIfInBounds_toArray, List.set_cons_zero, List.set_cons_succ, List.getElem_toArray, List.getElem_cons_zero, List.getElem_cons_succ])
                refine wpAnyH_take (i := 15) (v := ?_) rfl (by kernel_rfl) (by kernel_rfl) (by kernel_rfl) (fun _ _ _ h => h) (Or.inl ⟨by rfl, ?_⟩) (by assumption) ?_
                rotate_left; · (intro w hSw; (try dsimp only at hSw); go_simp; try with_reducible rfl)
                (try simp only [Act.put, List.setIfInBounds_toArray, List.set_cons_zero, List.set_cons_succ, List.getElem_toArray, List.getElem_cons_zero, List.getElem_cons_succ])
                refine wpAnyH_take (i := 16) (v := ?_) rfl (by kernel_rfl) (by kernel_rfl) (by kernel_rfl) (fun _ _ _ h => h) (Or.inl ⟨by rfl, ?_⟩) (by assumption) ?_
                rotate_left; · (intro w hSw; (try dsimp only at hSw); go_simp; try with_reducible rfl)
                (try simp only [Act.put, List.setIfInBounds_toArray, List.set_cons_zero, List.set_cons_succ, List.getElem_toArray, List.getElem_cons_zero, List.getElem_cons_succ])
                refine wpAnyH_take (i := 17) (v := ?_) rfl (by kernel_rfl) (by kernel_rfl) (by kernel_rfl) (fun _ _ _ h => h) (Or.inl ⟨by rfl, ?_⟩) (by assumption) ?_
                rotate_left; · (intro w hSw; (try dsimp only at hSw); go_simp; try with_reducible rfl)
                (try simp only [Act.put, List.setIfInBounds_toArray, List.set_cons_zero, List.set_cons_succ, List.getElem_toArray, List.getElem_cons_zero, List.getElem_cons_succ])
                refine wpAnyH_take (i := 18) (v := ?_) rfl (by kernel_rfl) (by kernel_rfl) (by kernel_rfl) (fun _ _ _ h => h) (Or.inl ⟨by rfl, ?_⟩) (by assumption) ?_
                rotate_left; · (intro w hSw; (try dsimp only at hSw); go_simp; try with_reducible rfl)
                (try simp only [Act.put, List.setIfInBounds_toArray, List.set_cons_zero, List.set_cons_succ, List.getElem_toArray, List.getElem_cons_zero, List.getElem_cons_succ])
                refine wpAnyH_take (i := 19) (v := undef) rfl (by kernel_rfl) (by kernel_rfl) (by kernel_rfl) (fun _ _ _ h => h) (Or.inr ⟨by rfl, rfl⟩) (by assumption) ?_
                (try simp only [Act.put, List.setIfInBounds_toArray, List.set_cons_zero, List.set_cons_succ, List.getElem_toArray, List.getElem_cons_zero, List.getElem_cons_succ])
                refine wpAnyH_take (i := 20) (v := undef) rfl (by kernel_rfl) (by kernel_rfl) (by kernel_rfl) (fun _ _ _ h => h) (Or.inr ⟨by rfl, rfl⟩) (by assumption) ?_
                (try simp only [Act.put, List.setIfInBounds_toArray, List.set_cons_zero, List.set_cons_succ, List.getElem_toArray, List.getElem_cons_zero, List.getElem_cons_succ])
                refine wpAnyH_take (i := 21) (v := undef) rfl (by kernel_rfl) (by kernel_rfl) (by kernel_rfl) (fun _ _ _ h => h) (Or.inr ⟨by rfl, rfl⟩) (by assumption) ?_
                (try simp only [Act.put, List.setIfInBounds_toArray, List.set_cons_zero, List.set_cons_succ, List.getElem_toArray, List.getElem_cons_zero, List.getElem_cons_succ])
                refine wpAnyH_take (i := 22) (v := ?_) rfl (by kernel_rfl) (by kernel_rfl) (by kernel_rfl) (fun _ _ _ h => h) (Or.inl ⟨by rfl, ?_⟩) (by assumption) ?_
                rotate_left; · (intro w hSw; (try dsimp only at hSw); go_simp; try with_reducible rfl)
                (try simp only [Act.put, List.setIfInBounds_toArray, List.set_cons_zero, List.set_cons_succ, List.getElem_toArray, List.getElem_cons_zero, List.getElem_cons_succ])
                refine wpAnyH_take (i := 23) (v := ?_) rfl (by kernel_rfl) (by kernel_rfl) (by kernel_rfl) (fun _ _ _ h => h) (Or.inl ⟨by rfl, ?_⟩) (by assumption) ?_
                rotate_left; · (intro w hSw; (try dsimp only at hSw); go_simp; try with_reducible rfl)
                (try simp only [Act.put, List.setIfInBounds_toArray, List.set_cons_zero, List.set_cons_succ, List.getElem_toArray, List.getElem_cons_zero, List.getElem_cons_succ])
                refine wpAnyH_take (i := 24) (v := ?_) rfl (by kernel_rfl) (by kernel_rfl) (by kernel_rfl) (fun _ _ _ h => h) (Or.inl ⟨by rfl, ?_⟩) (by assumption) ?_
                rotate_left; · (intro w hSw; (try dsimp only at hSw); go_simp; try with_reducible rfl)
                (try simp only [Act.put, List.setIfInBounds_toArray, List.set_cons_zero, List.set_cons_succ, List.getElem_toArray, List.getElem_cons_zero, List.getElem_cons_succ])
                refine wpAnyH_take (i := 25) (v := ?_) rfl (by kernel_rfl) (by kernel_rfl) (by kernel_rfl) (fun _ _ _ h => h) (Or.inl ⟨by rfl, ?_⟩) (by assumption) ?_
                rotate_left; · (intro w hSw; (try dsimp only at hSw); go_simp; try with_reducible rfl)
                (try simp only [Act.put, List.setIfInBounds_toArray, List.set_cons_zero, List.set_cons_succ, List.getElem_toArray, List.getElem_cons_zero, List.getElem_cons_succ])
                refine wpAnyH_take (i := 26) (v := ?_) rfl (by kernel_rfl) (by kernel_rfl) (by kernel_rfl) (fun _ _ _ h => h) (Or.inl ⟨by rfl, ?_⟩) (by assumption) ?_
                rotate_left; · (intro w hSw; (try dsimp only at hSw); go_simp; try with_reducible rfl)
                (try simp only [Act.put, List.setIfInBounds_toArray, List.set_cons_zero, List.set_cons_succ, List.getElem_toArray, List.getElem_cons_zero, List.getElem_cons_succ])
                refine wpAnyH_ready (rs := [27]) (by kernel_rfl) (by simp) ?_
                refine AllReadyH.cons rfl (fun K hK => ?_) AllReadyH.nil
                (try simp only [List.getElem_toArray, List.getElem_cons_zero, List.getElem_cons_succ])
                go_simp
                (refine (bd_h (w0 := w) (A := A) (h := .iface 108 (.pointer (some ⟨bh, 0, none⟩))) (g := none) ?_).mono ?_); assumption; rintro e w' ⟨rfl, hbel⟩
                refine hK.out _ _ ?_ (fun hHeld2 => ?_)
                · (try dsimp only); (first | assumption | (exact bd_drew (by assumption)) | (refine bd_bel ?_ hbel; assumption))
                clear hK K hHeld
                have hHeld := hHeld2
                clear hHeld2
                (try simp only [Act.put, List.setIfInBounds_toArray, List.set_cons_zero, List.set_cons_succ, List.getElem_toArray, List.getElem_cons_zero, List.getElem_cons_succ])
                refine wpAnyH_take (i := 28) (v := ?_) rfl (by kernel_rfl) (by kernel_rfl) (by kernel_rfl) (fun _ _ _ h => h) (Or.inl ⟨by rfl, ?_⟩) (by assumption) ?_
                rotate_left; · (intro w hSw; (try dsimp only at hSw); go_simp; try with_reducible rfl)
                (try simp only [Act.put, List.setIfInBounds_toArray, List.set_cons_zero, List.set_cons_succ, List.getElem_toArray, List.getElem_cons_zero, List.getElem_cons_succ])
                refine wpAnyH_take (i := 29) (v := ?_) rfl (by kernel_rfl) (by kernel_rfl) (by kernel_rfl) (fun _ _ _ h => h) (Or.inl ⟨by rfl, ?_⟩) (by assumption) ?_
                rotate_left; · (intro w hSw; (try dsimp only at hSw); go_simp; try with_reducible rfl)
                (try simp only [Act.put, List.setIfInBounds_toArray, List.set_cons_zero, List.set_cons_succ, List.getElem_toArray, List.getElem_cons_zero, List.getElem_cons_succ])
                refine wpAnyH_take (i := 30) (v := ?_) rfl (by kernel_rfl) (by kernel_rfl) (by kernel_rfl) (fun _ _ _ h => h) (Or.inl ⟨by rfl, ?_⟩) (by assumption) ?_
                rotate_left; · (intro w hSw; (try dsimp only at hSw); go_simp; try with_reducible rfl)
                (try simp only [Act.put, List.setIfInBounds_toArray, List.set_cons_zero, List.set_cons_succ, List.getElem_toArray, List.getElem_cons_zero, List.getElem_cons_succ])
                refine wpAnyH_take (i := 32) (v := ?_) rfl (by kernel_rfl) (by kernel_rfl) (by kernel_rfl) (fun _ _ _ h => h) (Or.inl ⟨by rfl, ?_⟩) (by assumption) ?_
                rotate_left; · (intro w hSw; (try dsimp only at hSw); go_simp; try with_reducible rfl)
                (try simp only [Act.put, List.setIfInBounds_toArray, List.set_cons_zero, List.set_cons_succ, List.getElem_toArray, List.getElem_cons_zero, List.getElem_cons_succ])
                refine wpAnyH_ready (rs := [31]) (by kernel_rfl) (by simp) ?_
                refine AllReadyH.cons rfl (fun K hK => ?_) AllReadyH.nil
                (try simp only [List.getElem_toArray, List.getElem_cons_zero, List.getElem_cons_succ])
                go_simp
                (refine (bd_end (w0 := w) (A := A) (h := .iface 108 (.pointer (some ⟨bh, 0, none⟩))) (g := none) GG.out ?_).mono ?_); assumption; rintro e w' ⟨b1, rfl, hw1, hbel⟩
                refine hK.out _ _ ?_ (fun hHeld2 => ?_)
                · (try dsimp only); (first | assumption | (exact bd_drew (by assumption)) | (refine bd_bel ?_ hbel; assumption))
                clear hK K hHeld
                have hHeld := hHeld2
                clear hHeld2
                (try simp only [Act.put, List.setIfInBounds_toArray, List.set_cons_zero, List.set_cons_succ, List.getElem_toArray, List.getElem_cons_zero, List.getElem_cons_succ])
                refine wpAnyH_ready (rs := [33]) (by kernel_rfl) (by simp) ?_
                refine AllReadyH.cons rfl (fun K hK => ?_) AllReadyH.nil
                (try simp only [List.getElem_toArray, List.getElem_cons_zero, List.getElem_cons_succ])
                go_simp
                (refine (isB ?_).mono ?_); assumption; rintro e w' ⟨rfl, hbel⟩
                refine hK.out _ _ ?_ (fun hHeld2 => ?_)
                · (try dsimp only); (first | assumption | (exact bd_drew (by assumption)) | (refine bd_bel ?_ hbel; assumption))
                clear hK K hHeld
                have hHeld := hHeld2
                clear hHeld2
                (try simp only [Act.put, List.setIfInBounds_toArray, List.set_cons_zero, List.set_cons_succ, List.getElem_toArray, List.getElem_cons_zero, List.getElem_cons_succ])
                refine wpAnyH_take (i := 34) (v := ?_) rfl (by kernel_rfl) (by kernel_rfl) (by kernel_rfl) (fun _ _ _ h => h) (Or.inl ⟨by rfl, ?_⟩) (by assumption) ?_
                rotate_left; · (intro w hSw; (try dsimp only at hSw); go_simp; try with_reducible rfl)
                (try simp only [Act.put, List.setIfInBounds_toArray, List.set_cons_zero, List.set_cons_succ, List.getElem_toArray, List.getElem_cons_zero, List.getElem_cons_succ])
                refine wpAnyH_take (i := 35) (v := ?_) rfl (by kernel_rfl) (by kernel_rfl) (by kernel_rfl) (fun _ _ _ h => h) (Or.inl ⟨by rfl, ?_⟩) (by assumption) ?_
                rotate_left; · (intro w hSw; (try dsimp only at hSw); go_simp; try with_reducible rfl)
                (try simp only [Act.put, List.setIfInBounds_toArray, List.set_cons_zero, List.set_cons_succ, List.getElem_toArray, List.getElem_cons_zero, List.getElem_cons_succ])
                refine wpAnyH_take (i := 36) (v := ?_) rfl (by kernel_rfl) (by kernel_rfl) (by kernel_rfl) (fun _ _ _ h => h) (Or.inl ⟨by rfl, ?_⟩) (by assumption) ?_
                rotate_left; · (intro w hSw; (try dsimp only at hSw); go_simp; try with_reducible rfl)
                (try simp only [Act.put, List.setIfInBounds_toArray, List.set_cons_zero, List.set_cons_succ, List.getElem_toArray, List.getElem_cons_zero, List.getElem_cons_succ])
                refine wpAnyH_take (i := 38) (v := ?_) rfl (by kernel_rfl) (by kernel_rfl) (by kernel_rfl) (fun _ _ _ h => h) (Or.inl ⟨by rfl, ?_⟩) (by assumption) ?_
                rotate_left; · (intro w hSw; (try dsimp only at hSw); go_simp; try with_reducible rfl)
                (try simp only [Act.put, List.setIfInBounds_toArray, List.set_cons_zero, List.set_cons_succ, List.getElem_toArray, List.getElem_cons_zero, List.getElem_cons_succ])
                refine wpAnyH_take (i := 41) (v := ?_) rfl (by kernel_rfl) (by kernel_rfl) (by kernel_rfl) (fun _ _ _ h => h) (Or.inl ⟨by rfl, ?_⟩) (by assumption) ?_
                rotate_left; · (intro w hSw; (try dsimp only at hSw); go_simp; try with_reducible rfl)
                (try simp only [Act.put, List.setIfInBounds_toArray, List.set_cons_zero, List.set_cons_succ, List.getElem_toArray, List.getElem_cons_zero, List.getElem_cons_succ])
                refine wpAnyH_take (i := 44) (v := ?_) rfl (by kernel_rfl) (by kernel_rfl) (by kernel_rfl) (fun _ _ _ h => h) (Or.inl ⟨by rfl, ?_⟩) (by assumption) ?_
                rotate_left; · (intro w hSw; (try dsimp only at hSw); go_simp; try with_reducible rfl)
                (try simp only [Act.put, List.setIfInBounds_toArray, List.set_cons_zero, List.set_cons_succ, List.getElem_toArray, List.getElem_cons_zero, List.getElem_cons_succ])
                refine wpAnyH_take (i := 47) (v := ?_) rfl (by kernel_rfl) (by kernel_rfl) (by kernel_rfl) (fun _ _ _ h => h) (Or.inl ⟨by rfl, ?_⟩) (by assumption) ?_
                rotate_left; · (intro w hSw; (try dsimp only at hSw); go_simp; try with_reducible rfl)
                (try simp only [Act.put, List.setIfInBounds_toArray, List.set_cons_zero, List.set_cons_succ, List.getElem_toArray, List.getElem_cons_zero, List.getElem_cons_succ])
                refine wpAnyH_take (i := 51) (v := ?_) rfl (by kernel_rfl) (by kernel_rfl) (by kernel_rfl) (fun _ _ _ h => h) (Or.inl ⟨by rfl, ?_⟩) (by assumption) ?_
                rotate_left; · (intro w hSw; (try dsimp only at hSw); go_simp; try with_reducible rfl)
                (try simp only [Act.put, List.setIfInBounds_toArray, List.set_cons_zero, List.set_cons_succ, List.getElem_toArray, List.getElem_cons_zero, List.getElem_cons_succ])
                refine wpAnyH_take (i := 55) (v := ?_) rfl (by kernel_rfl) (by kernel_rfl) (by kernel_rfl) (fun _ _ _ h => h) (Or.inl ⟨by rfl, ?_⟩) (by assumption) ?_
                rotate_left; · (intro w hSw; (try dsimp only at hSw); go_simp; try with_reducible rfl)
                (try simp only [Act.put, List.setIfInBounds_toArray, List.set_cons_zero, List.set_cons_succ, List.getElem_toArray, List.getElem_cons_zero, List.getElem_cons_succ])
                refine wpAnyH_ready (rs := [37]) (by kernel_rfl) (by simp) ?_
                refine AllReadyH.cons rfl (fun K hK => ?_) AllReadyH.nil
                (try simp only [List.getElem_toArray, List.getElem_cons_zero, List.getElem_cons_succ])
                go_simp
                refine (left_nil _).mono ?_; rintro e w' ⟨rfl, rfl⟩
                refine hK.out _ _ ?_ (fun hHeld2 => ?_)
                · (try dsimp only); (first | assumption | (exact bd_drew (by assumption)) | (refine bd_bel ?_ hbel; assumption))
                clear hK K hHeld
                have hHeld := hHeld2
                clear hHeld2
                (try simp only [Act.put, List.setIfInBounds_toArray, List.set_cons_zero, List.set_cons_succ, List.getElem_toArray, List.getElem_cons_zero, List.getElem_cons_succ])
                refine wpAnyH_ready (rs := [39]) (by kernel_rfl) (by simp) ?_
                refine AllReadyH.cons rfl (fun K hK => ?_) AllReadyH.nil
                (try simp only [List.getElem_toArray, List.getElem_cons_zero, List.getElem_cons_succ])
                go_simp
                refine (rbyte_nil _).mono ?_; rintro e w' ⟨rfl, rfl⟩
                refine hK.out _ _ ?_ (fun hHeld2 => ?_)
                · (try dsimp only); (first | assumption | (exact bd_drew (by assumption)) | (refine bd_bel ?_ hbel; assumption))
                clear hK K hHeld
                have hHeld := hHeld2
                clear hHeld2
                (try simp only [Act.put, List.setIfInBounds_toArray, List.set_cons_zero, List.set_cons_succ, List.getElem_toArray, List.getElem_cons_zero, List.getElem_cons_succ])
                refine wpAnyH_take (i := 40) (v := ?_) rfl (by kernel_rfl) (by kernel_rfl) (by kernel_rfl) (fun _ _ _ h => h) (Or.inl ⟨by rfl, ?_⟩) (by assumption) ?_
                rotate_left; · (intro w hSw; (try dsimp only at hSw); go_simp; try with_reducible rfl)
                (try simp only [Act.put, List.setIfInBounds_toArray, List.set_cons_zero, List.set_cons_succ, List.getElem_toArray, List.getElem_cons_zero, List.getElem_cons_succ])
                refine wpAnyH_ready (rs := [42]) (by kernel_rfl) (by simp) ?_
                refine AllReadyH.cons rfl (fun K hK => ?_) AllReadyH.nil
                (try simp only [List.getElem_toArray, List.getElem_cons_zero, List.getElem_cons_succ])
                go_simp
                refine (rcount_nil _).mono ?_; rintro e w' ⟨rfl, rfl⟩
                refine hK.out _ _ ?_ (fun hHeld2 => ?_)
                · (try dsimp only); (first | assumption | (exact bd_drew (by assumption)) | (refine bd_bel ?_ hbel; assumption))
                clear hK K hHeld
                have hHeld := hHeld2
                clear hHeld2
                (try simp only [Act.put, List.setIfInBounds_toArray, List.set_cons_zero, List.set_cons_succ, List.getElem_toArray, List.getElem_cons_zero, List.getElem_cons_succ])
                refine wpAnyH_take (i := 43) (v := ?_) rfl (by kernel_rfl) (by kernel_rfl) (by kernel_rfl) (fun _ _ _ h => h) (Or.inl ⟨by rfl, ?_⟩) (by assumption) ?_
                rotate_left; · (intro w hSw; (try dsimp only at hSw); go_simp; try with_reducible rfl)
                (try simp only [Act.put, List.setIfInBounds_toArray, List.set_cons_zero, List.set_cons_succ, List.getElem_toArray, List.getElem_cons_zero, List.getElem_cons_succ])
                refine wpAnyH_ready (rs := [45]) (by kernel_rfl) (by simp) ?_
                refine AllReadyH.cons rfl (fun K hK => ?_) AllReadyH.nil
                (try simp only [List.getElem_toArray, List.getElem_cons_zero, List.getElem_cons_succ])
                go_simp
                refine (rnum_nil _).mono ?_; rintro e w' ⟨rfl, rfl⟩
                refine hK.out _ _ ?_ (fun hHeld2 => ?_)
                · (try dsimp only); (first | assumption | (exact bd_drew (by assumption)) | (refine bd_bel ?_ hbel; assumption))
                clear hK K hHeld
                have hHeld := hHeld2
                clear hHeld2
                (try simp only [Act.put, List.setIfInBounds_toArray, List.set_cons_zero, List.set_cons_succ, List.getElem_toArray, List.getElem_cons_zero, List.getElem_cons_succ])
                refine wpAnyH_take (i := 46) (v := ?_) rfl (by kernel_rfl) (by kernel_rfl) (by kernel_rfl) (fun _ _ _ h => h) (Or.inl ⟨by rfl, ?_⟩) (by assumption) ?_
                rotate_left; · (intro w hSw; (try dsimp only at hSw); go_simp; try with_reducible rfl)
                (try simp only [Act.put, List.setIfInBounds_toArray, List.set_cons_zero, List.set_cons_succ, List.getElem_toArray, List.getElem_cons_zero, List.getElem_cons_succ])
                refine wpAnyH_ready (rs := [48]) (by kernel_rfl) (by simp) ?_
                refine AllReadyH.cons rfl (fun K hK => ?_) AllReadyH.nil
                (try simp only [List.getElem_toArray, List.getElem_cons_zero, List.getElem_cons_succ])
                go_simp
                refine (rtext_nil _ _).mono ?_; rintro e w' ⟨rfl, rfl⟩
                refine hK.out _ _ ?_ (fun hHeld2 => ?_)
                · (try dsimp only); (first | assumption | (exact bd_drew (by assumption)) | (refine bd_bel ?_ hbel; assumption))
                clear hK K hHeld
                have hHeld := hHeld2
                clear hHeld2
                (try simp only [Act.put, List.setIfInBounds_toArray, List.set_cons_zero, List.set_cons_succ, List.getElem_toArray, List.getElem_cons_zero, List.getElem_cons_succ])
                refine wpAnyH_take (i := 49) (v := ?_) rfl (by kernel_rfl) (by kernel_rfl) (by kernel_rfl) (fun _ _ _ h => h) (Or.inl ⟨by rfl, ?_⟩) (by assumption) ?_
                rotate_left; · (intro w hSw; (try dsimp only at hSw); go_simp; try with_reducible rfl)
                (try simp only [Act.put, List.setIfInBounds_toArray, List.set_cons_zero, List.set_cons_succ, List.getElem_toArray, List.getElem_cons_zero, List.getElem_cons_succ])
                refine wpAnyH_take (i := 50) (v := ?_) rfl (by kernel_rfl) (by kernel_rfl) (by kernel_rfl) (fun _ _ _ h => h) (Or.inl ⟨by rfl, ?_⟩) (by assumption) ?_
                rotate_left; · (intro w hSw; (try dsimp only at hSw); go_simp; try with_reducible rfl)
                (try simp only [Act.put, List.setIfInBounds_toArray, List.set_cons_zero, List.set_cons_succ, List.getElem_toArray, List.getElem_cons_zero, List.getElem_cons_succ])
                refine wpAnyH_ready (rs := [52]) (by kernel_rfl) (by simp) ?_
                refine AllReadyH.cons rfl (fun K hK => ?_) AllReadyH.nil
                (try simp only [List.getElem_toArray, List.getElem_cons_zero, List.getElem_cons_succ])
                go_simp
                refine (rflags_nil _ _).mono ?_; rintro e w' ⟨rfl, rfl⟩
                refine hK.out _ _ ?_ (fun hHeld2 => ?_)
                · (try dsimp only); (first | assumption | (exact bd_drew (by assumption)) | (refine bd_bel ?_ hbel; assumption))
                clear hK K hHeld
                have hHeld := hHeld2
                clear hHeld2
                (try simp only [Act.put, List.setIfInBounds_toArray, List.set_cons_zero, List.set_cons_succ, List.getElem_toArray, List.getElem_cons_zero, List.getElem_cons_succ])
                refine wpAnyH_take (i := 53) (v := ?_) rfl (by kernel_rfl) (by kernel_rfl) (by kernel_rfl) (fun _ _ _ h => h) (Or.inl ⟨by rfl, ?_⟩) (by assumption) ?_
                rotate_left; · (intro w hSw; (try dsimp only at hSw); go_simp; try with_reducible rfl)
                (try simp only [Act.put, List.setIfInBounds_toArray, List.set_cons_zero, List.set_cons_succ, List.getElem_toArray, List.getElem_cons_zero, List.getElem_cons_succ])
                refine wpAnyH_take (i := 54) (v := ?_) rfl (by kernel_rfl) (by kernel_rfl) (by kernel_rfl) (fun _ _ _ h => h) (Or.inl ⟨by rfl, ?_⟩) (by assumption) ?_
                rotate_left; · (intro w hSw; (try dsimp only at hSw); go_simp; try with_reducible rfl)
                (try simp only [Act.put, List.setIfInBounds_toArray, List.set_cons_zero, List.set_cons_succ, List.getElem_toArray, List.getElem_cons_zero, List.getElem_cons_succ])
                refine wpAnyH_ready (rs := [56]) (by kernel_rfl) (by simp) ?_
                refine AllReadyH.cons rfl (fun K hK => ?_) AllReadyH.nil
                (try simp only [List.getElem_toArray, List.getElem_cons_zero, List.getElem_cons_succ])
                go_simp
                refine (rbits_nil _).mono ?_; rintro e w' ⟨rfl, rfl⟩
                refine hK.out _ _ ?_ (fun hHeld2 => ?_)
                · (try dsimp only); (first | assumption | (exact bd_drew (by assumption)) | (refine bd_bel ?_ hbel; assumption))
                clear hK K hHeld
                have hHeld := hHeld2
                clear hHeld2
                (try simp only [Act.put, List.setIfInBounds_toArray, List.set_cons_zero, List.set_cons_succ, List.getElem_toArray, List.getElem_cons_zero, List.getElem_cons_succ])
                refine wpAnyH_take (i := 57) (v := ?_) rfl (by kernel_rfl) (by kernel_rfl) (by kernel_rfl) (fun _ _ _ h => h) (Or.inl ⟨by rfl, ?_⟩) (by assumption) ?_
                rotate_left; · (intro w hSw; (try dsimp only at hSw); go_simp; try with_reducible rfl)
                (try simp only [Act.put, List.setIfInBounds_toArray, List.set_cons_zero, List.set_cons_succ, List.getElem_toArray, List.getElem_cons_zero, List.getElem_cons_succ])
                refine wpAnyH_take (i := 58) (v := ?_) rfl (by kernel_rfl) (by kernel_rfl) (by kernel_rfl) (fun _ _ _ h => h) (Or.inl ⟨by rfl, ?_⟩) (by assumption) ?_
                rotate_left; · (intro w hSw; (try dsimp only at hSw); go_simp; try with_reducible rfl)
                (try simp only [Act.put, List.setIfInBounds_toArray, List.set_cons_zero, List.set_cons_succ, List.getElem_toArray, List.getElem_cons_zero, List.getElem_cons_succ])
                refine wpAnyH_take (i := 59) (v := ?_) rfl (by kernel_rfl) (by kernel_rfl) (by kernel_rfl) (fun _ _ _ h => h) (Or.inl ⟨by rfl, ?_⟩) (by assumption) ?_
                rotate_left; · (intro w hSw; (try dsimp only at hSw); go_simp; try with_reducible rfl)
                (try simp only [Act.put, List.setIfInBounds_toArray, List.set_cons_zero, List.set_cons_succ, List.getElem_toArray, List.getElem_cons_zero, List.getElem_cons_succ])
                refine wpAnyH_take (i := 60) (v := ?_) rfl (by kernel_rfl) (by kernel_rfl) (by kernel_rfl) (fun _ _ _ h => h) (Or.inl ⟨by rfl, ?_⟩) (by assumption) ?_
                rotate_left; · (intro w hSw; (try dsimp only at hSw); go_simp; try with_reducible rfl)
                (try simp only [Act.put, List.setIfInBounds_toArray, List.set_cons_zero, List.set_cons_succ, List.getElem_toArray, List.getElem_cons_zero, List.getElem_cons_succ])
                refine wpAnyH_take (i := 61) (v := ?_) rfl (by kernel_rfl) (by kernel_rfl) (by kernel_rfl) (fun _ _ _ h => h) (Or.inl ⟨by rfl, ?_⟩) (by assumption) ?_
                rotate_left; · (intro w hSw; (try dsimp only at hSw); go_simp; try with_reducible rfl)
                (try simp only [Act.put, List.setIfInBounds_toArray, List.set_cons_zero, List.set_cons_succ, List.getElem_toArray, List.getElem_cons_zero, List.getElem_cons_succ])
                refine wpAnyH_done (by kernel_rfl) ?_ _
                all_goals
                  have FIN : Hid (BdC w A (.iface 108 (.pointer (some ⟨bh, 0, none⟩))) none w') := Lib.hid (by assumption)
                  go_wp2
                  go_ret
                  exact ⟨rfl, FIN.out.2.2.1⟩
              · have q : ((S.size : Int) == 0) = false := by simpa using hz
                have hw0 := hw
                obtain ⟨bg, Cg, rfl, _⟩ := hw
                have S0 : BdC w A (.iface 108 (.pointer (some ⟨bh, 0, none⟩))) (some (.iface 108 (.pointer (some ⟨bg, 0, none⟩)))) w10 := ⟨G2, G3, B10.out, HWH.out, fun v h => by cases h; exact hw0⟩
                clear hz hw0 G2 G3
                dsimp only [BdC] at S0
                go_wp2_with fail
                go_region_held3 (fun w' => w'.cell? ⟨2, 0, none⟩ = some (.iface 139 (.pointer (some (A 2)))) ∧ w'.cell? ⟨3, 0, none⟩ = some (.iface 139 (.pointer (some (A 3)))) ∧ BdS w A (.iface 108 (.pointer (some ⟨bh, 0, none⟩))) (some (.iface 108 (.pointer (some ⟨bg, 0, none⟩)))) w')
                  ((first | assumption | (exact bd_drew (by assumption)) | (refine bd_bel ?_ hbel; assumption)))
                  (first
                    | (go_at_call 25; (with_reducible refine (left_nil _).mono ?_); rintro e w' ⟨rfl, rfl⟩)
                    | (go_at_call 32; (with_reducible refine (rbyte_nil _).mono ?_); rintro e w' ⟨rfl, rfl⟩)
                    | (go_at_call 33; (with_reducible refine (rcount_nil _).mono ?_); rintro e w' ⟨rfl, rfl⟩)
                    | (go_at_call 34; (with_reducible refine (rnum_nil _).mono ?_); rintro e w' ⟨rfl, rfl⟩)
                    | (go_at_call 35; (with_reducible refine (rtext_nil _ _).mono ?_); rintro e w' ⟨rfl, rfl⟩)
                    | (go_at_call 36; (with_reducible refine (rflags_nil _ _).mono ?_); rintro e w' ⟨rfl, rfl⟩)
                    | (go_at_call 37; (with_reducible refine (rbits_nil _).mono ?_); rintro e w' ⟨rfl, rfl⟩)
                    | (go_at_call 26; (with_reducible refine (bd_end (w0 := w) (A := A) (h := .iface 108 (.pointer (some ⟨bh, 0, none⟩))) (g := (some (.iface 108 (.pointer (some ⟨bg, 0, none⟩))))) GG.out ?_).mono ?_); assumption; rintro e w' ⟨b1, rfl, hw1, hbel⟩)
                    | (go_at_call 27; (with_reducible refine (bd_g (w0 := w) (A := A) (h := .iface 108 (.pointer (some ⟨bh, 0, none⟩))) (v := .iface 108 (.pointer (some ⟨bg, 0, none⟩))) ?_).mono ?_); assumption; rintro e w' ⟨rfl, hbel⟩)
                    | (go_at_call 27; (with_reducible refine (bd_h (w0 := w) (A := A) (h := .iface 108 (.pointer (some ⟨bh, 0, none⟩))) (g := (some (.iface 108 (.pointer (some ⟨bg, 0, none⟩))))) ?_).mono ?_); assumption; rintro e w' ⟨rfl, hbel⟩)
                    | (go_at_call 27; (with_reducible refine (isB ?_).mono ?_); (with_reducible first | assumption | exact WrapsT.dr (by assumption)); rintro e w' ⟨rfl, hbel⟩))
                all_goals
                  have FIN : Hid (BdC w A (.iface 108 (.pointer (some ⟨bh, 0, none⟩))) (some (.iface 108 (.pointer (some ⟨bg, 0, none⟩)))) w') := Lib.hid (by assumption)
                  go_wp2
                  go_ret
                  exact ⟨rfl, FIN.out.2.2.1⟩

end Go.Proofs.YtgdbpicelnoacaaDoor
