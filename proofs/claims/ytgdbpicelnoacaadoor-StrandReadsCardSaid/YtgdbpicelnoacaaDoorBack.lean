/- This text proves the law StrandBack, over the loaded program: its walk. -/
import Derived.Test.YtgdbpicelnoacaaDoorRun
import Derived.Test.YtgdbpicelnoacaaDoorBackPlain
namespace Go.Proofs.YtgdbpicelnoacaaDoor
open Go.RowKit Go.WideShapes

/-- The writer of the laws keeps its bound. -/
def WOk (W : Wri) : Prop := W.most = 1048576 ∧ W.out.length ≤ 1048576
theorem WOk.ok {W : Wri} (h : WOk W) : W.ok := ⟨by rw [h.1]; decide, by rw [h.1]; decide, by have := h.2; omega⟩
theorem WOk.put {W : Wri} (h : WOk W) (bs : List UInt8) : WOk (W.put bs) := by
  obtain ⟨h1, h2⟩ := h
  unfold Wri.put
  split
  · split
    · exact ⟨h1, by simp⟩
    · rename_i hl
      refine ⟨h1, ?_⟩
      rw [List.length_append]
      omega
  · exact ⟨h1, h2⟩
theorem WOk.refuse {W : Wri} (h : WOk W) : WOk W.refuse := by
  unfold Wri.refuse
  split
  · exact ⟨h.1, by simp⟩
  · exact h
theorem WOk.item {W : Wri} (h : WOk W) (i : It) : WOk (W.item i) := by
  unfold Wri.item Wri.byte Wri.count
  repeat' split
  all_goals first | exact h | exact h.put _ | exact h.refuse
def wfold (l : List It) : Wri := l.foldl Wri.item (Wri.new 1048576)
theorem wfold_ok (l : List It) : WOk (wfold l) := by
  have : ∀ (l : List It) (W : Wri), WOk W → WOk (l.foldl Wri.item W) := by
    intro l
    induction l with
    | nil => exact fun W h => h
    | cons i r ih => exact fun W h => ih _ (h.item i)
  exact this l _ ⟨rfl, by decide⟩
theorem wfold_snoc (l : List It) (i : It) : wfold (l ++ [i]) = (wfold l).item i := by simp [wfold]

/-- What all items' bytes are, where all can be put. -/
def encL : List It → List UInt8
  | [] => []
  | i :: r => (encI i).getD [] ++ encL r
theorem encL_append (a b : List It) : encL (a ++ b) = encL a ++ encL b := by
  induction a with
  | nil => rfl
  | cons i r ih => simp [encL, ih]
theorem fold_none : ∀ (l : List It) (W : Wri), (l.foldl Wri.item W).err = none → W.err = none ∧ (l.foldl Wri.item W).out = W.out ++ encL l ∧ ∀ i ∈ l, (encI i).isSome
  | [], W, h => ⟨h, by simp [encL], by simp⟩
  | i :: r, W, h => by
    obtain ⟨h1, h2, h3⟩ := fold_none r (W.item i) h
    obtain ⟨k1, ⟨bs, k2, k3⟩, _⟩ := Wri.item_none h1
    refine ⟨k1, ?_, fun x hx => ?_⟩
    · show (r.foldl Wri.item (W.item i)).out = _
      rw [h2, k3]
      simp [encL, k2]
    · rcases List.mem_cons.1 hx with rfl | hx
      · rw [k2]; rfl
      · exact h3 x hx
theorem wfold_none {l : List It} (h : (wfold l).err = none) : (wfold l).out = encL l ∧ ∀ i ∈ l, (encI i).isSome := by
  obtain ⟨_, h2, h3⟩ := fold_none l _ h
  exact ⟨by rw [wfold, h2]; rfl, h3⟩

/-- Not heavy. -/
theorem not_heavy {l : List It} (h : heavyL l = false) : l.length ≤ 60 ∧ ∀ x ∈ l, x.text.size ≤ 1000 ∧ x.fl.length ≤ 1000 ∧ 1 ≤ x.kind ∧ x.kind ≤ 6 := by
  unfold heavyL at h
  rw [Bool.or_eq_false_iff] at h
  refine ⟨by simpa using h.1, fun x hx => ?_⟩
  have := List.any_eq_false.1 h.2 x hx
  simp [It.heavy] at this
  omega

/-- What the back law holds while it gets an item: ahead of get, behind it. -/
def BkS (w0 : World) (r2 : Nat) (R2 : Rdr) (w : World) : Prop := RI w0 r2 R2 w
abbrev BkC (w0 : World) (b o : Nat) (x : It) (r2 : Nat) (R2 : Rdr) (w : World) : Prop := w.cell? ⟨b, o, none⟩ = some (.int .i64 x.kind) ∧ w.cell? ⟨b, o + 1, none⟩ = some (.int .i64 x.n) ∧ w.cell? ⟨b, o + 2, none⟩ = some (.string x.text) ∧ w.cell? ⟨b, o + 3, none⟩ = some (.slice x.X x.fl.length x.c) ∧ BkS w0 r2 R2 w
def BkPre (w0 : World) (r1 : Nat) (bs t : List UInt8) (w : World) : Prop := RI w0 r1 { rest := bs ++ t, bad := false } w
def BkPost (w0 : World) (r1 : Nat) (t : List UInt8) (x g : It) (w : World) : Prop := RI w0 r1 { rest := t, bad := false } w ∧ g.kind = x.told.kind ∧ g.n = x.told.n ∧ g.text = x.told.text ∧ g.fl = x.told.fl ∧ Cells w g.X (g.fl.map Value.bool)
section
variable {w0 w w' : World} {b o r1 r2 : Nat} {x g : It} {bs t : List UInt8} {R2 : Rdr}
theorem bk_bel (h : BkC w0 b o x r2 R2 w) (hb : Below w.heap.size w w') : BkC w0 b o x r2 R2 w' := by
  have hl := World.block_lt_of_cell? w _ h.1
  exact ⟨(hb.cell (p := ⟨b, o, none⟩) hl).trans h.1, (hb.cell (p := ⟨b, o + 1, none⟩) hl).trans h.2.1, (hb.cell (p := ⟨b, o + 2, none⟩) hl).trans h.2.2.1, (hb.cell (p := ⟨b, o + 3, none⟩) hl).trans h.2.2.2.1, RI.below h.2.2.2.2 hb⟩
theorem bk_drew (h : BkC w0 b o x r2 R2 w) : BkC w0 b o x r2 R2 w.drew := bk_bel h ⟨rfl, rfl, rfl, Nat.le_refl _, fun _ _ => rfl⟩
theorem bk_get (h : BkC w0 b o x r2 R2 w) (hk : Kept [r1] w w' ∧ b ≠ r1 ∧ r2 ≠ r1 ∧ w0.heap.size ≤ r1) : BkC w0 b o x r2 R2 w' := by
  obtain ⟨k, n1, n2, n3⟩ := hk
  obtain ⟨h1, h2, h3, h4, h5⟩ := h
  exact ⟨k.cell h1 (by simpa using n1), k.cell h2 (by simpa using n1), k.cell h3 (by simpa using n1), k.cell h4 (by simpa using n1), h5.1.kept k (by simpa using n2), below_kept h5.2.1 k (by simpa using n3) (Nat.le_refl _), h5.2.2⟩
theorem pre_drew (h : BkPre w0 r1 bs t w) : BkPre w0 r1 bs t w.drew := RI.below h ⟨rfl, rfl, rfl, Nat.le_refl _, fun _ _ => rfl⟩
theorem BkPost.bel (h : BkPost w0 r1 t x g w) (hb : Below w.heap.size w w') : BkPost w0 r1 t x g w' := ⟨h.1.below hb, h.2.1, h.2.2.1, h.2.2.2.1, h.2.2.2.2.1, h.2.2.2.2.2.below hb⟩
theorem post_drew (h : BkPost w0 r1 t x g w) : BkPost w0 r1 t x g w.drew := h.bel ⟨rfl, rfl, rfl, Nat.le_refl _, fun _ _ => rfl⟩
theorem bk_asked (h : BkPre w0 r1 bs t w) : Calls Tryd.prog 28 #[.agg #[.int .i64 x.kind, .int .i64 x.n, .string x.text, .slice x.X x.fl.length x.c]] w fun e w' => e = .returned x.asked.v ∧ Below w.heap.size w w' ∧ BkPre w0 r1 bs t w' :=
  (asked_any x).mono fun _ _ ⟨he, hb⟩ => ⟨he, hb, RI.below h hb⟩
theorem bk_told1 (h : BkPre w0 r1 bs t w) : Calls Tryd.prog 29 #[.agg #[.int .i64 x.kind, .int .i64 x.n, .string x.text, .slice x.X x.fl.length x.c]] w fun e w' => e = .returned x.told.v ∧ Below w.heap.size w w' ∧ BkPre w0 r1 bs t w' :=
  (told_any x).mono fun _ _ ⟨he, hb⟩ => ⟨he, hb, RI.below h hb⟩
theorem bk_told2 (h : BkPost w0 r1 t x g w) : Calls Tryd.prog 29 #[.agg #[.int .i64 x.kind, .int .i64 x.n, .string x.text, .slice x.X x.fl.length x.c]] w fun e w' => e = .returned x.told.v ∧ Below w.heap.size w w' ∧ BkPost w0 r1 t x g w' :=
  (told_any x).mono fun _ _ ⟨he, hb⟩ => ⟨he, hb, h.bel hb⟩
theorem asked_kind (x : It) : x.asked.kind = x.told.kind := by
  unfold It.asked It.told
  repeat' split
  all_goals first | rfl | omega
theorem bk_gets (x : It) (he : encI x = some bs) (hk : 1 ≤ x.kind ∧ x.kind ≤ 6) (ho : x.ok w0) (hts : x.text.size ≤ 1000) (hfs : x.fl.length ≤ 1000) (hn : b ≠ r1 ∧ r2 ≠ r1) (h : BkPre w0 r1 bs t w) :
    Calls Tryd.prog 24 #[.pointer (some ⟨r1, 0, none⟩), x.asked.v] w fun e w' => ∃ g : It, e = .returned g.v ∧ BkPost w0 r1 t x g w' ∧ (Kept [r1] w w' ∧ b ≠ r1 ∧ r2 ≠ r1 ∧ w0.heap.size ≤ r1) := by
  have hao : x.asked.ok w := by
    obtain ⟨h1, h2, h3, h4, h5⟩ := ho.below h.2.1
    unfold It.asked
    split
    · exact ⟨h1, ⟨by simp, by simp; omega⟩, h3, h4, h5⟩
    · split
      · exact ⟨h1, ⟨by simp, by simp; omega⟩, h3, h4, h5⟩
      · exact ⟨h1, h2, h3, h4, h5⟩
  have hg := get_any h.1 x.asked hao
  rw [get_put rfl he rfl hk ho.2.1 hts hfs] at hg
  refine hg.mono ?_
  rintro e w' ⟨⟨g, rfl, g1, g2, g3, g4, g5, g6, g7⟩, hl⟩
  refine ⟨g, rfl, ⟨RI.left h hl, by rw [g1, asked_kind], g2, ByteArray.ext (Array.toList_inj.1 g3), g4, g6⟩, hl.2, hn.1, hn.2, h.2.2⟩
theorem bk_same (ho : x.ok w0) (h : BkPost w0 r1 t x g w) : Calls Tryd.prog 23 #[g.v, x.told.v] w fun e w' => e = .returned (.bool true) ∧ Below w.heap.size w w' ∧ BkPost w0 r1 t x g w' := by
  obtain ⟨h1, h2, h3, h4, h5, h6⟩ := h
  have hC : Cells w x.told.X (x.told.fl.map Value.bool) := by
    have := (ho.below h1.2.1).2.2.2.2
    unfold It.told
    repeat' split
    all_goals first | exact this | exact Cells.nil _ _
  have hl : g.fl.length ≤ 100000 := by
    rw [h5]
    have := ho.2.2.2.1
    unfold It.told
    repeat' split
    all_goals first | exact this | simp
  refine (same_any g x.told h6 hC hl).mono ?_
  rintro e w' ⟨rfl, hb⟩
  refine ⟨by unfold It.same; simp [h2, h3, h4, h5], hb, BkPost.bel ⟨h1, h2, h3, h4, h5, h6⟩ hb⟩
end

set_option maxRecDepth 100000 in
set_option maxHeartbeats 3200000 in
theorem back_any (w : World) (A : Nat → Addr) (hG : Glob w A) (X : Option Addr) (l : List It) (c : Nat) (hI : Items w X l) : Calls Tryd.prog 5 #[.slice X l.length c] w fun e w' => e = .returned (.bool true) ∧ Below w.heap.size w w' := by
  have GG := Lib.hid hG
  have II := Lib.hid hI
  have HV := Lib.hid (heavy_any w X l c hI)
  clear hG hI
  obtain ⟨hv, hhv⟩ : ∃ hv, heavyL l = hv := ⟨_, rfl⟩
  obtain ⟨len, hlen⟩ : ∃ len, l.length = len := ⟨_, rfl⟩
  have LEN := Lib.hid hlen
  rw [hlen]
  go_enter Tryd.func5, Tryd.ntmps5
  go_wp2_with fail
  refine (awake_any w A GG.out).mono ?_
  rintro e w1 ⟨rfl, hb1⟩
  have B1 := Lib.hid hb1
  clear hb1
  go_wp2_with fail
  have hh := heavy_any w1 X l c (II.out.below B1.out)
  rw [hlen, hhv] at hh
  have HH := Lib.hid hh
  clear hh
  refine HH.out.mono ?_
  rintro e w2 ⟨rfl, rfl⟩
  cases hv with
  | true =>
    clear hhv hlen
    go_wp2_with fail
    go_ret
    exact ⟨rfl, B1.out⟩
  | false =>
    have NH := Lib.hid (not_heavy hhv)
    have hl60 : (len : Int) ≤ 60 := by have := NH.out.1; omega
    clear hhv hlen
    go_wp2_with fail
    refine (wi_new A 1048576 B1.out).mono ?_
    rintro e w3 ⟨rfl, h3⟩
    obtain ⟨wb, hwb⟩ : ∃ wb, w1.heap.size = wb := ⟨_, rfl⟩
    rw [hwb] at h3 ⊢
    have H3 := Lib.hid h3
    clear h3 hwb
    go_wp2_with fail
    go_loopw [4] (fun iv wr => ∃ k : Nat, k ≤ len ∧ iv = .int .i64 k ∧ WI A w wb (wfold (l.take k)) wr) (fun iv _ => len - (intOf iv).toNat)
    case atStart => exact ⟨0, Nat.zero_le _, rfl, H3.out⟩
    case round =>
      obtain ⟨k, hk, rfl, hW⟩ := hrel
      have HW := Lib.hid hW
      clear hW
      by_cases hlt : k < len
      · obtain ⟨x, hx⟩ : ∃ x, l[k]? = some x := ⟨l[k]'(by rw [LEN.out]; exact hlt), by simp [show k < l.length by rw [LEN.out]; exact hlt]⟩
        obtain ⟨⟨b, o, rfl, h0, h1, h2, h3⟩, m1, m2, m3, m4, m5⟩ := (II.out.below HW.out.bel) k x hx
        have hxm := NH.out.2 x (List.mem_of_getElem? hx)
        have hxo : x.ok w := by
          obtain ⟨_, n1, n2, n3, n4, n5⟩ := II.out k x hx
          exact ⟨n1, n2, by omega, by omega, n5⟩
        have PUT := Lib.hid (HW.out.put (wfold_ok _).ok GG.out x hxo)
        have hts : wfold (l.take (k + 1)) = (wfold (l.take k)).item x := by
          have hkl : k < l.length := by rw [LEN.out]; exact hlt
          rw [List.take_succ_eq_append_getElem hkl]
          rw [List.getElem?_eq_getElem hkl] at hx
          cases hx
          exact wfold_snoc _ _
        have TS := Lib.hid hts
        obtain ⟨kind, n, text, fl, X', c'⟩ := x
        dsimp only at h0 h1 h2 h3
        have i0 : (0 : Int) ≤ (k : Int) := by omega
        have i1 : (k : Int) < (len : Int) := by omega
        clear hx m1 m2 m3 m4 m5 hxm hxo hts
        go_wp2_with fail
        refine PUT.out.mono ?_
        rintro e w4 ⟨rfl, h4⟩
        rw [← TS.out] at h4
        have H4 := Lib.hid h4
        clear h4
        go_wp2_with fail
        exact ⟨⟨k + 1, by omega, by go_num, H4.out⟩, by simp [intOf]; omega⟩
      · obtain rfl : k = len := by omega
        have hW := HW.out
        rw [List.take_of_length_le (by rw [LEN.out]; exact Nat.le_refl _)] at hW
        have HW2 := Lib.hid hW
        clear hW hlt
        go_wp2_with fail
        refine HW2.out.bytes.mono ?_
        rintro e w4 ⟨⟨v, rfl, hv⟩, h4⟩
        have H4 := Lib.hid h4
        clear h4
        cases he : (wfold l).err with
        | some j =>
          rw [he] at hv
          obtain ⟨b, C, rfl, _⟩ : WrapsT w4 v (A j) := by
            rcases hv with ⟨hn, _⟩ | ⟨j', hj, hw⟩
            · cases hn
            · cases hj; exact hw
          clear hv he
          go_wp2_with fail
          go_ret
          exact ⟨rfl, H4.out.bel⟩
        | none =>
          rw [he] at hv
          obtain rfl : v = .nilIface := by
            rcases hv with ⟨_, hv⟩ | ⟨j', hj, _⟩
            · exact hv
            · cases hj
          have WN := Lib.hid (wfold_none he)
          clear hv he
          obtain ⟨S, hS⟩ : ∃ S, strB (wfold l).out = S := ⟨_, rfl⟩
          have hSl : S.data.toList = encL l := by rw [← hS, ← WN.out.1]; simp [strB]
          have hSz : S.size ≤ 1048576 := by
            have e : S.size = S.data.toList.length := rfl
            have := (wfold_ok l).2
            rw [WN.out.1] at this
            rw [e, hSl]; exact this
          simp only [hS, if_true]
          have SL := Lib.hid hSl
          have SZ := Lib.hid hSz
          clear hS hSl hSz
          go_wp2_with fail
          refine (ri_new (w0 := w) S (by have := SZ.out; simp only [maxLen]; omega) H4.out.bel).mono ?_
          rintro e w5 ⟨rfl, h5⟩
          obtain ⟨r1, hr1⟩ : ∃ r1, w4.heap.size = r1 := ⟨_, rfl⟩
          rw [hr1, SL.out] at h5
          rw [hr1]
          have H5 := Lib.hid h5
          clear h5 hr1
          have qs : ¬ 9223372036854775807 < S.size + 1 := by have := SZ.out; omega
          go_wp2_with fail
          clear qs
          have hS2 : (S ++ (⟨#[120]⟩ : ByteArray)).data.toList = encL l ++ [120] := by rw [← SL.out]; simp
          have hZ2 : (S ++ (⟨#[120]⟩ : ByteArray)).size ≤ maxLen := by
            have e : (S ++ (⟨#[120]⟩ : ByteArray)).size = (S ++ (⟨#[120]⟩ : ByteArray)).data.toList.length := rfl
            have e2 : S.size = S.data.toList.length := rfl
            have := SZ.out
            rw [e, hS2, ← SL.out, List.length_append, ← e2]
            simp only [maxLen, List.length_singleton]; omega
          refine (rnew_any _ hZ2 w5).mono ?_
          rintro e w6 ⟨rfl, h6a, hb6⟩
          have h6 : RI w w5.heap.size { rest := (S ++ (⟨#[120]⟩ : ByteArray)).data.toList, bad := false } w6 := ⟨h6a, H5.out.2.1.trans (hb6.mono H5.out.2.1.size), H5.out.2.1.size⟩
          obtain ⟨r2, hr2⟩ : ∃ r2, w5.heap.size = r2 := ⟨_, rfl⟩
          have hne : r1 < r2 := by rw [← hr2]; exact H5.out.1.lt
          rw [hr2, hS2] at h6
          rw [hr2]
          have h56 : RI w r1 { rest := encL l, bad := false } w6 := H5.out.below hb6
          have H6 := Lib.hid (And.intro h56 h6)
          have NE := Lib.hid hne
          clear h6 h6a hb6 h56 hr2 hne hS2 hZ2
          go_wp2_with fail
          go_loopw [9] (fun iv wr => ∃ j : Nat, j ≤ k ∧ iv = .int .i64 j ∧ RI w r1 { rest := encL (l.drop j), bad := false } wr ∧ RI w r2 { rest := encL (l.drop j) ++ [120], bad := false } wr) (fun iv _ => k - (intOf iv).toNat)
          case atStart => exact ⟨0, Nat.zero_le _, rfl, H6.out⟩
          case round =>
            obtain ⟨j, hj, rfl, hR1, hR2⟩ := hrel
            have HR := Lib.hid (And.intro hR1 hR2)
            clear hR1 hR2
            by_cases hlt : j < k
            · obtain ⟨x, hx⟩ : ∃ x, l[j]? = some x := ⟨l[j]'(by rw [LEN.out]; exact hlt), by simp [show j < l.length by rw [LEN.out]; exact hlt]⟩
              obtain ⟨⟨b, o, rfl, h0, h1, h2, h3⟩, _, _, _, _, _⟩ := (II.out.below HR.out.1.2.1) j x hx
              have hxm := NH.out.2 x (List.mem_of_getElem? hx)
              have hxo : x.ok w := by
                obtain ⟨_, n1, n2, n3, n4, n5⟩ := II.out j x hx
                exact ⟨n1, n2, by omega, by omega, n5⟩
              obtain ⟨bs, hbs⟩ := Option.isSome_iff_exists.1 (WN.out.2 x (List.mem_of_getElem? hx))
              have hd : encL (l.drop j) = bs ++ encL (l.drop (j + 1)) := by
                have hjl : j < l.length := by rw [LEN.out]; exact hlt
                rw [List.getElem?_eq_getElem hjl] at hx
                cases hx
                rw [← List.getElem_cons_drop hjl]
                simp only [encL, hbs, Option.getD_some]
              have hbn : b < w.heap.size := by
                obtain ⟨⟨b', o', he, k0, _⟩, _⟩ := II.out j x hx
                cases he
                exact World.block_lt_of_cell? w _ k0
              have hR := HR.out
              rw [hd] at hR
              obtain ⟨t, ht⟩ : ∃ t, encL (l.drop (j + 1)) = t := ⟨_, rfl⟩
              rw [ht, List.append_assoc] at hR
              have TT := Lib.hid ht
              have OK := Lib.hid hxo
              have XM := Lib.hid hxm
              have BSH := Lib.hid hbs
              have hn : b ≠ r1 ∧ r2 ≠ r1 := ⟨by have := hR.1.2.2; omega, by have := NE.out; omega⟩
              have NN := Lib.hid hn
              have N2 : Hid (b ≠ r2 ∧ r1 ≠ r2) := Lib.hid ⟨by have := hR.2.2.2; omega, by have := NE.out; omega⟩
              have P0 : BkPre w r1 bs t wr := hR.1
              have S0 : BkC w b (o + j * 4) x r2 { rest := bs ++ (t ++ [120]), bad := false } wr := ⟨h0, h1, h2, h3, hR.2⟩
              clear hx hxm hxo hbs hd hbn hR ht hn h0 h1 h2 h3 HR HW HW2 HV HH H3 H4 H5 H6
              obtain ⟨kind, n, text, fl, X', c'⟩ := x
              have i0 : (0 : Int) ≤ (j : Int) := by omega
              have i1 : (j : Int) < (k : Int) := by omega
              go_wp2_with fail
              dsimp only [BkC] at S0
              go_region_held3 (fun w' => w'.cell? ⟨b, o + j * 4, none⟩ = some (.int .i64 kind) ∧ w'.cell? ⟨b, o + j * 4 + 1, none⟩ = some (.int .i64 n) ∧ w'.cell? ⟨b, o + j * 4 + 2, none⟩ = some (.string text) ∧ w'.cell? ⟨b, o + j * 4 + 3, none⟩ = some (.slice X' fl.length c') ∧ BkS w r2 { rest := bs ++ (t ++ [120]), bad := false } w')
                ((first | assumption | (exact bk_drew (x := ⟨kind, n, text, fl, X', c'⟩) (by assumption)) | (refine bk_bel (x := ⟨kind, n, text, fl, X', c'⟩) ?_ hbel; assumption) | (refine bk_get (x := ⟨kind, n, text, fl, X', c'⟩) ?_ hkg; assumption)))
                (first
                  | (go_at_call 28; (with_reducible refine (bk_asked (w0 := w) (r1 := r1) (bs := bs) (t := t) (x := ⟨kind, n, text, fl, X', c'⟩) ?_).mono ?_); (with_reducible first | assumption | exact pre_drew (by assumption) | exact pre_drew (pre_drew (by assumption))); rintro e w' ⟨rfl, hbel, hpre⟩)
                  | (go_at_call 24; (with_reducible refine (bk_gets (b := b) (r2 := r2) (t := t) ⟨kind, n, text, fl, X', c'⟩ BSH.out XM.out.2.2 OK.out XM.out.1 XM.out.2.1 NN.out ?_).mono ?_); (with_reducible first | assumption | exact pre_drew (by assumption) | exact pre_drew (pre_drew (by assumption))); rintro e w' ⟨g, rfl, hpost, hkg⟩)
                  | (go_at_call 29; (with_reducible refine (bk_told1 (w0 := w) (r1 := r1) (bs := bs) (t := t) (x := ⟨kind, n, text, fl, X', c'⟩) ?_).mono ?_); (with_reducible first | assumption | exact pre_drew (by assumption) | exact pre_drew (pre_drew (by assumption))); rintro e w' ⟨rfl, hbel, hpre⟩)
                  | (go_at_call 29; (with_reducible refine (bk_told2 (w0 := w) (r1 := r1) (t := t) (x := ⟨kind, n, text, fl, X', c'⟩) (g := g) ?_).mono ?_); (with_reducible first | assumption | exact post_drew (by assumption) | exact post_drew (post_drew (by assumption))); rintro e w' ⟨rfl, hbel, hpost⟩)
                  | (go_at_call 23; (with_reducible refine (bk_same (r1 := r1) (t := t) (x := ⟨kind, n, text, fl, X', c'⟩) (g := g) OK.out ?_).mono ?_); (with_reducible first | assumption | exact post_drew (by assumption) | exact post_drew (post_drew (by assumption))); rintro e w' ⟨rfl, hbel, hpost⟩))
              all_goals
                have S1 : BkC w b (o + j * 4) ⟨kind, n, text, fl, X', c'⟩ r2 { rest := bs ++ (t ++ [120]), bad := false } w' := by assumption
                have P1 : BkPost w r1 t ⟨kind, n, text, fl, X', c'⟩ g w' := by first | assumption | exact post_drew (by assumption)
                obtain ⟨k0, k1, k2, k3, hr2⟩ := S1
                have HR2 := Lib.hid hr2
                have HP1 := Lib.hid P1.1
                clear hr2 P1
                dsimp only at k0 k1 k2 k3
                go_wp2_with fail
                refine (bk_asked (w0 := w) (r1 := r2) (bs := bs) (t := t ++ [120]) (x := ⟨kind, n, text, fl, X', c'⟩) HR2.out).mono ?_
                rintro e w8 ⟨rfl, hb8, hp8⟩
                have R8 := Lib.hid (RI.below HP1.out hb8)
                have P8 := Lib.hid hp8
                clear hb8 hp8
                go_wp2_with fail
                refine (bk_gets (b := b) (r2 := r1) (t := t ++ [120]) ⟨kind, n, text, fl, X', c'⟩ BSH.out XM.out.2.2 OK.out XM.out.1 XM.out.2.1 N2.out P8.out).mono ?_
                rintro e w9 ⟨g2, rfl, hp9, hk9⟩
                have FIN : Hid (RI w r1 { rest := t, bad := false } w9 ∧ RI w r2 { rest := t ++ [120], bad := false } w9) := Lib.hid ⟨⟨R8.out.1.kept hk9.1 (by simpa using N2.out.2), below_kept R8.out.2.1 hk9.1 (by simpa using hk9.2.2.2) (Nat.le_refl _), R8.out.2.2⟩, hp9.1⟩
                clear hp9 hk9
                go_wp2_with fail
                exact ⟨⟨j + 1, by omega, by go_num, by rw [TT.out]; exact FIN.out⟩, by simp [intOf]; omega⟩
            · obtain rfl : j = k := by omega
              have hR := HR.out
              rw [List.drop_eq_nil_of_le (by rw [LEN.out]; exact Nat.le_refl _)] at hR
              have HR2 := Lib.hid (show RI w r1 { rest := [], bad := false } wr ∧ RI w r2 { rest := [120], bad := false } wr from hR)
              clear hR hlt
              go_wp2_with fail
              refine (left_any HR2.out.1.1).mono ?_
              rintro e w7 ⟨rfl, rfl⟩
              go_wp2_with fail
              refine (end_any HR2.out.1.1 (GG.out.below HR2.out.1.2.1)).mono ?_
              rintro e w7 ⟨v, rfl, hb, hv⟩
              obtain rfl : v = .nilIface := by
                rcases hv with ⟨_, hv⟩ | ⟨j', hj', _⟩
                · exact hv
                · cases hj'
              have H7 := Lib.hid (HR2.out.2.below hb)
              clear hb hv
              go_wp2_with fail
              refine (left_any H7.out.1).mono ?_
              rintro e w8 ⟨rfl, rfl⟩
              go_wp2_with fail
              refine (end_any H7.out.1 (GG.out.below H7.out.2.1)).mono ?_
              rintro e w8 ⟨v, rfl, hb, hv⟩
              obtain ⟨b8, rfl⟩ : ∃ b, v = .iface 108 (.pointer (some ⟨b, 0, none⟩)) := by
                rcases hv with ⟨hn, _⟩ | ⟨j', _, b, C, hv, _⟩
                · cases hn
                · exact ⟨b, hv⟩
              have H8 := Lib.hid (H7.out.below hb)
              clear hb hv
              go_wp2_with fail
              go_ret
              exact ⟨rfl, H8.out.2.1⟩

end Go.Proofs.YtgdbpicelnoacaaDoor
