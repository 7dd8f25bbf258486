/- This text proves the law StrandCuts, over the loaded program: its walk. -/
import Derived.Test.YtgdbpicelnoacaaDoorBack
import Derived.Test.YtgdbpicelnoacaaDoorCutsPlain
namespace Go.Proofs.YtgdbpicelnoacaaDoor
open Go.RowKit Go.WideShapes

/-- Where a cut reader stands ahead of the j-th item. -/
def CutAt (l : List It) (j : Nat) (R : Rdr) (d : Bool) : Prop := (R.bad = false ∧ d = false ∧ ∃ m, R.rest = (encL (l.drop j)).take m ∧ m < (encL (l.drop j)).length) ∨ R.bad = true
/-- One item on. -/
theorem CutAt.step {l : List It} {j : Nat} {R : Rdr} {d : Bool} {x : It} (h : CutAt l j R d) (hx : l[j]? = some x) (he : (encI x).isSome) (hk : 1 ≤ x.kind ∧ x.kind ≤ 6) (hn : In64 x.n) (hts : x.text.size ≤ 1000) (hfs : x.fl.length ≤ 1000) :
    (d = false ∧ (R.get x.asked).1.rest.length ≤ R.rest.length ∧ (R.get x.asked).2 = (x.told.n, x.told.text.data.toList, x.told.fl) ∧ CutAt l (j + 1) (R.get x.asked).1 false) ∨
    ((R.get x.asked).1.rest = R.rest ∧ (R.get x.asked).1.bad = true ∧ (R.get x.asked).2 = (0, [], [])) := by
  rcases h with ⟨h1, h2, m, h3, h4⟩ | h
  · obtain ⟨bs, hbs⟩ := Option.isSome_iff_exists.1 he
    have hd : encL (l.drop j) = bs ++ encL (l.drop (j + 1)) := by
      have hjl : j < l.length := (List.getElem?_eq_some_iff.1 hx).1
      rw [List.getElem?_eq_getElem hjl] at hx
      cases hx
      rw [← List.getElem_cons_drop hjl]
      simp only [encL, hbs, Option.getD_some]
    rw [hd] at h3 h4
    by_cases hm : m < bs.length
    · rw [List.take_append_of_le_length (by omega)] at h3
      have := get_cut h1 hbs hm h3 hk hn hts hfs
      rw [this]
      exact .inr ⟨rfl, rfl, rfl⟩
    · rw [List.take_append, List.take_of_length_le (by omega)] at h3
      have := get_put h1 hbs h3 hk hn hts hfs
      rw [this]
      rw [List.length_append] at h4
      exact .inl ⟨h2, by rw [h3, List.length_append]; simp, rfl, .inl ⟨rfl, rfl, _, rfl, by omega⟩⟩
  · rw [get_bad h]
    exact .inr ⟨rfl, h, rfl⟩

/-- What holds while a law asks a wrong reader for its end. -/
def EnS (w0 : World) (rb : Nat) (R : Rdr) (w : World) : Prop := RI w0 rb R w
abbrev EnC (w0 : World) (rb : Nat) (R : Rdr) (A : Nat → Addr) (w : World) : Prop := w.cell? ⟨0, 0, none⟩ = some (.iface 139 (.pointer (some (A 0)))) ∧ EnS w0 rb R w
section
variable {w0 w : World} {rb : Nat} {R : Rdr} {A : Nat → Addr}
theorem en_bel {w' : World} (h : EnC w0 rb R A w) (hb : Below w.heap.size w w') : EnC w0 rb R A w' := ⟨(hb.cell (World.block_lt_of_cell? w _ h.1)).trans h.1, RI.below h.2 hb⟩
theorem en_drew (h : EnC w0 rb R A w) : EnC w0 rb R A w.drew := en_bel h ⟨rfl, rfl, rfl, Nat.le_refl _, fun _ _ => rfl⟩
theorem en_out (h : EnC w0 rb R A w) : Below w0.heap.size w0 w := h.2.2.1
theorem en_end (hG : Glob w0 A) (hr : R.right = false) (h : EnC w0 rb R A w) : Calls Tryd.prog 26 #[.pointer (some ⟨rb, 0, none⟩)] w fun e w' => ∃ b, e = .returned (.iface 108 (.pointer (some ⟨b, 0, none⟩))) ∧ WrapsT w' (.iface 108 (.pointer (some ⟨b, 0, none⟩))) (A 0) ∧ Below w.heap.size w w' := by
  refine (end_any h.2.1 (hG.below (en_out h))).mono ?_
  rw [hr]
  rintro e w' ⟨v, rfl, hb, hv⟩
  rcases hv with ⟨hn, _⟩ | ⟨j, hj, hw⟩
  · cases hn
  · cases hj
    have hw0 := hw
    obtain ⟨b, C, rfl, _⟩ := hw
    exact ⟨b, rfl, hw0, hb⟩
end

theorem told_kind (x : It) : x.told.kind = x.kind := by
  unfold It.told
  repeat' split
  all_goals first | rfl | (dsimp only; omega)
/-- What holds while the cuts' law compares an item. -/
def CtS (w0 : World) (rb : Nat) (R : Rdr) (x g : It) (w : World) : Prop := RI w0 rb R w ∧ Cells w g.X (g.fl.map Value.bool) ∧ Cells w x.X (x.fl.map Value.bool)
abbrev CtC (w0 : World) (rb : Nat) (R : Rdr) (b o tb : Nat) (x g : It) (w : World) : Prop :=
  w.cell? ⟨b, o, none⟩ = some (.int .i64 x.kind) ∧ w.cell? ⟨b, o + 1, none⟩ = some (.int .i64 x.n) ∧ w.cell? ⟨b, o + 2, none⟩ = some (.string x.text) ∧ w.cell? ⟨b, o + 3, none⟩ = some (.slice x.X x.fl.length x.c) ∧
  w.cell? ⟨tb, 0, none⟩ = some (.int .i64 g.kind) ∧ w.cell? ⟨tb, 1, none⟩ = some (.int .i64 g.n) ∧ w.cell? ⟨tb, 2, none⟩ = some (.string g.text) ∧ w.cell? ⟨tb, 3, none⟩ = some (.slice g.X g.fl.length g.c) ∧ CtS w0 rb R x g w
section
variable {w0 w w' : World} {rb b o tb : Nat} {R : Rdr} {x g : It}
theorem ct_bel (h : CtC w0 rb R b o tb x g w) (hb : Below w.heap.size w w') : CtC w0 rb R b o tb x g w' := by
  obtain ⟨h0, h1, h2, h3, k0, k1, k2, k3, m1, m2, m3⟩ := h
  have hl := World.block_lt_of_cell? w _ h0
  have hk := World.block_lt_of_cell? w _ k0
  exact ⟨(hb.cell (p := ⟨b, o, none⟩) hl).trans h0, (hb.cell (p := ⟨b, o + 1, none⟩) hl).trans h1, (hb.cell (p := ⟨b, o + 2, none⟩) hl).trans h2, (hb.cell (p := ⟨b, o + 3, none⟩) hl).trans h3, (hb.cell (p := ⟨tb, 0, none⟩) hk).trans k0, (hb.cell (p := ⟨tb, 1, none⟩) hk).trans k1, (hb.cell (p := ⟨tb, 2, none⟩) hk).trans k2, (hb.cell (p := ⟨tb, 3, none⟩) hk).trans k3, m1.below hb, m2.below hb, m3.below hb⟩
theorem ct_drew (h : CtC w0 rb R b o tb x g w) : CtC w0 rb R b o tb x g w.drew := ct_bel h ⟨rfl, rfl, rfl, Nat.le_refl _, fun _ _ => rfl⟩
theorem ct_ri (h : CtC w0 rb R b o tb x g w) : RI w0 rb R w := h.2.2.2.2.2.2.2.2.1
theorem ct_told (x : It) : Calls Tryd.prog 29 #[.agg #[.int .i64 x.kind, .int .i64 x.n, .string x.text, .slice x.X x.fl.length x.c]] w fun e w' => e = .returned x.told.v ∧ Below w.heap.size w w' := told_any x
theorem told_cells (h : Cells w x.X (x.fl.map Value.bool)) : Cells w x.told.X (x.told.fl.map Value.bool) := by
  unfold It.told
  repeat' split
  all_goals first | exact h | exact Cells.nil _ _
theorem ct_same (hl : g.fl.length ≤ 100000) (h : CtC w0 rb R b o tb x g w) : Calls Tryd.prog 23 #[.agg #[.int .i64 g.kind, .int .i64 g.n, .string g.text, .slice g.X g.fl.length g.c], x.told.v] w fun e w' => e = .returned (.bool (g.same x.told)) ∧ Below w.heap.size w w' :=
  same_any g x.told h.2.2.2.2.2.2.2.2.2.1 (told_cells h.2.2.2.2.2.2.2.2.2.2) hl
theorem ct_same0 (hl : g.fl.length ≤ 100000) (h : CtC w0 rb R b o tb x g w) : Calls Tryd.prog 23 #[.agg #[.int .i64 g.kind, .int .i64 g.n, .string g.text, .slice g.X g.fl.length g.c], .agg #[.int .i64 x.kind, .int .i64 0, .string ⟨#[]⟩, .slice none 0 0]] w fun e w' => e = .returned (.bool (g.same ⟨x.kind, 0, ⟨#[]⟩, [], none, 0⟩)) ∧ Below w.heap.size w w' :=
  same_any g ⟨x.kind, 0, ⟨#[]⟩, [], none, 0⟩ h.2.2.2.2.2.2.2.2.2.1 (Cells.nil _ _) hl
theorem ct_left (h : CtC w0 rb R b o tb x g w) : Calls Tryd.prog 25 #[.pointer (some ⟨rb, 0, none⟩)] w fun e w' => e = .returned (.int .i64 (R.rest.length : Int)) ∧ w = w' := left_any (ct_ri h).1
end

set_option maxRecDepth 100000 in
set_option maxHeartbeats 3200000 in
theorem cuts_any (w : World) (A : Nat → Addr) (hG : Glob w A) (X : Option Addr) (l : List It) (c : Nat) (hI : Items w X l) (cut : Int) (hcut : In64 cut) : Calls Tryd.prog 7 #[.slice X l.length c, .int .i64 cut] w fun e w' => e = .returned (.bool true) ∧ Below w.heap.size w w' := by
  have GG := Lib.hid hG
  have II := Lib.hid hI
  have HV := Lib.hid (heavy_any w X l c hI)
  have CC := Lib.hid hcut
  clear hG hI hcut
  obtain ⟨hv, hhv⟩ : ∃ hv, heavyL l = hv := ⟨_, rfl⟩
  obtain ⟨len, hlen⟩ : ∃ len, l.length = len := ⟨_, rfl⟩
  have LEN := Lib.hid hlen
  rw [hlen]
  go_enter Tryd.func7, Tryd.ntmps7
  go_wp2_with fail
  refine (awake_any w A GG.out).mono ?_
  rintro e w1 ⟨rfl, hb1⟩
  have B1 := Lib.hid hb1
  clear hb1
  go_wp2_with fail
  have hh := heavy_any w1 X l c (II.out.below B1.out)
  rw [hlen, hhv] at hh
  have HH := Lib.hid hh
  clear hh
  refine HH.out.mono ?_
  rintro e w2 ⟨rfl, rfl⟩
  cases hv with
  | true =>
    clear hhv hlen
    go_wp2_with fail
    go_ret
    exact ⟨rfl, B1.out⟩
  | false =>
    have NH := Lib.hid (not_heavy hhv)
    have hl60 : (len : Int) ≤ 60 := by have := NH.out.1; omega
    clear hhv hlen
    go_wp2_with fail
    refine (wi_new A 1048576 B1.out).mono ?_
    rintro e w3 ⟨rfl, h3⟩
    obtain ⟨wb, hwb⟩ : ∃ wb, w1.heap.size = wb := ⟨_, rfl⟩
    rw [hwb] at h3 ⊢
    have H3 := Lib.hid h3
    clear h3 hwb
    go_wp2_with fail
    go_loopw [6] (fun iv wr => ∃ k : Nat, k ≤ len ∧ iv = .int .i64 k ∧ WI A w wb (wfold (l.take k)) wr) (fun iv _ => len - (intOf iv).toNat)
    case atStart => exact ⟨0, Nat.zero_le _, rfl, H3.out⟩
    case round =>
      obtain ⟨k, hk, rfl, hW⟩ := hrel
      have HW := Lib.hid hW
      clear hW
      by_cases hlt : k < len
      · obtain ⟨x, hx⟩ : ∃ x, l[k]? = some x := ⟨l[k]'(by rw [LEN.out]; exact hlt), by simp [show k < l.length by rw [LEN.out]; exact hlt]⟩
        obtain ⟨⟨b, o, rfl, h0, h1, h2, h3⟩, m1, m2, m3, m4, m5⟩ := (II.out.below HW.out.bel) k x hx
        have hxm := NH.out.2 x (List.mem_of_getElem? hx)
        have hxo : x.ok w := by
          obtain ⟨_, n1, n2, n3, n4, n5⟩ := II.out k x hx
          exact ⟨n1, n2, by omega, by omega, n5⟩
        have PUT := Lib.hid (HW.out.put (wfold_ok _).ok GG.out x hxo)
        have hts : wfold (l.take (k + 1)) = (wfold (l.take k)).item x := by
          have hkl : k < l.length := by rw [LEN.out]; exact hlt
          rw [List.take_succ_eq_append_getElem hkl]
          rw [List.getElem?_eq_getElem hkl] at hx
          cases hx
          exact wfold_snoc _ _
        have TS := Lib.hid hts
        obtain ⟨kind, n, text, fl, X', c'⟩ := x
        dsimp only at h0 h1 h2 h3
        have i0 : (0 : Int) ≤ (k : Int) := by omega
        have i1 : (k : Int) < (len : Int) := by omega
        clear hx m1 m2 m3 m4 m5 hxm hxo hts
        go_wp2_with fail
        refine PUT.out.mono ?_
        rintro e w4 ⟨rfl, h4⟩
        rw [← TS.out] at h4
        have H4 := Lib.hid h4
        clear h4
        go_wp2_with fail
        exact ⟨⟨k + 1, by omega, by go_num, H4.out⟩, by simp [intOf]; omega⟩
      · obtain rfl : k = len := by omega
        have hW := HW.out
        rw [List.take_of_length_le (by rw [LEN.out]; exact Nat.le_refl _)] at hW
        have HW2 := Lib.hid hW
        clear hW hlt
        go_wp2_with fail
        refine HW2.out.bytes.mono ?_
        rintro e w4 ⟨⟨v, rfl, hv⟩, h4⟩
        have H4 := Lib.hid h4
        clear h4
        cases he : (wfold l).err with
        | some j =>
          rw [he] at hv
          obtain ⟨b, C, rfl, _⟩ : WrapsT w4 v (A j) := by
            rcases hv with ⟨hn, _⟩ | ⟨j', hj, hw⟩
            · cases hn
            · cases hj; exact hw
          clear hv he
          go_wp2_with fail
          go_ret
          exact ⟨rfl, H4.out.bel⟩
        | none =>
          rw [he] at hv
          obtain rfl : v = .nilIface := by
            rcases hv with ⟨_, hv⟩ | ⟨j', hj, _⟩
            · exact hv
            · cases hj
          have WN := Lib.hid (wfold_none he)
          clear hv he
          obtain ⟨S, hS⟩ : ∃ S, strB (wfold l).out = S := ⟨_, rfl⟩
          have hSl : S.data.toList = encL l := by rw [← hS, ← WN.out.1]; simp [strB]
          have hSz : S.size ≤ 1048576 := by
            have e : S.size = S.data.toList.length := rfl
            have := (wfold_ok l).2
            rw [WN.out.1] at this
            rw [e, hSl]; exact this
          simp only [hS, if_true]
          have SL := Lib.hid hSl
          have SZ := Lib.hid hSz
          clear hS hSl hSz
          by_cases hz : S.size = 0
          · have q : ((S.size : Int) == 0) = true := by simp [hz]
            clear hz
            go_wp2_with fail
            go_ret
            exact ⟨rfl, H4.out.bel⟩
          · have q : ((S.size : Int) == 0) = false := by simpa using hz
            have hp : (0 : Int) < (S.size : Int) := by omega
            have hw1 : IntKind.u64.wrap (S.size : Int) = (S.size : Int) := by rw [wrapU]; have := SZ.out; omega
            have hu0 : 0 ≤ IntKind.u64.wrap cut := by rw [wrapU]; omega
            obtain ⟨m, hm, hms⟩ : ∃ m : Nat, wrap64 ((IntKind.u64.wrap cut).tmod (S.size : Int)) = (m : Int) ∧ m < S.size := by
              have h1 : (IntKind.u64.wrap cut).tmod (S.size : Int) = IntKind.u64.wrap cut % (S.size : Int) := Int.tmod_eq_emod_of_nonneg hu0
              have h2 := Int.emod_nonneg (IntKind.u64.wrap cut) (show (S.size : Int) ≠ 0 by omega)
              have h3 := Int.emod_lt_of_pos (IntKind.u64.wrap cut) hp
              refine ⟨(IntKind.u64.wrap cut % (S.size : Int)).toNat, ?_, by omega⟩
              rw [h1, IntWalk.wrap64_in _ (by have := SZ.out; omega)]
              omega
            have q5 : ¬ (S.size : Int) = 0 := by omega
            have q6 : (0 : Int) ≤ (m : Int) := by omega
            have q7 : (m : Int) ≤ (S.size : Int) := by omega
            have MS := Lib.hid hms
            clear hz hp hu0 hms
            go_wp2_with fail
            have hE : (S.extract 0 m).data.toList = (encL l).take m := by rw [extract_take, SL.out]
            have hEs : (S.extract 0 m).size ≤ maxLen := by have := SZ.out; simp only [ByteArray.size_extract, maxLen]; omega
            refine (ri_new (w0 := w) _ hEs H4.out.bel).mono ?_
            rintro e w5 ⟨rfl, h5⟩
            rw [hE] at h5
            obtain ⟨rb, hrb⟩ : ∃ rb, w4.heap.size = rb := ⟨_, rfl⟩
            rw [hrb] at h5 ⊢
            have H5 := Lib.hid h5
            clear h5 hrb hE hEs
            go_wp2_with fail
            go_loopw [11, 12, 13] (fun lv dv iv wr => ∃ (j : Nat) (R : Rdr) (d : Bool), j ≤ k ∧ iv = .int .i64 j ∧ lv = .int .i64 (R.rest.length : Int) ∧ dv = .bool d ∧ RI w rb R wr ∧ CutAt l j R d) (fun _ _ iv _ => k - (intOf iv).toNat)
            case atStart =>
              have hl : (encL l).length = S.size := by rw [← SL.out]; rfl
              exact ⟨0, _, false, Nat.zero_le _, rfl, by rw [List.length_take, hl, Nat.min_eq_left (by have := MS.out; omega)], rfl, H5.out, .inl ⟨rfl, rfl, m, rfl, by rw [List.drop_zero, hl]; exact MS.out⟩⟩
            case round =>
              obtain ⟨j, R, d, hj, rfl, rfl, rfl, hR, hC⟩ := hrel
              have HR := Lib.hid hR
              have HC := Lib.hid hC
              clear hR hC
              by_cases hlt : j < k
              · obtain ⟨x, hx⟩ : ∃ x, l[j]? = some x := ⟨l[j]'(by rw [LEN.out]; exact hlt), by simp [show j < l.length by rw [LEN.out]; exact hlt]⟩
                obtain ⟨⟨b, o, rfl, h0, h1, h2, h3⟩, m1, m2, m3, m4, m5⟩ := (II.out.below HR.out.2.1) j x hx
                have hxm := NH.out.2 x (List.mem_of_getElem? hx)
                have hxo : x.ok wr := ⟨m1, m2, by omega, by omega, m5⟩
                have ST := Lib.hid (HC.out.step hx (WN.out.2 x (List.mem_of_getElem? hx)) hxm.2.2 m2 hxm.1 hxm.2.1)
                have hbn : b ≠ rb := by
                  obtain ⟨⟨b', o', he, k0, _⟩, _⟩ := II.out j x hx
                  cases he
                  have := World.block_lt_of_cell? w _ k0
                  have := HR.out.2.2
                  dsimp only at *
                  omega
                have BN := Lib.hid hbn
                have hao : ∀ wz, Below wr.heap.size wr wz → x.asked.ok wz := fun wz hz => by
                  obtain ⟨k1, k2, k3, k4, k5⟩ := hxo.below hz
                  unfold It.asked
                  split
                  · exact ⟨k1, ⟨by simp, by simp; omega⟩, k3, k4, k5⟩
                  · split
                    · exact ⟨k1, ⟨by simp, by simp; omega⟩, k3, k4, k5⟩
                    · exact ⟨k1, k2, k3, k4, k5⟩
                have AO := Lib.hid hao
                have XO := Lib.hid hxo
                have AK := Lib.hid (asked_kind x)
                have AS := Lib.hid (asked_any (w := wr) x)
                have HX := Lib.hid hx
                obtain ⟨xa, hxa⟩ : ∃ xa, x.asked = xa := ⟨_, rfl⟩
                rw [hxa] at ST AO AK AS
                clear hx m1 m2 m3 m4 m5 hxm hxo hbn hao hxa
                obtain ⟨kind, n, text, fl, X', c'⟩ := x
                dsimp only at h0 h1 h2 h3
                have i0 : (0 : Int) ≤ (j : Int) := by omega
                have i1 : (j : Int) < (k : Int) := by omega
                go_wp2_with fail
                refine AS.out.mono ?_
                rintro e w6 ⟨rfl, hb6⟩
                have R6 := Lib.hid (HR.out.below hb6)
                have G6 := Lib.hid (get_any R6.out.1 xa (AO.out w6 hb6))
                have B6 := Lib.hid hb6
                clear hb6
                go_wp2_with fail
                refine G6.out.mono ?_
                rintro e w7 ⟨⟨g, rfl, g1, g2, g3, g4, g5, g6, g7⟩, hl⟩
                have R7 := Lib.hid (R6.out.left hl)
                have cc : w7.cell? ⟨b, o + j * 4, none⟩ = some (.int .i64 kind) ∧ w7.cell? ⟨b, o + j * 4 + 1, none⟩ = some (.int .i64 n) ∧ w7.cell? ⟨b, o + j * 4 + 2, none⟩ = some (.string text) ∧ w7.cell? ⟨b, o + j * 4 + 3, none⟩ = some (.slice X' fl.length c') := by
                  have k6 := Kept.of_below (fp := [rb]) B6.out
                  have kk := k6.trans hl.2 (by simp)
                  exact ⟨kk.cell h0 (by simpa using BN.out), kk.cell h1 (by simpa using BN.out), kk.cell h2 (by simpa using BN.out), kk.cell h3 (by simpa using BN.out)⟩
                obtain ⟨gk, gn, gt, gf, gX, gc⟩ := g
                dsimp only at g1 g2 g3 g4 g5 g6 g7
                have GF := Lib.hid (And.intro g1 (And.intro g2 (And.intro g3 (And.intro g4 (And.intro g5 g6)))))
                generalize hget : R.get xa = gr at *
                obtain ⟨R1, p1, p2, p3⟩ := gr
                dsimp only at ST R7 GF
                have al := (Below.refl w7.heap.size w7).alloc (Nat.le_refl _) (.cells #[.int .i64 gk, .int .i64 gn, .string gt, .slice gX gf.length gc] 30)
                have R8 := Lib.hid (R7.out.below al)
                have L8 := Lib.hid (left_any R8.out.1)
                obtain ⟨c0, c1, c2, c3⟩ := cc
                have d0 := (Kept.alloc w7 (.cells #[.int .i64 gk, .int .i64 gn, .string gt, .slice gX gf.length gc] 30)).cell c0 (by simp)
                have d1 := (Kept.alloc w7 (.cells #[.int .i64 gk, .int .i64 gn, .string gt, .slice gX gf.length gc] 30)).cell c1 (by simp)
                have d2 := (Kept.alloc w7 (.cells #[.int .i64 gk, .int .i64 gn, .string gt, .slice gX gf.length gc] 30)).cell c2 (by simp)
                have d3 := (Kept.alloc w7 (.cells #[.int .i64 gk, .int .i64 gn, .string gt, .slice gX gf.length gc] 30)).cell c3 (by simp)
                clear h0 h1 h2 h3 c0 c1 c2 c3 g1 g2 g3 g4 g5 g6 g7 hl hget al
                dsimp only [It.v]
                have XC := Lib.hid (II.out j _ HX.out).2.2.2.2.2
                have e8 := heap_alloc_new w7 (.cells #[.int .i64 gk, .int .i64 gn, .string gt, .slice gX gf.length gc] 30)
                have e0 : (w7.alloc (.cells #[.int .i64 gk, .int .i64 gn, .string gt, .slice gX gf.length gc] 30)).cell? ⟨w7.heap.size, 0, none⟩ = some (.int .i64 gk) := by simp only [World.cell?, e8]; rfl
                have S8 : Hid (CtC w rb R1 b (o + j * 4) w7.heap.size ⟨kind, n, text, fl, X', c'⟩ ⟨gk, gn, gt, gf, gX, gc⟩ (w7.alloc (.cells #[.int .i64 gk, .int .i64 gn, .string gt, .slice gX gf.length gc] 30))) :=
                  Lib.hid ⟨d0, d1, d2, d3, e0, by simp only [World.cell?, e8]; rfl, by simp only [World.cell?, e8]; rfl, by simp only [World.cell?, e8]; rfl, R8.out, GF.out.2.2.2.2.2.below ((Below.refl w7.heap.size w7).alloc (Nat.le_refl _) _), XC.out.below R8.out.2.1⟩
                clear e8 e0
                rcases ST.out with ⟨s1, s2, s3, s4⟩ | ⟨s1, s2, s3⟩
                · subst s1
                  have q9 : decide ((R.rest.length : Int) < (R1.rest.length : Int)) = false := by simp; omega
                  have q9n : decide (R.rest.length < R1.rest.length) = false := by simp; omega
                  have GO := Lib.hid (And.intro s3 s4)
                  have hsame : It.same ⟨gk, gn, gt, gf, gX, gc⟩ (It.told ⟨kind, n, text, fl, X', c'⟩) = true := by
                    have e1 := GO.out.1
                    have e3 := AK.out
                    obtain ⟨f1, f2, f3, f4, f5, f6⟩ := GF.out
                    simp only [Prod.mk.injEq] at e1
                    unfold It.same
                    simp only [Bool.and_eq_true, decide_eq_true_eq]
                    exact ⟨⟨⟨f1.trans e3, f2.trans e1.1⟩, ByteArray.ext (Array.toList_inj.1 (f3.trans e1.2.1))⟩, f4.trans e1.2.2⟩
                  have GL : Hid (gf.length ≤ 100000) := Lib.hid (by
                    have h := XO.out.2.2.2.1
                    have e1 := GO.out.1
                    dsimp only at h
                    simp only [Prod.mk.injEq] at e1
                    rw [GF.out.2.2.2.1, e1.2.2]
                    unfold It.told
                    repeat' split
                    all_goals first | exact h | simp)
                  clear s2 s3 s4
                  go_wp2_with fail
                  refine L8.out.mono ?_
                  rintro e w9 ⟨rfl, rfl⟩
                  go_wp2_with fail
                  go_quiet (fail)
                  clear d0 d1 d2 d3
                  obtain ⟨V, hV⟩ : ∃ V, V = (w7.alloc (.cells #[.int .i64 gk, .int .i64 gn, .string gt, .slice gX gf.length gc] 30)).drewN nq := ⟨_, rfl⟩
                  rw [← hV]
                  have S9 : CtC w rb R1 b (o + j * 4) w7.heap.size ⟨kind, n, text, fl, X', c'⟩ ⟨gk, gn, gt, gf, gX, gc⟩ V := by
                    rw [hV]
                    exact ct_bel S8.out ⟨rfl, rfl, rfl, Nat.le_refl _, fun _ _ => rfl⟩
                  clear hV
                  dsimp only [CtC] at S9
                  go_wp2_with fail
                  go_region_held3 (fun w' => w'.cell? ⟨b, o + j * 4, none⟩ = some (.int .i64 kind) ∧ w'.cell? ⟨b, o + j * 4 + 1, none⟩ = some (.int .i64 n) ∧ w'.cell? ⟨b, o + j * 4 + 2, none⟩ = some (.string text) ∧ w'.cell? ⟨b, o + j * 4 + 3, none⟩ = some (.slice X' fl.length c') ∧ w'.cell? ⟨w7.heap.size, 0, none⟩ = some (.int .i64 gk) ∧ w'.cell? ⟨w7.heap.size, 1, none⟩ = some (.int .i64 gn) ∧ w'.cell? ⟨w7.heap.size, 2, none⟩ = some (.string gt) ∧ w'.cell? ⟨w7.heap.size, 3, none⟩ = some (.slice gX gf.length gc) ∧ CtS w rb R1 ⟨kind, n, text, fl, X', c'⟩ ⟨gk, gn, gt, gf, gX, gc⟩ w')
                    ((first | assumption | (exact ct_drew (x := ⟨kind, n, text, fl, X', c'⟩) (g := ⟨gk, gn, gt, gf, gX, gc⟩) (by assumption)) | (refine ct_bel (x := ⟨kind, n, text, fl, X', c'⟩) (g := ⟨gk, gn, gt, gf, gX, gc⟩) ?_ hbel; assumption)))
                    (first
                      | (go_at_call 29; (with_reducible refine (ct_told ⟨kind, n, text, fl, X', c'⟩).mono ?_); rintro e w' ⟨rfl, hbel⟩)
                      | (go_at_call 23; (with_reducible refine (ct_same (w0 := w) (rb := rb) (R := R1) (b := b) (o := o + j * 4) (tb := w7.heap.size) (x := ⟨kind, n, text, fl, X', c'⟩) (g := ⟨gk, gn, gt, gf, gX, gc⟩) GL.out ?_).mono ?_); assumption; rintro e w' ⟨rfl, hbel⟩))
                  all_goals
                    have E10 : Hid (CtC w rb R1 b (o + j * 4) w7.heap.size ⟨kind, n, text, fl, X', c'⟩ ⟨gk, gn, gt, gf, gX, gc⟩ w') := Lib.hid (by assumption)
                    go_wp2_with fail
                    refine (ct_left E10.out).mono ?_
                    rintro e w11 ⟨rfl, rfl⟩
                    go_wp2_with fail
                    exact ⟨⟨j + 1, R1, false, by omega, by go_num, rfl, rfl, ct_ri E10.out, GO.out.2⟩, by simp [intOf]; omega⟩
                · obtain ⟨rs1, bd1⟩ := R1
                  dsimp only at s1 s2 L8
                  subst s1 s2
                  have GL : Hid (gf.length ≤ 100000) := Lib.hid (by
                    rw [GF.out.2.2.2.1, (Prod.mk.inj (Prod.mk.inj s3).2).2]; simp)
                  have PP := Lib.hid s3
                  clear s3
                  cases d with
                  | false =>
                    obtain ⟨sm, hsm⟩ : ∃ sm, It.same ⟨gk, gn, gt, gf, gX, gc⟩ (It.told ⟨kind, n, text, fl, X', c'⟩) = sm := ⟨_, rfl⟩
                    go_wp2_with fail
                    refine L8.out.mono ?_
                    rintro e w9 ⟨rfl, rfl⟩
                    go_wp2_with fail
                    go_quiet (fail)
                    clear d0 d1 d2 d3
                    obtain ⟨V, hV⟩ : ∃ V, V = (w7.alloc (.cells #[.int .i64 gk, .int .i64 gn, .string gt, .slice gX gf.length gc] 30)).drewN nq := ⟨_, rfl⟩
                    rw [← hV]
                    have S9 : CtC w rb ⟨R.rest, true⟩ b (o + j * 4) w7.heap.size ⟨kind, n, text, fl, X', c'⟩ ⟨gk, gn, gt, gf, gX, gc⟩ V := by
                      rw [hV]
                      exact ct_bel S8.out ⟨rfl, rfl, rfl, Nat.le_refl _, fun _ _ => rfl⟩
                    clear hV
                    dsimp only [CtC] at S9
                    go_wp2_with fail
                    go_region_held3 (fun w' => w'.cell? ⟨b, o + j * 4, none⟩ = some (.int .i64 kind) ∧ w'.cell? ⟨b, o + j * 4 + 1, none⟩ = some (.int .i64 n) ∧ w'.cell? ⟨b, o + j * 4 + 2, none⟩ = some (.string text) ∧ w'.cell? ⟨b, o + j * 4 + 3, none⟩ = some (.slice X' fl.length c') ∧ w'.cell? ⟨w7.heap.size, 0, none⟩ = some (.int .i64 gk) ∧ w'.cell? ⟨w7.heap.size, 1, none⟩ = some (.int .i64 gn) ∧ w'.cell? ⟨w7.heap.size, 2, none⟩ = some (.string gt) ∧ w'.cell? ⟨w7.heap.size, 3, none⟩ = some (.slice gX gf.length gc) ∧ CtS w rb ⟨R.rest, true⟩ ⟨kind, n, text, fl, X', c'⟩ ⟨gk, gn, gt, gf, gX, gc⟩ w')
                      ((first | assumption | (exact ct_drew (x := ⟨kind, n, text, fl, X', c'⟩) (g := ⟨gk, gn, gt, gf, gX, gc⟩) (by assumption)) | (refine ct_bel (x := ⟨kind, n, text, fl, X', c'⟩) (g := ⟨gk, gn, gt, gf, gX, gc⟩) ?_ hbel; assumption)))
                      (first
                        | (go_at_call 29; (with_reducible refine (ct_told ⟨kind, n, text, fl, X', c'⟩).mono ?_); rintro e w' ⟨rfl, hbel⟩)
                        | (go_at_call 23; (with_reducible refine (ct_same (w0 := w) (rb := rb) (R := ⟨R.rest, true⟩) (b := b) (o := o + j * 4) (tb := w7.heap.size) (x := ⟨kind, n, text, fl, X', c'⟩) (g := ⟨gk, gn, gt, gf, gX, gc⟩) GL.out ?_).mono ?_); assumption; rintro e w' ⟨rfl, hbel⟩))
                    all_goals
                      have E10 : Hid (CtC w rb ⟨R.rest, true⟩ b (o + j * 4) w7.heap.size ⟨kind, n, text, fl, X', c'⟩ ⟨gk, gn, gt, gf, gX, gc⟩ w') := Lib.hid (by assumption)
                      go_wp2_with fail
                      refine (ct_left E10.out).mono ?_
                      rintro e w11 ⟨rfl, rfl⟩
                      go_wp2_with fail
                      exact ⟨⟨j + 1, ⟨R.rest, true⟩, _, by omega, by go_num, rfl, rfl, ct_ri E10.out, .inr rfl⟩, by simp [intOf]; omega⟩
                  | true =>
                    have hsm : It.same ⟨gk, gn, gt, gf, gX, gc⟩ ⟨kind, 0, ⟨#[]⟩, [], none, 0⟩ = true := by
                      have e1 := PP.out
                      have e3 := AK.out
                      obtain ⟨f1, f2, f3, f4, f5, f6⟩ := GF.out
                      simp only [Prod.mk.injEq] at e1
                      unfold It.same
                      simp only [Bool.and_eq_true, decide_eq_true_eq]
                      refine ⟨⟨⟨f1.trans (e3.trans ?_), f2.trans e1.1⟩, ByteArray.ext (Array.toList_inj.1 (f3.trans e1.2.1))⟩, f4.trans e1.2.2⟩
                      exact told_kind _
                    go_wp2_with fail
                    refine L8.out.mono ?_
                    rintro e w9 ⟨rfl, rfl⟩
                    go_wp2_with fail
                    clear d0 d1 d2 d3
                    obtain ⟨V, hV⟩ : ∃ V, V = (w7.alloc (.cells #[.int .i64 gk, .int .i64 gn, .string gt, .slice gX gf.length gc] 30)) := ⟨_, rfl⟩
                    rw [← hV]
                    have S9 : CtC w rb ⟨R.rest, true⟩ b (o + j * 4) w7.heap.size ⟨kind, n, text, fl, X', c'⟩ ⟨gk, gn, gt, gf, gX, gc⟩ V := by
                      rw [hV]
                      exact S8.out
                    clear hV
                    dsimp only [CtC] at S9
                    go_region_held3 (fun w' => w'.cell? ⟨b, o + j * 4, none⟩ = some (.int .i64 kind) ∧ w'.cell? ⟨b, o + j * 4 + 1, none⟩ = some (.int .i64 n) ∧ w'.cell? ⟨b, o + j * 4 + 2, none⟩ = some (.string text) ∧ w'.cell? ⟨b, o + j * 4 + 3, none⟩ = some (.slice X' fl.length c') ∧ w'.cell? ⟨w7.heap.size, 0, none⟩ = some (.int .i64 gk) ∧ w'.cell? ⟨w7.heap.size, 1, none⟩ = some (.int .i64 gn) ∧ w'.cell? ⟨w7.heap.size, 2, none⟩ = some (.string gt) ∧ w'.cell? ⟨w7.heap.size, 3, none⟩ = some (.slice gX gf.length gc) ∧ CtS w rb ⟨R.rest, true⟩ ⟨kind, n, text, fl, X', c'⟩ ⟨gk, gn, gt, gf, gX, gc⟩ w')
                      ((first | assumption | (exact ct_drew (x := ⟨kind, n, text, fl, X', c'⟩) (g := ⟨gk, gn, gt, gf, gX, gc⟩) (by assumption)) | (refine ct_bel (x := ⟨kind, n, text, fl, X', c'⟩) (g := ⟨gk, gn, gt, gf, gX, gc⟩) ?_ hbel; assumption)))
                      (first
                        | (go_at_call 25; (with_reducible refine (ct_left (w0 := w) (rb := rb) (R := ⟨R.rest, true⟩) (b := b) (o := o + j * 4) (tb := w7.heap.size) (x := ⟨kind, n, text, fl, X', c'⟩) (g := ⟨gk, gn, gt, gf, gX, gc⟩) ?_).mono ?_); assumption; rintro e w' ⟨rfl, rfl⟩)
                        | (go_at_call 23; (with_reducible refine (ct_same0 (w0 := w) (rb := rb) (R := ⟨R.rest, true⟩) (b := b) (o := o + j * 4) (tb := w7.heap.size) (x := ⟨kind, n, text, fl, X', c'⟩) (g := ⟨gk, gn, gt, gf, gX, gc⟩) GL.out ?_).mono ?_); assumption; rintro e w' ⟨rfl, hbel⟩))
                    all_goals
                      have E10 : Hid (CtC w rb ⟨R.rest, true⟩ b (o + j * 4) w7.heap.size ⟨kind, n, text, fl, X', c'⟩ ⟨gk, gn, gt, gf, gX, gc⟩ w') := Lib.hid (by assumption)
                      go_wp2_with fail
                      go_quiet (fail)
                      have E11 : Hid (CtC w rb ⟨R.rest, true⟩ b (o + j * 4) w7.heap.size ⟨kind, n, text, fl, X', c'⟩ ⟨gk, gn, gt, gf, gX, gc⟩ (w'.drewN nq)) := Lib.hid (ct_bel E10.out ⟨rfl, rfl, rfl, Nat.le_refl _, fun _ _ => rfl⟩)
                      go_wp2_with fail
                      refine (ct_left E11.out).mono ?_
                      rintro e w11 ⟨rfl, rfl⟩
                      go_wp2_with fail
                      exact ⟨⟨j + 1, ⟨R.rest, true⟩, _, by omega, by go_num, rfl, rfl, ct_ri E11.out, .inr rfl⟩, by simp [intOf]; omega⟩
              · obtain rfl : j = k := by omega
                have hbad : R.bad = true := by
                  rcases HC.out with ⟨_, _, m', _, h⟩ | h
                  · rw [List.drop_eq_nil_of_le (by rw [LEN.out]; exact Nat.le_refl _)] at h
                    simp [encL] at h
                  · exact h
                have hr : R.right = false := by simp [Rdr.right, hbad]
                have RH := Lib.hid hr
                clear hr hbad hlt
                have S0 : EnC w rb R A wr := ⟨GG.out.below HR.out.2.1 0 (by decide), HR.out⟩
                go_wp2_with fail
                go_region_held3 (fun w' => w'.cell? ⟨0, 0, none⟩ = some (.iface 139 (.pointer (some (A 0)))) ∧ EnS w rb R w')
                  ((first | assumption | (exact en_drew (by assumption)) | (refine en_bel ?_ hbel; assumption)))
                  (first
                    | (go_at_call 26; (with_reducible refine (en_end (w0 := w) (R := R) (A := A) GG.out RH.out ?_).mono ?_); assumption; rintro e w' ⟨b1, rfl, hw1, hbel⟩)
                    | (go_at_call 27; (with_reducible refine (isB ?_).mono ?_); (with_reducible first | assumption | exact WrapsT.dr (by assumption)); rintro e w' ⟨rfl, hbel⟩))
                all_goals
                  go_wp2
                  go_ret
                  exact ⟨rfl, en_out (by assumption)⟩

end Go.Proofs.YtgdbpicelnoacaaDoor
