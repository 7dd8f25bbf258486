/- This text proves the law StrandReads, over the loaded program: its walk. -/
import Derived.Test.YtgdbpicelnoacaaDoorBack
import Derived.Test.YtgdbpicelnoacaaDoorCutsPlain
import Derived.Test.YtgdbpicelnoacaaDoorTake
namespace Go.Proofs.YtgdbpicelnoacaaDoor
open Go.RowKit Go.WideShapes

/-- What the reads' law holds while it gets an item. -/
def RsS (w0 : World) (want : It) (w : World) : Prop := Below w0.heap.size w0 w ∧ Cells w want.X (want.fl.map Value.bool)
abbrev RsC (w0 : World) (b o : Nat) (x : It) (vb : Nat) (t : It) (w : World) : Prop :=
  w.cell? ⟨b, o, none⟩ = some (.int .i64 x.kind) ∧ w.cell? ⟨b, o + 1, none⟩ = some (.int .i64 x.n) ∧ w.cell? ⟨b, o + 2, none⟩ = some (.string x.text) ∧ w.cell? ⟨b, o + 3, none⟩ = some (.slice x.X x.fl.length x.c) ∧
  w.cell? ⟨vb, 0, none⟩ = some (.int .i64 t.kind) ∧ w.cell? ⟨vb, 1, none⟩ = some (.int .i64 t.n) ∧ w.cell? ⟨vb, 2, none⟩ = some (.string t.text) ∧ w.cell? ⟨vb, 3, none⟩ = some (.slice t.X t.fl.length t.c) ∧ RsS w0 t w
def RsPre (w0 : World) (rb : Nat) (R : Rdr) (w : World) : Prop := RI w0 rb R w
def RsPost (w0 : World) (rb : Nat) (R : Rdr) (t g : It) (w : World) : Prop := RI w0 rb R w ∧ g.same t = true ∧ Cells w g.X (g.fl.map Value.bool) ∧ g.fl.length ≤ 100000
/-- Where the reader lies: apart from all that is held. -/
def RsApart (w0 : World) (b vb rb : Nat) (t : It) : Prop := b ≠ rb ∧ vb ≠ rb ∧ w0.heap.size ≤ rb ∧ ∀ b' o, t.X = some ⟨b', o, none⟩ → b' ≠ rb
section
variable {w0 w w' : World} {b o vb rb : Nat} {x t g : It} {R R' : Rdr}
theorem rs_bel (h : RsC w0 b o x vb t w) (hb : Below w.heap.size w w') : RsC w0 b o x vb t w' := by
  obtain ⟨h0, h1, h2, h3, k0, k1, k2, k3, m1, m2⟩ := h
  have hl := World.block_lt_of_cell? w _ h0
  have hk := World.block_lt_of_cell? w _ k0
  exact ⟨(hb.cell (p := ⟨b, o, none⟩) hl).trans h0, (hb.cell (p := ⟨b, o + 1, none⟩) hl).trans h1, (hb.cell (p := ⟨b, o + 2, none⟩) hl).trans h2, (hb.cell (p := ⟨b, o + 3, none⟩) hl).trans h3, (hb.cell (p := ⟨vb, 0, none⟩) hk).trans k0, (hb.cell (p := ⟨vb, 1, none⟩) hk).trans k1, (hb.cell (p := ⟨vb, 2, none⟩) hk).trans k2, (hb.cell (p := ⟨vb, 3, none⟩) hk).trans k3, m1.trans (hb.mono m1.size), m2.below hb⟩
theorem rs_drew (h : RsC w0 b o x vb t w) : RsC w0 b o x vb t w.drew := rs_bel h ⟨rfl, rfl, rfl, Nat.le_refl _, fun _ _ => rfl⟩
theorem rs_get (h : RsC w0 b o x vb t w) (hk : Kept [rb] w w' ∧ RsApart w0 b vb rb t) : RsC w0 b o x vb t w' := by
  obtain ⟨k, n1, n2, n3, n4⟩ := hk
  obtain ⟨h0, h1, h2, h3, k0, k1, k2, k3, m1, m2⟩ := h
  exact ⟨k.cell h0 (by simpa using n1), k.cell h1 (by simpa using n1), k.cell h2 (by simpa using n1), k.cell h3 (by simpa using n1), k.cell k0 (by simpa using n2), k.cell k1 (by simpa using n2), k.cell k2 (by simpa using n2), k.cell k3 (by simpa using n2), below_kept m1 k (by simpa using n3) (Nat.le_refl _), m2.kept k (fun b' o' hb => by simpa using n4 b' o' hb)⟩
theorem rspre_drew (h : RsPre w0 rb R w) : RsPre w0 rb R w.drew := RI.below h ⟨rfl, rfl, rfl, Nat.le_refl _, fun _ _ => rfl⟩
theorem RsPost.bel (h : RsPost w0 rb R t g w) (hb : Below w.heap.size w w') : RsPost w0 rb R t g w' := ⟨h.1.below hb, h.2.1, h.2.2.1.below hb, h.2.2.2⟩
theorem rspost_drew (h : RsPost w0 rb R t g w) : RsPost w0 rb R t g w.drew := h.bel ⟨rfl, rfl, rfl, Nat.le_refl _, fun _ _ => rfl⟩
/-- The reader's answer and the reference's are the same. -/
def RsWant (R : Rdr) (x t : It) : Prop := t.kind = x.kind ∧ t.n = (R.get x).2.1 ∧ t.text.data.toList = (R.get x).2.2.1 ∧ t.fl = (R.get x).2.2.2 ∧ t.fl.length ≤ 100000
theorem rs_gets (ho : x.ok w0) (hw : RsWant R x t) (hn : RsApart w0 b vb rb t) (h : RsPre w0 rb R w) :
    Calls Tryd.prog 24 #[.pointer (some ⟨rb, 0, none⟩), .agg #[.int .i64 x.kind, .int .i64 x.n, .string x.text, .slice x.X x.fl.length x.c]] w fun e w' => ∃ g : It, e = .returned g.v ∧ RsPost w0 rb (R.get x).1 t g w' ∧ (Kept [rb] w w' ∧ RsApart w0 b vb rb t) := by
  refine (get_any h.1 x (ho.below h.2.1)).mono ?_
  rintro e w' ⟨⟨g, rfl, g1, g2, g3, g4, g5, g6, g7⟩, hl⟩
  obtain ⟨t1, t2, t3, t4, t5⟩ := hw
  refine ⟨g, rfl, ⟨RI.left h hl, ?_, g6, by rw [g4, ← t4]; exact t5⟩, hl.2, hn⟩
  unfold It.same
  simp only [Bool.and_eq_true, decide_eq_true_eq]
  exact ⟨⟨⟨g1.trans t1.symm, g2.trans t2.symm⟩, ByteArray.ext (Array.toList_inj.1 (g3.trans t3.symm))⟩, g4.trans t4.symm⟩
theorem rs_same (h : RsPost w0 rb R t g w) (hc : RsC w0 b o x vb t w) : Calls Tryd.prog 23 #[g.v, .agg #[.int .i64 t.kind, .int .i64 t.n, .string t.text, .slice t.X t.fl.length t.c]] w fun e w' => e = .returned (.bool true) ∧ Below w.heap.size w w' ∧ RsPost w0 rb R t g w' := by
  refine (same_any g t h.2.2.1 hc.2.2.2.2.2.2.2.2.2 h.2.2.2).mono ?_
  rintro e w' ⟨rfl, hb⟩
  exact ⟨by rw [h.2.1], hb, h.bel hb⟩
theorem rs_same0 {k : Int} (h : RsPost w0 rb R ⟨k, 0, ⟨#[]⟩, [], none, 0⟩ g w) (hc : RsC w0 b o x vb ⟨k, 0, ⟨#[]⟩, [], none, 0⟩ w) : Calls Tryd.prog 23 #[g.v, .agg #[.int .i64 k, .int .i64 0, .string ⟨#[]⟩, .slice none 0 0]] w fun e w' => e = .returned (.bool true) ∧ Below w.heap.size w w' ∧ RsPost w0 rb R ⟨k, 0, ⟨#[]⟩, [], none, 0⟩ g w' := rs_same h hc
theorem rs_left (h : RsPost w0 rb R t g w) : Calls Tryd.prog 25 #[.pointer (some ⟨rb, 0, none⟩)] w fun e w' => e = .returned (.int .i64 (R.rest.length : Int)) ∧ w = w' := left_any h.1.1
end

theorem get_fl_len (R : Rdr) (x : It) : (R.get x).2.2.2.length ≤ 65536 := by
  unfold Rdr.get
  repeat' split
  all_goals first | (simp; done) | skip
  unfold Rdr.flags
  repeat' split
  all_goals first | (simp; done) | skip
  rename_i h _
  rw [flagsOf_len]
  omega

set_option maxRecDepth 100000 in
set_option maxHeartbeats 3200000 in
theorem reads_any (w : World) (A : Nat → Addr) (hG : Glob w A) (s : ByteArray) (hs : s.size ≤ maxLen) (X : Option Addr) (l : List It) (c : Nat) (hI : Items w X l) : Calls Tryd.prog 4 #[.string s, .slice X l.length c] w fun e w' => e = .returned (.bool true) ∧ Below w.heap.size w w' := by
  have GG := Lib.hid hG
  have II := Lib.hid hI
  have HV := Lib.hid (heavy_any w X l c hI)
  clear hG hI
  obtain ⟨hv, hhv⟩ : ∃ hv, heavyL l = hv := ⟨_, rfl⟩
  obtain ⟨len, hlen⟩ : ∃ len, l.length = len := ⟨_, rfl⟩
  have LEN := Lib.hid hlen
  have HS := Lib.hid hs
  rw [hlen]
  clear hs
  by_cases hbig : 4096 < s.size
  · have q : decide ((4096 : Int) < (s.size : Int)) = true := by simp; omega
    clear hbig
    go_enter Tryd.func4, Tryd.ntmps4
    go_wp2_with fail
    refine (awake_any w A GG.out).mono ?_
    rintro e w1 ⟨rfl, hb1⟩
    have B1 := Lib.hid hb1
    clear hb1
    go_wp2_with fail
    have hh := heavy_any w1 X l c (II.out.below B1.out)
    rw [hlen, hhv] at hh
    have HH := Lib.hid hh
    clear hh hlen hhv
    refine HH.out.mono ?_
    rintro e w2 ⟨rfl, rfl⟩
    cases hv
    all_goals
      go_wp2_with fail
      go_ret
      exact ⟨rfl, B1.out⟩
  have q : decide ((4096 : Int) < (s.size : Int)) = false := by rw [decide_eq_false_iff_not]; omega
  go_enter Tryd.func4, Tryd.ntmps4
  go_wp2_with fail
  refine (awake_any w A GG.out).mono ?_
  rintro e w1 ⟨rfl, hb1⟩
  have B1 := Lib.hid hb1
  clear hb1
  go_wp2_with fail
  have hh := heavy_any w1 X l c (II.out.below B1.out)
  rw [hlen, hhv] at hh
  have HH := Lib.hid hh
  clear hh
  refine HH.out.mono ?_
  rintro e w2 ⟨rfl, rfl⟩
  cases hv with
  | true =>
    clear hhv hlen
    go_wp2_with fail
    go_ret
    exact ⟨rfl, B1.out⟩
  | false =>
    have NH := Lib.hid (not_heavy hhv)
    have hl60 : (len : Int) ≤ 60 := by have := NH.out.1; omega
    have s4 : s.size ≤ 4096 := by omega
    clear hhv hlen hbig
    go_wp2_with fail
    refine (ri_new (w0 := w) s HS.out B1.out).mono ?_
    rintro e w3 ⟨rfl, h3⟩
    obtain ⟨rb, hrb⟩ : ∃ rb, w1.heap.size = rb := ⟨_, rfl⟩
    rw [hrb] at h3 ⊢
    have H3 := Lib.hid h3
    clear h3 hrb
    go_wp2_with fail
    go_loopw [6, 7, 8] (fun bv sv iv wr => ∃ (j : Nat) (R : Rdr) (S : ByteArray), j ≤ len ∧ iv = .int .i64 j ∧ bv = .bool R.bad ∧ sv = .string S ∧ S.data.toList = R.rest ∧ S.size ≤ 4096 ∧ RI w rb R wr) (fun _ _ iv _ => len - (intOf iv).toNat)
    case atStart => exact ⟨0, _, s, Nat.zero_le _, rfl, rfl, rfl, rfl, s4, H3.out⟩
    case round =>
      obtain ⟨j, R, S, hj, rfl, rfl, rfl, hSR, hS4, hR⟩ := hrel
      have SR := Lib.hid hSR
      have HR := Lib.hid hR
      clear hR hSR
      by_cases hlt : j < len
      · obtain ⟨x, hx⟩ : ∃ x, l[j]? = some x := ⟨l[j]'(by rw [LEN.out]; exact hlt), by simp [show j < l.length by rw [LEN.out]; exact hlt]⟩
        obtain ⟨⟨b, o, rfl, h0, h1, h2, h3⟩, m1, m2, m3, m4, m5⟩ := (II.out.below HR.out.2.1) j x hx
        have hxm := NH.out.2 x (List.mem_of_getElem? hx)
        have hxo : x.ok w := by
          obtain ⟨_, n1, n2, n3, n4, n5⟩ := II.out j x hx
          exact ⟨n1, n2, by omega, by omega, n5⟩
        have hbl : b < w.heap.size := by
          obtain ⟨⟨b', o', he, k0, _⟩, _⟩ := II.out j x hx
          cases he
          exact World.block_lt_of_cell? w _ k0
        have XO := Lib.hid hxo
        have HX := Lib.hid hx
        have BL := Lib.hid hbl
        have XM := Lib.hid hxm
        have i0 : (0 : Int) ≤ (j : Int) := by omega
        have i1 : (j : Int) < (len : Int) := by omega
        clear m1 m2 m3 m4 m5 hxm hxo hbl hx
        obtain ⟨kind, n, text, fl, X', c'⟩ := x
        dsimp only at h0 h1 h2 h3
        cases hbad : R.bad with
        | true =>
          have hget := get_bad hbad ⟨kind, n, text, fl, X', c'⟩
          have HB := Lib.hid hbad
          clear hbad
          go_wp2_with fail
          obtain ⟨V, hV⟩ : ∃ V, V = wr.alloc (.cells #[.int .i64 kind, .int .i64 0, .string ⟨#[]⟩, .slice none 0 0] 30) := ⟨_, rfl⟩
          rw [← hV]
          obtain ⟨vb, hvb⟩ : ∃ vb, wr.heap.size = vb := ⟨_, rfl⟩
          have al : Below wr.heap.size wr V := by rw [hV]; exact (Below.refl _ _).alloc (Nat.le_refl _) _
          have P0 : RsPre w rb R V := HR.out.below al
          have AP : Hid (RsApart w b vb rb ⟨kind, 0, ⟨#[]⟩, [], none, 0⟩) := Lib.hid ⟨by have := HR.out.2.2; have := BL.out; omega, by have := HR.out.1.lt; omega, HR.out.2.2, fun b' o h => by cases h⟩
          have WT : Hid (RsWant R ⟨kind, n, text, fl, X', c'⟩ ⟨kind, 0, ⟨#[]⟩, [], none, 0⟩) := Lib.hid (by unfold RsWant; rw [hget]; exact ⟨rfl, rfl, rfl, rfl, by simp⟩)
          have QL : Hid (R.rest.length = S.size) := Lib.hid (by rw [← SR.out]; rfl)
          have e8 : V.heap[vb]? = some (.cells #[.int .i64 kind, .int .i64 0, .string ⟨#[]⟩, .slice none 0 0] 30 (0, 0)) := by rw [hV, ← hvb]; exact heap_alloc_new wr _
          have S0 : RsC w b (o + j * 4) ⟨kind, n, text, fl, X', c'⟩ vb ⟨kind, 0, ⟨#[]⟩, [], none, 0⟩ V := by
            obtain ⟨⟨b', o', he, d0, d1, d2, d3⟩, _⟩ := (II.out.below P0.2.1) j _ HX.out
            cases he
            exact ⟨d0, d1, d2, d3, by simp only [World.cell?, e8]; rfl, by simp only [World.cell?, e8]; rfl, by simp only [World.cell?, e8]; rfl, by simp only [World.cell?, e8]; rfl, P0.2.1, Cells.nil _ _⟩
          have GE := Lib.hid hget
          have hget1 : (R.get ⟨kind, n, text, fl, X', c'⟩).1 = R := by rw [hget]
          rw [hvb]
          clear h0 h1 h2 h3 al e8 hV hvb hget
          dsimp only [RsC] at S0
          have q9 : ((R.rest.length : Int) != (S.size : Int)) = false := by rw [QL.out]; simp
          go_region_held3 (fun w' => w'.cell? ⟨b, o + j * 4, none⟩ = some (.int .i64 kind) ∧ w'.cell? ⟨b, o + j * 4 + 1, none⟩ = some (.int .i64 n) ∧ w'.cell? ⟨b, o + j * 4 + 2, none⟩ = some (.string text) ∧ w'.cell? ⟨b, o + j * 4 + 3, none⟩ = some (.slice X' fl.length c') ∧ w'.cell? ⟨vb, 0, none⟩ = some (.int .i64 kind) ∧ w'.cell? ⟨vb, 1, none⟩ = some (.int .i64 0) ∧ w'.cell? ⟨vb, 2, none⟩ = some (.string ⟨#[]⟩) ∧ w'.cell? ⟨vb, 3, none⟩ = some (.slice none 0 0) ∧ RsS w ⟨kind, 0, ⟨#[]⟩, [], none, 0⟩ w')
            ((first | assumption | (exact rs_drew (x := ⟨kind, n, text, fl, X', c'⟩) (t := ⟨kind, 0, ⟨#[]⟩, [], none, 0⟩) (by assumption)) | (refine rs_bel (x := ⟨kind, n, text, fl, X', c'⟩) (t := ⟨kind, 0, ⟨#[]⟩, [], none, 0⟩) ?_ hbel; assumption) | (refine rs_get (x := ⟨kind, n, text, fl, X', c'⟩) (t := ⟨kind, 0, ⟨#[]⟩, [], none, 0⟩) ?_ hkg; assumption)))
            (first
              | (go_at_call 24; (with_reducible refine (rs_gets (w0 := w) (b := b) (vb := vb) (rb := rb) (R := R) (x := ⟨kind, n, text, fl, X', c'⟩) (t := ⟨kind, 0, ⟨#[]⟩, [], none, 0⟩) XO.out WT.out AP.out ?_).mono ?_); (with_reducible first | assumption | exact rspre_drew (by assumption) | exact rspre_drew (rspre_drew (by assumption))); rintro e w' ⟨g, rfl, hpost, hkg⟩; rw [hget1] at hpost)
              | (go_at_call 23; (with_reducible refine (rs_same0 (w0 := w) (b := b) (o := o + j * 4) (vb := vb) (rb := rb) (R := R) (x := ⟨kind, n, text, fl, X', c'⟩) (k := kind) (g := g) ?_ ?_).mono ?_); (with_reducible first | assumption | exact rspost_drew (by assumption)); assumption; rintro e w' ⟨rfl, hbel, hpost⟩)
              | (go_at_call 25; (with_reducible refine (rs_left (w0 := w) (rb := rb) (R := R) (t := ⟨kind, 0, ⟨#[]⟩, [], none, 0⟩) (g := g) ?_).mono ?_); (with_reducible first | assumption | exact rspost_drew (by assumption)); rintro e w' ⟨rfl, rfl⟩))
          all_goals
            have FIN : Hid (RsPost w rb R ⟨kind, 0, ⟨#[]⟩, [], none, 0⟩ g w') := Lib.hid (by first | assumption | exact rspost_drew (by assumption))
            go_wp2_with fail
            exact ⟨⟨j + 1, R, S, by omega, by go_num, by rw [HB.out], rfl, SR.out, by omega, FIN.out.1⟩, by simp [intOf]; omega⟩
        | false =>
          have HB := Lib.hid hbad
          have hRe : Rdr.mk S.data.toList false = R := by rw [SR.out, ← hbad]
          obtain ⟨vb, hvb⟩ : ∃ vb, wr.heap.size = vb := ⟨_, rfl⟩
          have al := (Below.refl wr.heap.size wr).alloc (Nat.le_refl _) (.cells #[.int .i64 kind, .int .i64 0, .string ⟨#[]⟩, .slice none 0 0] 30)
          have TK := take_any (wr.alloc (.cells #[.int .i64 kind, .int .i64 0, .string ⟨#[]⟩, .slice none 0 0] 30)) S (by omega) ⟨kind, n, text, fl, X', c'⟩ ((XO.out.below HR.out.2.1).below al) XM.out.2.2
          rw [hRe] at TK
          have TKH := Lib.hid TK
          have AL := Lib.hid al
          have e8 := heap_alloc_new wr (.cells #[.int .i64 kind, .int .i64 0, .string ⟨#[]⟩, .slice none 0 0] 30)
          have E8 := Lib.hid e8
          have hbw := World.block_lt_of_cell? wr _ h0
          have d0 := (al.cell (p := ⟨b, o + j * 4, none⟩) hbw).trans h0
          have d1 := (al.cell (p := ⟨b, o + j * 4 + 1, none⟩) hbw).trans h1
          have d2 := (al.cell (p := ⟨b, o + j * 4 + 2, none⟩) hbw).trans h2
          have d3 := (al.cell (p := ⟨b, o + j * 4 + 3, none⟩) hbw).trans h3
          have VB := Lib.hid hvb
          have RE := Lib.hid hRe
          clear hbad hRe TK al e8 hvb
          go_wp2_with fail
          refine TKH.out.mono ?_
          rintro e w4 ⟨g, S', rfl, t1, t2, t3, t4, t5, t6, t7, t8, t9⟩
          obtain ⟨gk, gn, gt, gf, gX, gc⟩ := g
          dsimp only at t1 t2 t3 t4 t7 t9
          have T4 := Lib.hid (And.intro t1 (And.intro t2 (And.intro t3 (And.intro t4 (And.intro t5 (And.intro t6 (And.intro t7 (And.intro t8 t9))))))))
          have hb4 := (t8.block wr.heap.size (by rw [size_alloc1]; omega)).trans E8.out
          clear t1 t2 t3 t4 t5 t6 t7 t8 t9
          have hb5 := (alloc_old w4 (.cells #[.int .i64 gk, .int .i64 gn, .string gt, .slice gX gf.length gc] 30) wr.heap.size (Array.getElem?_eq_some_iff.1 hb4).1).trans hb4
          have f0 : (w4.alloc (.cells #[.int .i64 gk, .int .i64 gn, .string gt, .slice gX gf.length gc] 30)).cell? ⟨wr.heap.size, 0, none⟩ = some (.int .i64 kind) := by simp only [World.cell?, hb5]; rfl
          have f1 : (w4.alloc (.cells #[.int .i64 gk, .int .i64 gn, .string gt, .slice gX gf.length gc] 30)).cell? ⟨wr.heap.size, 1, none⟩ = some (.int .i64 0) := by simp only [World.cell?, hb5]; rfl
          have f2 : (w4.alloc (.cells #[.int .i64 gk, .int .i64 gn, .string gt, .slice gX gf.length gc] 30)).cell? ⟨wr.heap.size, 2, none⟩ = some (.string ⟨#[]⟩) := by simp only [World.cell?, hb5]; rfl
          have f3 : (w4.alloc (.cells #[.int .i64 gk, .int .i64 gn, .string gt, .slice gX gf.length gc] 30)).cell? ⟨wr.heap.size, 3, none⟩ = some (.slice none 0 0) := by simp only [World.cell?, hb5]; rfl
          have z0 : (w4.alloc (.cells #[.int .i64 gk, .int .i64 gn, .string gt, .slice gX gf.length gc] 30)).frozen? ⟨wr.heap.size, 0, none⟩ = false := by simp only [World.frozen?, hb5]; rfl
          have z1 : (w4.alloc (.cells #[.int .i64 gk, .int .i64 gn, .string gt, .slice gX gf.length gc] 30)).frozen? ⟨wr.heap.size, 1, none⟩ = false := by simp only [World.frozen?, hb5]; rfl
          have z2 : (w4.alloc (.cells #[.int .i64 gk, .int .i64 gn, .string gt, .slice gX gf.length gc] 30)).frozen? ⟨wr.heap.size, 2, none⟩ = false := by simp only [World.frozen?, hb5]; rfl
          have z3 : (w4.alloc (.cells #[.int .i64 gk, .int .i64 gn, .string gt, .slice gX gf.length gc] 30)).frozen? ⟨wr.heap.size, 3, none⟩ = false := by simp only [World.frozen?, hb5]; rfl
          have HB4 := Lib.hid hb5
          clear hb4 hb5
          dsimp only [It.v]
          generalize hget : R.get ⟨kind, n, text, fl, X', c'⟩ = gr at *
          obtain ⟨R1, p1, p2, p3⟩ := gr
          dsimp only at T4 ⊢
          go_wp2_with fail
          obtain ⟨t1, t2, t3, t4, t5, t6, t7, t8, t9⟩ := T4.out
          have b1 := heap_setCell_of' HB4.out 0 (.int .i64 gk)
          have b2 := heap_setCell_of' b1 1 (.int .i64 gn)
          have b3 := heap_setCell_of' b2 2 (.string gt)
          have e8 := heap_setCell_of' b3 3 (.slice gX gf.length gc)
          have kk : Kept [wr.heap.size] w4 (((((w4.alloc (.cells #[.int .i64 gk, .int .i64 gn, .string gt, .slice gX gf.length gc] 30)).setCell ⟨wr.heap.size, 0, none⟩ (.int .i64 gk)).setCell ⟨wr.heap.size, 1, none⟩ (.int .i64 gn)).setCell ⟨wr.heap.size, 2, none⟩ (.string gt)).setCell ⟨wr.heap.size, 3, none⟩ (.slice gX gf.length gc)) :=
            (((((Kept.of_below (fp := [wr.heap.size]) ((Below.refl w4.heap.size w4).alloc (Nat.le_refl _) _)).trans (Kept.setCell _ wr.heap.size 0 _) (by simp)).trans (Kept.setCell _ wr.heap.size 1 _) (by simp)).trans (Kept.setCell _ wr.heap.size 2 _) (by simp)).trans (Kept.setCell _ wr.heap.size 3 _) (by simp))
          obtain ⟨V, hV⟩ : ∃ V, V = (((((w4.alloc (.cells #[.int .i64 gk, .int .i64 gn, .string gt, .slice gX gf.length gc] 30)).setCell ⟨wr.heap.size, 0, none⟩ (.int .i64 gk)).setCell ⟨wr.heap.size, 1, none⟩ (.int .i64 gn)).setCell ⟨wr.heap.size, 2, none⟩ (.string gt)).setCell ⟨wr.heap.size, 3, none⟩ (.slice gX gf.length gc)) := ⟨_, rfl⟩
          rw [← hV] at e8 kk ⊢
          have r4 : RI w rb R w4 := (HR.out.below AL.out).below t8
          have rbl := HR.out.1.lt
          have rV : RI w rb R V := ⟨r4.1.kept kk (by simp; omega), below_kept r4.2.1 kk (by have := HR.out.2.1.size; simp; omega) (Nat.le_refl _), r4.2.2⟩
          have P0 : RsPre w rb R V := rV
          have gXn : ∀ b' o', gX = some ⟨b', o', none⟩ → wr.heap.size + 1 ≤ b' := fun b' o' h => by have := t9 b' o' h; rwa [size_alloc1] at this
          have cV : Cells V gX (gf.map Value.bool) := t7.kept kk (fun b' o' h => by have := gXn b' o' h; simp; omega)
          have AP : Hid (RsApart w b wr.heap.size rb ⟨gk, gn, gt, gf, gX, gc⟩) := Lib.hid ⟨by have := HR.out.2.2; have := BL.out; omega, by omega, HR.out.2.2, fun b' o' h => by have := gXn b' o' h; omega⟩
          have hfl := get_fl_len R ⟨kind, n, text, fl, X', c'⟩
          rw [hget] at hfl
          have WT : Hid (RsWant R ⟨kind, n, text, fl, X', c'⟩ ⟨gk, gn, gt, gf, gX, gc⟩) := Lib.hid (by unfold RsWant; rw [hget]; exact ⟨t1, t2, t3, t4, by dsimp only at hfl ⊢; rw [t4]; omega⟩)
          have QL : Hid (R1.rest.length = S'.size) := Lib.hid (by rw [← t5]; rfl)
          have S0 : RsC w b (o + j * 4) ⟨kind, n, text, fl, X', c'⟩ wr.heap.size ⟨gk, gn, gt, gf, gX, gc⟩ V := by
            obtain ⟨⟨b', o', he, d0, d1, d2, d3⟩, _⟩ := (II.out.below P0.2.1) j _ HX.out
            cases he
            exact ⟨d0, d1, d2, d3, by simp only [World.cell?, e8]; rfl, by simp only [World.cell?, e8]; rfl, by simp only [World.cell?, e8]; rfl, by simp only [World.cell?, e8]; rfl, P0.2.1, cV⟩
          have hget1 : (R.get ⟨kind, n, text, fl, X', c'⟩).1 = R1 := by rw [hget]
          have FS : Hid (S'.data.toList = R1.rest ∧ S'.size ≤ 4096) := Lib.hid ⟨t5, by omega⟩
          have VB2 := VB.out
          rw [VB2] at AP S0 ⊢
          clear VB2 t1 t2 t3 t4 t5 t6 t7 t8 t9 b1 b2 b3 e8 kk hV r4 rbl rV gXn cV hfl f0 f1 f2 f3 z0 z1 z2 z3 d0 d1 d2 d3 h0 h1 h2 h3 hget hbw
          dsimp only [RsC] at S0
          have q9 : ((R1.rest.length : Int) != (S'.size : Int)) = false := by rw [QL.out]; simp
          go_region_held3 (fun w' => w'.cell? ⟨b, o + j * 4, none⟩ = some (.int .i64 kind) ∧ w'.cell? ⟨b, o + j * 4 + 1, none⟩ = some (.int .i64 n) ∧ w'.cell? ⟨b, o + j * 4 + 2, none⟩ = some (.string text) ∧ w'.cell? ⟨b, o + j * 4 + 3, none⟩ = some (.slice X' fl.length c') ∧ w'.cell? ⟨vb, 0, none⟩ = some (.int .i64 gk) ∧ w'.cell? ⟨vb, 1, none⟩ = some (.int .i64 gn) ∧ w'.cell? ⟨vb, 2, none⟩ = some (.string gt) ∧ w'.cell? ⟨vb, 3, none⟩ = some (.slice gX gf.length gc) ∧ RsS w ⟨gk, gn, gt, gf, gX, gc⟩ w')
            ((first | assumption | (exact rs_drew (x := ⟨kind, n, text, fl, X', c'⟩) (t := ⟨gk, gn, gt, gf, gX, gc⟩) (by assumption)) | (refine rs_bel (x := ⟨kind, n, text, fl, X', c'⟩) (t := ⟨gk, gn, gt, gf, gX, gc⟩) ?_ hbel; assumption) | (refine rs_get (x := ⟨kind, n, text, fl, X', c'⟩) (t := ⟨gk, gn, gt, gf, gX, gc⟩) ?_ hkg; assumption)))
            (first
              | (go_at_call 24; (with_reducible refine (rs_gets (w0 := w) (b := b) (vb := vb) (rb := rb) (R := R) (x := ⟨kind, n, text, fl, X', c'⟩) (t := ⟨gk, gn, gt, gf, gX, gc⟩) XO.out WT.out AP.out ?_).mono ?_); (with_reducible first | assumption | exact rspre_drew (by assumption) | exact rspre_drew (rspre_drew (by assumption))); rintro e w' ⟨g, rfl, hpost, hkg⟩; rw [hget1] at hpost)
              | (go_at_call 23; (with_reducible refine (rs_same (w0 := w) (b := b) (o := o + j * 4) (vb := vb) (rb := rb) (R := R1) (x := ⟨kind, n, text, fl, X', c'⟩) (t := ⟨gk, gn, gt, gf, gX, gc⟩) (g := g) ?_ ?_).mono ?_); (with_reducible first | assumption | exact rspost_drew (by assumption)); assumption; rintro e w' ⟨rfl, hbel, hpost⟩)
              | (go_at_call 25; (with_reducible refine (rs_left (w0 := w) (rb := rb) (R := R1) (t := ⟨gk, gn, gt, gf, gX, gc⟩) (g := g) ?_).mono ?_); (with_reducible first | assumption | exact rspost_drew (by assumption)); rintro e w' ⟨rfl, rfl⟩))
          all_goals
            have FIN : Hid (RsPost w rb R1 ⟨gk, gn, gt, gf, gX, gc⟩ g w') := Lib.hid (by first | assumption | exact rspost_drew (by assumption))
            go_wp2_with fail
            exact ⟨⟨j + 1, R1, S', by omega, by go_num, by simp, rfl, FS.out.1, FS.out.2, FIN.out.1⟩, by simp [intOf]; omega⟩
      · obtain rfl : j = len := by omega
        have EN := Lib.hid (end_any HR.out.1 (GG.out.below HR.out.2.1))
        have hem : S.toList.isEmpty = R.rest.isEmpty := by rw [bytes_none, SR.out]
        clear hlt
        cases hbad : R.bad with
        | true =>
          have hr : R.right = false := by simp [Rdr.right, hbad]
          rw [hr] at EN
          clear hbad hr hem
          go_wp2_with fail
          refine EN.out.mono ?_
          rintro e w7 ⟨v, rfl, hb, hv⟩
          have HB7 := Lib.hid (HR.out.2.1.trans (hb.mono HR.out.2.1.size))
          have hw : WrapsT w7 v (A 0) := by
            rcases hv with ⟨hn, _⟩ | ⟨j', hj', hw⟩
            · cases hn
            · cases hj'; exact hw
          have HW := Lib.hid hw
          obtain ⟨b7, C7, rfl, _⟩ := hw
          have g0 : w7.cell? ⟨0, 0, none⟩ = some (.iface 139 (.pointer (some (A 0)))) := (GG.out.below HB7.out) 0 (by decide)
          clear hv hb
          go_wp2_with fail
          refine HW.out.is.mono ?_
          rintro e w8 ⟨rfl, rfl⟩
          go_wp2_with fail
          go_ret
          exact ⟨rfl, HB7.out⟩
        | false =>
          cases hre : R.rest.isEmpty with
          | true =>
            have hr : R.right = true := by simp [Rdr.right, hbad, hre]
            rw [hr] at EN
            rw [hre] at hem
            clear hbad hr hre
            go_wp2_with fail
            refine EN.out.mono ?_
            rintro e w7 ⟨v, rfl, hb, hv⟩
            have HB7 := Lib.hid (HR.out.2.1.trans (hb.mono HR.out.2.1.size))
            obtain rfl : v = .nilIface := by
              rcases hv with ⟨_, hv⟩ | ⟨j', hj', _⟩
              · exact hv
              · cases hj'
            clear hv hb
            go_wp2_with fail
            go_ret
            exact ⟨rfl, HB7.out⟩
          | false =>
            have hr : R.right = false := by simp [Rdr.right, hre]
            rw [hr] at EN
            rw [hre] at hem
            clear hbad hr hre
            go_wp2_with fail
            refine EN.out.mono ?_
            rintro e w7 ⟨v, rfl, hb, hv⟩
            have HB7 := Lib.hid (HR.out.2.1.trans (hb.mono HR.out.2.1.size))
            have hw : WrapsT w7 v (A 0) := by
              rcases hv with ⟨hn, _⟩ | ⟨j', hj', hw⟩
              · cases hn
              · cases hj'; exact hw
            have HW := Lib.hid hw
            obtain ⟨b7, C7, rfl, _⟩ := hw
            have g0 : w7.cell? ⟨0, 0, none⟩ = some (.iface 139 (.pointer (some (A 0)))) := (GG.out.below HB7.out) 0 (by decide)
            clear hv hb
            go_wp2_with fail
            refine HW.out.is.mono ?_
            rintro e w8 ⟨rfl, rfl⟩
            go_wp2_with fail
            go_ret
            exact ⟨rfl, HB7.out⟩

end Go.Proofs.YtgdbpicelnoacaaDoor
