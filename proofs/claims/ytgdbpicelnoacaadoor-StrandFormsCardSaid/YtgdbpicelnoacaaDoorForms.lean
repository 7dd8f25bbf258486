/- This text proves the law StrandForms, over the loaded program: its walk. -/
import Derived.Test.YtgdbpicelnoacaaDoorBack
import Derived.Test.YtgdbpicelnoacaaDoorFormsPlain
namespace Go.Proofs.YtgdbpicelnoacaaDoor
open Go.RowKit Go.WideShapes

/-- A writer and a reader of the law's own, side by side. -/
def FI (A : Nat → Addr) (w0 : World) (wb rb : Nat) (W : Wri) (R : Rdr) (w : World) : Prop := ∃ gp, WAt A w wb gp W ∧ RdAt w rb R ∧ rb ≠ wb ∧ rb ∉ gp ∧ Below w0.heap.size w0 w ∧ w0.heap.size ≤ wb ∧ w0.heap.size ≤ rb ∧ ∀ x ∈ gp, w0.heap.size ≤ x

section
variable {A : Nat → Addr} {w0 w w' : World} {wb rb : Nat} {W W' : Wri} {R R' : Rdr}
theorem FI.bel (h : FI A w0 wb rb W R w) : Below w0.heap.size w0 w := by
  obtain ⟨_, _, _, _, _, h, _⟩ := h
  exact h
theorem FI.rbge (h : FI A w0 wb rb W R w) : w0.heap.size ≤ rb := by
  obtain ⟨_, _, _, _, _, _, _, h, _⟩ := h
  exact h
theorem FI.rd (h : FI A w0 wb rb W R w) : RdAt w rb R := by
  obtain ⟨_, _, h, _⟩ := h
  exact h
theorem FI.wi (h : FI A w0 wb rb W R w) : WI A w0 wb W w := by
  obtain ⟨gp, h1, _, _, _, h2, h3, _, h4⟩ := h
  exact ⟨gp, h1, h2, h3, h4⟩
theorem FI.below (h : FI A w0 wb rb W R w) (hb : Below w.heap.size w w') : FI A w0 wb rb W R w' := by
  obtain ⟨gp, h1, h2, h3, h4, h5, h6⟩ := h
  exact ⟨gp, h1.below hb, h2.below hb, h3, h4, h5.trans (hb.mono h5.size), h6⟩
theorem FI.left (h : FI A w0 wb rb W R w) (hl : RLeft w rb R' w') : FI A w0 wb rb W R' w' := by
  obtain ⟨gp, h1, h2, h3, h4, h5, h6, h7, h8⟩ := h
  exact ⟨gp, h1.kept hl.2 (by simp; exact fun e => h3 e.symm) (fun x hx => by simp; rintro rfl; exact h4 hx), hl.1, h3, h4, below_kept h5 hl.2 (by simp; exact h7) (Nat.le_refl _), h6, h7, h8⟩
theorem FI.put (h : FI A w0 wb rb W R w) (hok : W.ok) (hG : Glob w0 A) (i : It) (hi : i.ok w) : Calls Tryd.prog 17 #[.pointer (some ⟨wb, 0, none⟩), i.v] w fun e w' => e = .returned (.tuple #[]) ∧ FI A w0 wb rb (W.item i) R w' := by
  obtain ⟨gp, h1, h2, h3, h4, h5, h6, h7, h8⟩ := h
  refine (put_any h1 hok (hG.below h5) i hi).mono ?_
  rintro e w1 ⟨rfl, gp', k1, k2, k3⟩
  have hlt := h2.lt
  refine ⟨rfl, gp', k1, h2.kept k2 (by simp; exact ⟨h3, h4⟩), h3, fun hx => ?_, below_kept h5 k2 (fun x hx => ?_) (Nat.le_refl _), h6, h7, fun x hx => ?_⟩
  · rcases k3 _ hx with hx | hx
    · exact h4 hx
    · omega
  · rcases List.mem_cons.1 hx with rfl | hx
    · exact h6
    · exact h8 x hx
  · rcases k3 x hx with hx | hx
    · exact h8 x hx
    · exact Nat.le_trans h5.size hx
theorem FI.bytes (h : FI A w0 wb rb W R w) (he : W.err = none) : Calls Tryd.prog 18 #[.pointer (some ⟨wb, 0, none⟩)] w fun e w' => e = .returned (.tuple #[.string (strB W.out), .nilIface]) ∧ w = w' := by
  obtain ⟨gp, h1, _⟩ := h
  exact bytes_ok h1 he
end

/-- What was put of what was taken. -/
theorem item_enc {W : Wri} (he : W.err = none) {g : It} {bs : List UInt8} (h : encI g = some bs) (hm : (bs.length : Int) ≤ W.most - W.out.length) (hk : 1 ≤ g.kind ∧ g.kind ≤ 6) : W.item g = { W with out := W.out ++ bs } := by
  have hput : W.put bs = { W with out := W.out ++ bs } := by
    unfold Wri.put
    rw [if_pos he, if_neg (by omega)]
  rw [← hput]
  unfold encI at h
  unfold Wri.item Wri.byte Wri.count
  by_cases k1 : g.kind = 1
  · rw [if_pos k1] at h ⊢
    split at h
    · cases h
    · rename_i hn; rw [if_neg hn]; cases h; rfl
  rw [if_neg k1] at h ⊢
  by_cases k2 : g.kind = 2
  · rw [if_pos k2] at h ⊢
    split at h
    · cases h
    · rename_i hn; rw [if_neg hn]; cases h; rfl
  rw [if_neg k2] at h ⊢
  by_cases k3 : g.kind = 3
  · rw [if_pos k3] at h ⊢; cases h; rfl
  rw [if_neg k3] at h ⊢
  by_cases k4 : g.kind = 4
  · rw [if_pos k4] at h ⊢; cases h; rfl
  rw [if_neg k4] at h ⊢
  by_cases k5 : g.kind = 5
  · rw [if_pos k5] at h ⊢; cases h; rfl
  rw [if_neg k5] at h ⊢
  by_cases k6 : g.kind = 6
  · rw [if_pos k6] at h ⊢; cases h; rfl
  omega


/-- What get gives is an item that can be put. -/
theorem got_ok (R : Rdr) (i : It) (hl : R.rest.length ≤ 4096) : In64 (R.get i).2.1 ∧ (R.get i).2.2.1.length ≤ 4096 ∧ (R.get i).2.2.2.length ≤ 65536 := by
  unfold Rdr.get
  by_cases k1 : i.kind = 1
  · rw [if_pos k1]
    refine ⟨?_, by simp, by simp⟩
    have : R.byte.2 < 256 := by
      unfold Rdr.byte
      split
      · simp
      · split
        · simp
        · rename_i b r _; exact b.toNat_lt
    exact ⟨by simp only; omega, by simp only; omega⟩
  rw [if_neg k1]
  by_cases k2 : i.kind = 2
  · rw [if_pos k2]
    have : R.count.2 ≤ 9223372036854775807 := R.number_le _
    exact ⟨⟨by simp only; omega, by simp only; omega⟩, by simp, by simp⟩
  rw [if_neg k2]
  by_cases k3 : i.kind = 3
  · rw [if_pos k3]
    have h := R.number_le 18446744073709551615
    have : -9223372036854775808 ≤ R.num.2 ∧ R.num.2 ≤ 9223372036854775807 := by
      unfold Rdr.num unzig
      dsimp only
      split <;> omega
    exact ⟨this, by simp, by simp⟩
  rw [if_neg k3]
  by_cases k4 : i.kind = 4
  · rw [if_pos k4]
    refine ⟨⟨by simp, by simp⟩, ?_, by simp⟩
    dsimp only
    rcases number_cases R 18446744073709551615 with ⟨h1, h2⟩ | ⟨k, t, h1, h2, h3, h4, h5⟩
    · obtain ⟨Q, o, hp⟩ : ∃ Q o, R.number 18446744073709551615 = (Q, o) := ⟨_, _, rfl⟩
      rw [hp] at h1
      dsimp only at h1
      subst h1
      unfold Rdr.text
      rw [hp]
      split <;> simp
    · unfold Rdr.text
      rw [h1, h2]
      simp only [Bool.false_eq_true, if_false]
      have : t.length ≤ R.rest.length := by rw [h3, List.length_append]; omega
      split
      · simp
      · simp only [List.length_take]; omega
  rw [if_neg k4]
  by_cases k5 : i.kind = 5
  · rw [if_pos k5]
    have : R.bits.2 ≤ 4294967295 := R.number_le _
    exact ⟨⟨by simp only; omega, by simp only; omega⟩, by simp, by simp⟩
  rw [if_neg k5]
  by_cases k6 : i.kind = 6
  · rw [if_pos k6]
    refine ⟨⟨by simp, by simp⟩, by simp, ?_⟩
    dsimp only
    unfold Rdr.flags
    repeat' split
    all_goals first | (simp; done) | (simp only [flagsOf_len]; omega)
  rw [if_neg k6]
  exact ⟨⟨by simp, by simp⟩, by simp, by simp⟩

set_option maxRecDepth 100000 in
set_option maxHeartbeats 3200000 in
theorem forms_any (w : World) (A : Nat → Addr) (hG : Glob w A) (s : ByteArray) (hs : s.size ≤ maxLen) (X : Option Addr) (l : List It) (c : Nat) (hI : Items w X l) : Calls Tryd.prog 6 #[.string s, .slice X l.length c] w fun e w' => e = .returned (.bool true) ∧ Below w.heap.size w w' := by
  have GG := Lib.hid hG
  have II := Lib.hid hI
  have SS := Lib.hid hs
  clear hG hI hs
  obtain ⟨hv, hhv⟩ : ∃ hv, heavyL l = hv := ⟨_, rfl⟩
  obtain ⟨len, hlen⟩ : ∃ len, l.length = len := ⟨_, rfl⟩
  have LEN := Lib.hid hlen
  rw [hlen]
  go_enter Tryd.func6, Tryd.ntmps6
  go_wp2_with fail
  refine (awake_any w A GG.out).mono ?_
  rintro e w1 ⟨rfl, hb1⟩
  have B1 := Lib.hid hb1
  clear hb1
  go_wp2_with fail
  have hh := heavy_any w1 X l c (II.out.below B1.out)
  rw [hlen, hhv] at hh
  have HH := Lib.hid hh
  clear hh
  refine HH.out.mono ?_
  rintro e w2 ⟨rfl, rfl⟩
  cases hv with
  | true =>
    clear hhv hlen
    go_wp2_with fail
    go_ret
    exact ⟨rfl, B1.out⟩
  | false =>
    have NH := Lib.hid (not_heavy hhv)
    have hl60 : (len : Int) ≤ 60 := by have := NH.out.1; omega
    clear hhv hlen
    by_cases hbig : 4096 < s.size
    · have q : (4096 : Int) < (s.size : Int) := by omega
      clear hbig
      go_wp2_with fail
      go_ret
      exact ⟨rfl, B1.out⟩
    · have q : decide ((4096 : Int) < (s.size : Int)) = false := by simp; omega
      have S4 : Hid (s.size ≤ 4096) := Lib.hid (by omega)
      clear hbig
      go_wp2_with fail
      refine (ri_new (w0 := w) s SS.out B1.out).mono ?_
      rintro e w3 ⟨rfl, h3⟩
      obtain ⟨rb, hrb⟩ : ∃ rb, w1.heap.size = rb := ⟨_, rfl⟩
      rw [hrb] at h3 ⊢
      have H3 := Lib.hid h3
      clear h3 hrb
      go_wp2_with fail
      refine (wnew_any A 1048576 w3).mono ?_
      rintro e w4 ⟨rfl, h4a, h4b⟩
      have h4 : FI A w w3.heap.size rb (Wri.new 1048576) { rest := s.data.toList, bad := false } w4 := ⟨[], h4a, (H3.out.below h4b).1, by have := H3.out.1.lt; omega, by simp, H3.out.2.1.trans (h4b.mono H3.out.2.1.size), H3.out.2.1.size, H3.out.2.2, by simp⟩
      obtain ⟨wb, hwb⟩ : ∃ wb, w3.heap.size = wb := ⟨_, rfl⟩
      rw [hwb] at h4 ⊢
      have H4 := Lib.hid h4
      clear h4 h4a h4b hwb q
      go_wp2_with fail
      go_loopw [7] (fun iv wr => ∃ (k : Nat) (W : Wri) (R : Rdr), k ≤ len ∧ iv = .int .i64 k ∧ FI A w wb rb W R wr ∧ W.err = none ∧ W.most = 1048576 ∧ W.out ++ R.rest = s.data.toList) (fun iv _ => len - (intOf iv).toNat)
      case atStart => exact ⟨0, _, _, Nat.zero_le _, rfl, H4.out, rfl, rfl, rfl⟩
      case round =>
        obtain ⟨k, W, R, hk, rfl, hF, hW1, hW2, hW3⟩ := hrel
        have FF := Lib.hid hF
        have WR := Lib.hid (And.intro hW1 (And.intro hW2 (And.intro hW3 hW3)))
        clear hF hW1 hW2 hW3
        by_cases hlt : k < len
        · obtain ⟨x, hx⟩ : ∃ x, l[k]? = some x := ⟨l[k]'(by rw [LEN.out]; exact hlt), by simp [show k < l.length by rw [LEN.out]; exact hlt]⟩
          obtain ⟨⟨b, o, rfl, h0, h1, h2, h3⟩, m1, m2, m3, m4, m5⟩ := (II.out.below FF.out.bel) k x hx
          have hxm := NH.out.2 x (List.mem_of_getElem? hx)
          have hxo : x.ok wr := ⟨m1, m2, by omega, by omega, m5⟩
          have hrl : R.rest.length ≤ 4096 ∧ W.out.length + R.rest.length ≤ 4096 := by
            have e : s.size = s.data.toList.length := rfl
            have := S4.out
            rw [e, ← WR.out.2.2.1, List.length_append] at this
            omega
          have hbn : b ≠ rb := by
            obtain ⟨⟨b', o', he, k0, _⟩, _⟩ := II.out k x hx
            cases he
            have := World.block_lt_of_cell? w _ k0
            have := FF.out.rbge
            dsimp only at *
            omega
          have BN := Lib.hid hbn
          have LF := Lib.hid (left_any FF.out.rd)
          have GE := Lib.hid (get_any FF.out.rd x hxo)
          have GO := Lib.hid (got_ok R x hrl.1)
          have TE : Hid (∀ g : It, g.kind = x.kind → g.n = (R.get x).2.1 → g.text.data.toList = (R.get x).2.2.1 → g.fl = (R.get x).2.2.2 → ((R.get x).1.rest = R.rest ∧ (x.kind = 6 ∧ x.n = 0 → encI g = some [])) ∨ ∃ bs, R.rest = bs ++ (R.get x).1.rest ∧ encI g = some bs ∧ bs ≠ []) := Lib.hid (fun g => take_enc R x g hxm.2.2)
          have XK := Lib.hid hxm.2.2
          have RL := Lib.hid hrl
          obtain ⟨kind, n, text, fl, X', c'⟩ := x
          dsimp only at h0 h1 h2 h3 TE XK
          obtain ⟨R1, p1, p2, p3, hp⟩ : ∃ R1 p1 p2 p3, R.get ⟨kind, n, text, fl, X', c'⟩ = (R1, p1, p2, p3) := ⟨_, _, _, _, rfl⟩
          rw [hp] at GE GO TE
          dsimp only at GE GO TE
          have i0 : (0 : Int) ≤ (k : Int) := by omega
          have i1 : (k : Int) < (len : Int) := by omega
          have C0 := Lib.hid (And.intro h0 h1)
          clear hx m1 m2 m3 m4 m5 hxm hxo hrl hp hbn
          go_wp2_with fail
          refine LF.out.mono ?_
          rintro e w5 ⟨rfl, rfl⟩
          go_wp2_with fail
          refine GE.out.mono ?_
          rintro e w6 ⟨⟨g, rfl, g1, g2, g3, g4, g5, g6, g7⟩, hl⟩
          have TG := TE.out g g1 g2 g3 g4
          obtain ⟨gk, gn, gt, gf, gX, gc⟩ := g
          dsimp only at g1 g2 g3 g4 g5 g6 g7 TG
          have F6 := Lib.hid (FF.out.left hl)
          have GOK : Hid (∀ wz, Below w6.heap.size w6 wz → It.ok wz ⟨gk, gn, gt, gf, gX, gc⟩) := Lib.hid (fun wz hz => ⟨by show In64 gk; rw [g1]; have := XK.out; exact ⟨by omega, by omega⟩, by show In64 gn; rw [g2]; exact GO.out.1, by have e : gt.size = gt.data.toList.length := rfl; have := GO.out.2.1; show gt.size ≤ 1000000; rw [e, g3]; omega, by have := GO.out.2.2; show gf.length ≤ 100000; rw [g4]; omega, g6.below hz⟩)
          have GK := Lib.hid g1
          have hk0 : w6.cell? ⟨b, o + k * 4, none⟩ = some (.int .i64 kind) := hl.2.cell h0 (by simpa using BN.out)
          have hk1 : w6.cell? ⟨b, o + k * 4 + 1, none⟩ = some (.int .i64 n) := hl.2.cell h1 (by simpa using BN.out)
          have LF2 := Lib.hid (left_any (FI.rd (F6.out.below ((Below.refl _ _).alloc (Nat.le_refl _) (.cells #[.int .i64 gk, .int .i64 gn, .string gt, .slice gX gf.length gc] 30)))))
          clear h0 h1 h2 h3 g1 g2 g3 g4 g5 g6 g7 hl
          dsimp only [It.v]
          go_wp2_with fail
          refine LF2.out.mono ?_
          rintro e w7 ⟨rfl, rfl⟩
          have F7 := Lib.hid (F6.out.below ((Below.refl _ _).alloc (Nat.le_refl _) (.cells #[.int .i64 gk, .int .i64 gn, .string gt, .slice gX gf.length gc] 30)))
          have GO7 := Lib.hid (GOK.out _ ((Below.refl _ _).alloc (Nat.le_refl _) (.cells #[.int .i64 gk, .int .i64 gn, .string gt, .slice gX gf.length gc] 30)))
          have hk0a := (Kept.alloc w6 (.cells #[.int .i64 gk, .int .i64 gn, .string gt, .slice gX gf.length gc] 30)).cell hk0 (by simp)
          have hk1a := (Kept.alloc w6 (.cells #[.int .i64 gk, .int .i64 gn, .string gt, .slice gX gf.length gc] 30)).cell hk1 (by simp)
          have hWok : W.ok := ⟨by rw [WR.out.2.1]; decide, by rw [WR.out.2.1]; decide, by have := RL.out.2; omega⟩
          have PUT := Lib.hid (F7.out.put hWok GG.out ⟨gk, gn, gt, gf, gX, gc⟩ GO7.out)
          have go : ∀ bs, encI ⟨gk, gn, gt, gf, gX, gc⟩ = some bs → R.rest = bs ++ R1.rest → W.item ⟨gk, gn, gt, gf, gX, gc⟩ = { W with out := W.out ++ bs } ∧ (W.out ++ bs) ++ R1.rest = s.data.toList := fun bs h1 h2 => by
            refine ⟨item_enc WR.out.1 h1 ?_ (by show 1 ≤ gk ∧ gk ≤ 6; rw [GK.out]; exact XK.out), ?_⟩
            · have h3 := RL.out.2
              rw [h2, List.length_append] at h3
              rw [WR.out.2.1]; omega
            · rw [List.append_assoc, ← h2, WR.out.2.2.1]
          have GOO := Lib.hid go
          clear hWok go
          rcases TG with ⟨hr, h6⟩ | ⟨bs, hbs, henc, hne⟩
          · have hll : R1.rest.length = R.rest.length := by rw [hr]
            by_cases hz : kind = 6 ∧ n = 0
            · obtain ⟨i1', i2'⟩ := GOO.out [] (h6 hz) (by rw [hr]; rfl)
              rw [i1'] at PUT
              obtain ⟨rfl, rfl⟩ := hz
              have I2 := Lib.hid i2'
              rw [hll]
              clear hll i1' i2' hr h6
              go_wp2_with fail
              refine PUT.out.mono ?_
              rintro e w8 ⟨rfl, h8⟩
              have F8 := Lib.hid h8
              clear h8
              go_wp2_with fail
              exact ⟨⟨k + 1, _, _, by omega, by go_num, F8.out, WR.out.1, WR.out.2.1, I2.out⟩, by simp [intOf]; omega⟩
            · have WR7 : Hid (W.err = none ∧ W.most = 1048576 ∧ W.out ++ R1.rest = s.data.toList ∧ W.out ++ R1.rest = s.data.toList) := Lib.hid (by rw [hr]; exact WR.out)
              have hz2 : ¬ kind = 6 ∨ (kind = 6 ∧ (n == 0) = false) := by
                by_cases h : kind = 6
                · exact .inr ⟨h, by simp; exact fun hn => hz ⟨h, hn⟩⟩
                · exact .inl h
              clear h6 hr hz
              rw [← hll]
              clear hll
              rcases hz2 with z | ⟨z1, z2⟩
              · have hsz : s.size = W.out.length + R1.rest.length := by
                  have e : s.size = s.data.toList.length := rfl
                  rw [e, ← WR7.out.2.2.1, List.length_append]
                obtain ⟨S, hS⟩ : ∃ S, strB W.out = S := ⟨_, rfl⟩
                have hSl : S.data.toList = W.out := by rw [← hS]; simp [strB]
                have hSz : S.size = W.out.length := by rw [← hSl]; rfl
                go_wp2_with fail
                refine (F7.out.bytes WR7.out.1).mono ?_
                rintro e w8 ⟨rfl, rfl⟩
                rw [hS]
                have q1 : S.size ≤ s.size := by omega
                have q2 : wrap64 ((s.size : Int) - (R1.rest.length : Int)) = (S.size : Int) := by rw [IntWalk.wrap64_in _ (by have := S4.out; omega)]; omega
                have q3 : ((s.extract 0 S.size).toList == S.toList) = true := by
                  rw [bytes_eq, decide_eq_true_iff]
                  apply ByteArray.ext
                  apply Array.toList_inj.1
                  rw [extract_take, hSl, ← WR7.out.2.2.1, hSz, List.take_left]
                clear hS hSl hsz hSz
                have LF := Lib.hid (left_any F7.out.rd)
                generalize R1.rest.length = rl at *
                go_wp2_with fail
                refine LF.out.mono ?_
                rintro e w9 ⟨rfl, rfl⟩
                go_wp2_with fail
                go_ret
                exact ⟨rfl, F7.out.bel⟩
              · subst z1
                have hsz : s.size = W.out.length + R1.rest.length := by
                  have e : s.size = s.data.toList.length := rfl
                  rw [e, ← WR7.out.2.2.1, List.length_append]
                obtain ⟨S, hS⟩ : ∃ S, strB W.out = S := ⟨_, rfl⟩
                have hSl : S.data.toList = W.out := by rw [← hS]; simp [strB]
                have hSz : S.size = W.out.length := by rw [← hSl]; rfl
                go_wp2_with fail
                refine (F7.out.bytes WR7.out.1).mono ?_
                rintro e w8 ⟨rfl, rfl⟩
                rw [hS]
                have q1 : S.size ≤ s.size := by omega
                have q2 : wrap64 ((s.size : Int) - (R1.rest.length : Int)) = (S.size : Int) := by rw [IntWalk.wrap64_in _ (by have := S4.out; omega)]; omega
                have q3 : ((s.extract 0 S.size).toList == S.toList) = true := by
                  rw [bytes_eq, decide_eq_true_iff]
                  apply ByteArray.ext
                  apply Array.toList_inj.1
                  rw [extract_take, hSl, ← WR7.out.2.2.1, hSz, List.take_left]
                clear hS hSl hsz hSz
                have LF := Lib.hid (left_any F7.out.rd)
                generalize R1.rest.length = rl at *
                go_wp2_with fail
                refine LF.out.mono ?_
                rintro e w9 ⟨rfl, rfl⟩
                go_wp2_with fail
                go_ret
                exact ⟨rfl, F7.out.bel⟩
          · have hll : ¬ R1.rest.length = R.rest.length := by
              have h1 := congrArg List.length hbs
              rw [List.length_append] at h1
              have : 0 < bs.length := List.length_pos_iff.2 hne
              omega
            obtain ⟨i1', i2'⟩ := GOO.out bs henc hbs
            rw [i1'] at PUT
            have I2 := Lib.hid i2'
            clear i1' i2' hbs henc hne
            generalize R1.rest.length = l1 at *
            generalize R.rest.length = l0 at *
            have qb : ((l1 : Int) == (l0 : Int)) = false := by simp; omega
            go_wp2_with fail
            refine PUT.out.mono ?_
            rintro e w8 ⟨rfl, h8⟩
            have F8 := Lib.hid h8
            clear h8
            go_wp2_with fail
            exact ⟨⟨k + 1, _, _, by omega, by go_num, F8.out, WR.out.1, WR.out.2.1, I2.out⟩, by simp [intOf]; omega⟩
        · obtain rfl : k = len := by omega
          have hsz : s.size = W.out.length + R.rest.length := by
            have e : s.size = s.data.toList.length := rfl
            rw [e, ← WR.out.2.2.1, List.length_append]
          obtain ⟨S, hS⟩ : ∃ S, strB W.out = S := ⟨_, rfl⟩
          have hSl : S.data.toList = W.out := by rw [← hS]; simp [strB]
          have hSz : S.size = W.out.length := by rw [← hSl]; rfl
          go_wp2_with fail
          refine (FF.out.bytes WR.out.1).mono ?_
          rintro e w8 ⟨rfl, rfl⟩
          rw [hS]
          have q1 : S.size ≤ s.size := by omega
          have q2 : wrap64 ((s.size : Int) - (R.rest.length : Int)) = (S.size : Int) := by rw [IntWalk.wrap64_in _ (by have := S4.out; omega)]; omega
          have q3 : ((s.extract 0 S.size).toList == S.toList) = true := by
            rw [bytes_eq, decide_eq_true_iff]
            apply ByteArray.ext
            apply Array.toList_inj.1
            rw [extract_take, hSl, ← WR.out.2.2.1, hSz, List.take_left]
          clear hS hSl hsz hSz
          have LF := Lib.hid (left_any FF.out.rd)
          generalize R.rest.length = rl at *
          go_wp2_with fail
          refine LF.out.mono ?_
          rintro e w9 ⟨rfl, rfl⟩
          go_wp2_with fail
          go_ret
          exact ⟨rfl, FF.out.bel⟩

end Go.Proofs.YtgdbpicelnoacaaDoor
