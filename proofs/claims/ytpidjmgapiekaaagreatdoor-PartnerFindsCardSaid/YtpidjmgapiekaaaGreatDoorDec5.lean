/- This text proves what Decode answers of bytes whose sum is right, over the loaded program. -/
import Derived.Test.YtpidjmgapiekaaaGreatDoorDec4
import Derived.Test.YtpidjmgapiekaaaGreatDoorDecOk
namespace Go.Proofs.YtpidjmgapiekaaaGreatDoor
open Go.RowKit Go.WideShapes
set_option linter.unusedSimpArgs false

/-- What Decode answers. -/
def DecB (A : Nat → Addr) (l : List UInt8) (w : World) (e : Ending) (w' : World) : Prop :=
  Below w.heap.size w w' ∧ ((decOk l = true ∧ ∃ X c, e = .returned (.tuple #[((decQ l).2.par ((decB l).2 : Int) X c).v, .nilIface]) ∧ Cells w' X (iv (decQ l).2.ins) ∧ ∀ b o, X = some ⟨b, o, none⟩ → w.heap.size ≤ b) ∨
    (decOk l = false ∧ ∃ v, e = .returned (.tuple #[ZV, v]) ∧ WrapsT w' v (A ((decErr l).getD 0))))

/-- The reader and its box, over what was there. -/
def RJ (W : World) (rb pb : Nat) (R : Rdr) (w : World) : Prop := (Below W.heap.size W w ∧ w.heap[pb]? = some (.cells #[.pointer (some ⟨rb, 0, none⟩)] 119 (0, 0))) ∧ RdAt w rb R ∧ W.heap.size ≤ rb ∧ rb < pb
/-- What holds behind the reading of a packet's fields. -/
def DecI (W : World) (rb pb : Nat) (R : Rdr) (ii : List Int) (X : Option Addr) (w : World) : Prop := RJ W rb pb R w ∧ Cells w X (iv ii) ∧ ∀ b o, X = some ⟨b, o, none⟩ → W.heap.size ≤ b
/-- A new packet's block. -/
def ZB (W : World) (rb pb b : Nat) (w : World) : Prop := w.heap[b]? = some (.cells #[.int .i64 0, .int .i64 0, .int .i64 0, .int .i64 0, .slice none 0 0, .int .i64 0, .int .u64 0] 57 (0, 0)) ∧ b ≠ rb ∧ b ≠ pb ∧ W.heap.size ≤ b
theorem RJ.below {W : World} {rb pb : Nat} {R : Rdr} {w w' : World} (h : RJ W rb pb R w) (hb : Below w.heap.size w w') : RJ W rb pb R w' :=
  ⟨⟨h.1.1.trans (hb.mono h.1.1.size), (hb.block _ (Array.getElem?_eq_some_iff.1 h.1.2).1).trans h.1.2⟩, h.2.1.below hb, h.2.2⟩
theorem DecI.below {W : World} {rb pb : Nat} {R : Rdr} {ii : List Int} {X : Option Addr} {w w' : World} (h : DecI W rb pb R ii X w) (hb : Below w.heap.size w w') : DecI W rb pb R ii X w' := ⟨h.1.below hb, h.2.1.below hb, h.2.2⟩
theorem RJ.alloc {W : World} {rb pb : Nat} {R : Rdr} {w : World} (h : RJ W rb pb R w) (o : Obj) : RJ W rb pb R (w.alloc o) := h.below ((Below.refl _ _).alloc (Nat.le_refl _) o)
theorem RJ.cell {W : World} {rb pb : Nat} {R : Rdr} {w : World} (h : RJ W rb pb R w) : w.cell? ⟨pb, 0, none⟩ = some (.pointer (some ⟨rb, 0, none⟩)) := by
  have := h.1.2
  simp only [World.cell?, this]; rfl
theorem RJ.new {W : World} {rb pb : Nat} {R : Rdr} {w : World} (h : RJ W rb pb R w) : ZB W rb pb w.heap.size (w.alloc (.cells #[.int .i64 0, .int .i64 0, .int .i64 0, .int .i64 0, .slice none 0 0, .int .i64 0, .int .u64 0] 57)) := by
  have h1 := h.2.1.lt
  have h2 := (Array.getElem?_eq_some_iff.1 h.1.2).1
  exact ⟨heap_alloc_new w _, by omega, by omega, h.1.1.size⟩
theorem RJ.left {W : World} {rb pb : Nat} {R R' : Rdr} {w w' : World} (h : RJ W rb pb R w) (hl : RLeft w rb R' w') : RJ W rb pb R' w' ∧ ∀ b, ZB W rb pb b w → ZB W rb pb b w' :=
  ⟨⟨⟨below_kept h.1.1 hl.2 (by simp; exact h.2.2.1) (Nat.le_refl _), hl.box h.1.2 (by have := h.2.2.2; omega)⟩, hl.1, h.2.2⟩, fun b hz => ⟨hl.box hz.1 hz.2.1, hz.2⟩⟩
theorem dec_c32 (W : World) (rb pb : Nat) (L : List UInt8) (w : World) (h : RJ W rb pb ⟨decM L, false⟩ w) : Calls Tryz.prog 66 #[.pointer (some ⟨rb, 0, none⟩)] w fun e w' => e = .returned (.int .i64 ((decB L).2 : Int)) ∧ RJ W rb pb (decB L).1 w' ∧ ∀ b, ZB W rb pb b w → ZB W rb pb b w' :=
  (rbyte_any h.2.1).mono fun _ _ ⟨he, hl⟩ => ⟨he, h.left hl⟩
theorem dec_c73 (W : World) (rb pb : Nat) (L : List UInt8) (w : World) (h : RJ W rb pb (decB L).1 w) : Calls Tryz.prog 65 #[.agg #[.pointer (some ⟨rb, 0, none⟩)], .int .i64 ((decB L).2 : Int)] w fun e w' =>
    ∃ X c, e = .returned ((decQ L).2.par ((decB L).2 : Int) X c).v ∧ DecI W rb pb (decQ L).1 (decQ L).2.ins X w' ∧ (∀ b, ZB W rb pb b w → ZB W rb pb b w') ∧ ∀ b o, X = some ⟨b, o, none⟩ → w.heap.size ≤ b :=
  (scanBody_any h.2.1 ((decB L).2 : Int)).mono (by
    rintro e w' ⟨⟨kind, nonce, frm, base, ins, ack, sum, X, c⟩, rfl, ⟨h1, h2, h3, h4, h5, h6, h7⟩, hc9, hl9, hf9⟩
    dsimp only at h1 h2 h3 h4 h5 h6 h7 hc9 hf9
    subst h1 h2 h3 h4 h5 h6 h7
    exact ⟨X, c, rfl, ⟨(h.left hl9).1, hc9, fun b o hx => Nat.le_trans h.1.1.size (hf9 b o hx)⟩, (h.left hl9).2, hf9⟩)
theorem ZB.far {W : World} {rb pb b : Nat} {w : World} (h : ZB W rb pb b w) (wz : World) (i : Nat) (v : Value) : (wz.setCell ⟨b, i, none⟩ v).cell? ⟨pb, 0, none⟩ = wz.cell? ⟨pb, 0, none⟩ := World.cell?_setCell_far wz ⟨b, i, none⟩ ⟨pb, 0, none⟩ v h.2.2.1
theorem ZB.facts {W : World} {rb pb b : Nat} {w : World} (h : ZB W rb pb b w) : (w.cell? ⟨b, 0, none⟩ = some (.int .i64 0) ∧ w.frozen? ⟨b, 0, none⟩ = false) ∧ (w.cell? ⟨b, 1, none⟩ = some (.int .i64 0) ∧ w.frozen? ⟨b, 1, none⟩ = false) ∧ (w.cell? ⟨b, 2, none⟩ = some (.int .i64 0) ∧ w.frozen? ⟨b, 2, none⟩ = false) ∧ (w.cell? ⟨b, 3, none⟩ = some (.int .i64 0) ∧ w.frozen? ⟨b, 3, none⟩ = false) ∧ (w.cell? ⟨b, 4, none⟩ = some (.slice none 0 0) ∧ w.frozen? ⟨b, 4, none⟩ = false) ∧ (w.cell? ⟨b, 5, none⟩ = some (.int .i64 0) ∧ w.frozen? ⟨b, 5, none⟩ = false) ∧ (w.cell? ⟨b, 6, none⟩ = some (.int .u64 0) ∧ w.frozen? ⟨b, 6, none⟩ = false) := cells7 h.1
/-- All ways of a statement that makes one block, and takes one slice, meet behind it. -/
theorem meetE {P : Program} {c : Code} {Q : Exit → Act → World → Prop} {a : Act} {w : World} (F : Nat → Option Addr → Nat → Act) (R : Nat → Option Addr → Nat → World → Prop) (h : c.wp P (AtN fun a' wx => ∃ b X k, a' = F b X k ∧ R b X k wx) a w) (k : ∀ b X k wx, R b X k wx → Q .normal (F b X k) wx) : c.wp P Q a w :=
  wp_mono h fun e a' wx hat => by
    obtain ⟨rfl, b, X, c', rfl, hr⟩ := hat.out
    exact k b X c' wx hr
set_option maxRecDepth 100000 in
set_option maxHeartbeats 6400000 in
theorem dec_right (A : Nat → Addr) (s : ByteArray) (w : World) (hA : s_Glob w A) (hd : decErr s.data.toList = none) : Calls Tryz.prog 19 #[.string s] w (DecB A s.data.toList w) := by
  obtain ⟨hm, hs, h0, hsum⟩ := decErr_none hd
  have hlen : s.data.toList.length = s.size := rfl
  rw [hlen] at hm hs hsum
  have al := (Below.refl w.heap.size w).alloc (Nat.le_refl _) (.cells #[.int .i64 0, .int .i64 0, .int .i64 0, .int .i64 0, .slice none 0 0, .int .i64 0, .int .u64 0] 57)
  obtain ⟨W, hW⟩ : ∃ W, w.alloc (.cells #[.int .i64 0, .int .i64 0, .int .i64 0, .int .i64 0, .slice none 0 0, .int .i64 0, .int .u64 0] 57) = W := ⟨_, rfl⟩
  have bW := heap_alloc_new w (.cells #[.int .i64 0, .int .i64 0, .int .i64 0, .int .i64 0, .slice none 0 0, .int .i64 0, .int .u64 0] 57)
  rw [hW] at al bW
  have BW := Lib.hid bW
  have AL := Lib.hid al
  have EW := Lib.hid hW
  have GG := Lib.hid (hA.below al)
  have q : (6 : Int) ≤ (s.size : Int) := by omega
  have q2 : (s.size : Int) ≤ 512 := by omega
  have q1 : 0 < s.size := by omega
  have hb : s.data.toList.getD 0 0 = s[0]'q1 := by rw [List.getD_eq_getElem?_getD, List.getElem?_eq_getElem (by rw [hlen]; exact q1)]; rfl
  have q5 : (((s[0]'q1).toNat : Int) != 80) = false := by
    rw [hb] at h0
    rw [h0]; rfl
  have q6 : (0 : Int) < (s.size : Int) := by omega
  obtain ⟨m, hmm⟩ : ∃ m, s.size - 4 = m := ⟨_, rfl⟩
  rw [hmm] at hsum
  have q7 : (s.size : Int) - 4 = (m : Int) := by omega
  have q8 : (m : Int) ≤ (s.size : Int) := by omega
  have q9 : (1 : Int) ≤ (m : Int) := by omega
  have PS := Lib.hid (psum_any (s.extract 0 m) W.drew (by simp only [ByteArray.size_extract, maxLen]; omega))
  rw [extract_take] at PS
  have qn : ((strB (sum4 (s.data.toList.take m))).toList == (s.extract m s.size).toList) = true := by
    rw [bytes_eq, decide_eq_true_eq]
    apply ByteArray.ext
    apply Array.ext'
    rw [extract_list, ← hsum]
    simp [strB]
  have hM : (s.extract 1 m).data.toList = decM s.data.toList := by
    unfold decM
    rw [hlen, hmm]
    have h : (s.extract 1 m).data = s.data.extract 1 m := by simp
    rw [h, Array.toList_extract, List.extract_eq_take_drop, List.drop_take]
  have NW := Lib.hid (fun w' => rnew_any (s.extract 1 m) (by simp only [ByteArray.size_extract, maxLen]; omega) w')
  rw [hM] at NW
  have HD := Lib.hid hd
  obtain ⟨L, hL⟩ : ∃ L, s.data.toList = L := ⟨_, rfl⟩
  rw [hL] at NW HD PS qn ⊢
  have HL := Lib.hid hL
  clear hA al hb h0 hd hmm hW bW hlen hsum hM hm hs hL
  go_enter Tryz.func19, Tryz.ntmps19
  go_wp2_with fail
  rw [EW.out]
  go_region_with ((first | (go_at_call 63; refine PS.out.mono ?_; rintro e w5 ⟨rfl, hbel⟩)))
  have B5 := Lib.hid (show Below W.heap.size W w5 from (Below.trans (show Below W.heap.size W W.drew from ⟨rfl, rfl, rfl, Nat.le_refl _, fun _ _ => rfl⟩) hbel))
  clear hbel
  go_wp2_with fail
  obtain ⟨rb, hrb⟩ : ∃ rb, w5.heap.size = rb := ⟨_, rfl⟩
  refine (NW.out _).mono ?_
  rw [hrb]
  rintro e w6 ⟨rfl, hR, hb6⟩
  have al7 := (Below.refl w6.heap.size w6).alloc (Nat.le_refl _) (.cells #[.pointer (some ⟨rb, 0, none⟩)] 119)
  obtain ⟨w7, hw7⟩ : ∃ w7, w6.alloc (.cells #[.pointer (some ⟨rb, 0, none⟩)] 119) = w7 := ⟨_, rfl⟩
  have b7 := heap_alloc_new w6 (.cells #[.pointer (some ⟨rb, 0, none⟩)] 119)
  obtain ⟨pb, hpb⟩ : ∃ pb, w6.heap.size = pb := ⟨_, rfl⟩
  rw [hw7] at al7 b7
  rw [hpb] at b7
  have R7 := hR.below al7
  have J7 : RJ W rb pb ⟨decM L, false⟩ w7.drew := by
    have h5 := B5.out.size
    have h6 := hR.lt
    exact ⟨⟨(B5.out.trans (hb6.mono (by omega))).trans ((al7.mono (by have := hb6.size; omega)).trans ⟨rfl, rfl, rfl, Nat.le_refl _, fun _ _ => rfl⟩), b7⟩, R7, by omega, by omega⟩
  have c0 := J7.cell
  have d7 : Hid (∀ o, (w7.alloc o).drew.cell? ⟨pb, 0, none⟩ = some (.pointer (some ⟨rb, 0, none⟩))) := Lib.hid (fun o => (J7.alloc o).cell)
  have JA7 : RJ W rb pb ⟨decM L, false⟩ (w7.alloc (.cells #[.int .i64 0, .int .i64 0, .int .i64 0, .int .i64 0, .slice none 0 0, .int .i64 0, .int .u64 0] 57)).drew := J7.alloc _
  have ZN7 : ZB W rb pb w7.heap.size (w7.alloc (.cells #[.int .i64 0, .int .i64 0, .int .i64 0, .int .i64 0, .slice none 0 0, .int .i64 0, .int .u64 0] 57)).drew := J7.new
  have CB := Lib.hid (dec_c32 W rb pb L)
  have CD := Lib.hid (dec_c73 W rb pb L)
  have HJ := Lib.hid (And.intro (fun (R : Rdr) (wx : World) (o : Obj) (h : RJ W rb pb R wx) => h.alloc o) (fun (R : Rdr) (wx : World) (h : RJ W rb pb R wx) => h.new))
  obtain ⟨k, hk⟩ : ∃ k : Int, ((decB L).2 : Int) = k := ⟨_, rfl⟩
  obtain ⟨Rb, hRb⟩ : ∃ Rb, (decB L).1 = Rb := ⟨_, rfl⟩
  obtain ⟨Q, hQ⟩ : ∃ Q, decQ L = Q := ⟨_, rfl⟩
  rw [hk, hRb] at CB CD
  rw [hQ] at CD
  obtain ⟨R2, nn, ff, bb, ii, aa, ss⟩ := Q
  have HQ := Lib.hid (And.intro hQ hk)
  unfold Par.v Flds.par at CD
  dsimp only at CD
  have E7 := Lib.hid hw7
  have EP := Lib.hid hpb
  clear hR hb6 al7 hw7 b7 hpb R7 hQ hk hRb hrb
  go_wp2_with fail
  rw [E7.out, EP.out]
  apply meetE (R := fun b X c wx => ∃ wy, DecI W rb pb R2 ii X wy ∧ Kept [b] wy wx ∧ Cells wx X (iv ii) ∧ wx.heap[b]? = some (.cells #[.int .i64 k, .int .i64 nn, .int .i64 ff, .int .i64 bb, .slice X ii.length c, .int .i64 aa, .int .u64 ss] 57 (0, 0)) ∧ b ≠ rb ∧ b ≠ pb ∧ W.heap.size ≤ b)
  case h =>
    go_region_held3 (fun w' => w'.cell? ⟨pb, 0, none⟩ = some (.pointer (some ⟨rb, 0, none⟩)))
      (with_reducible (first | assumption | exact d7.out _ | exact d8.out _ | exact d9.out _ | (rw [FAR.out, FAR.out, FAR.out, FAR.out, FAR.out, FAR.out, FAR.out]; exact c9)))
      (first
        | (go_at_call 66; (with_reducible refine (CB.out _ ?_).mono ?_); (with_reducible (first | exact J7 | exact JA7)); rintro e w8 ⟨rfl, j8, z8⟩; have c8 := j8.cell; have d8 := Lib.hid (fun o => (j8.alloc o).cell))
        | (go_at_call 65; (with_reducible refine (CD.out _ ?_).mono ?_); (with_reducible (first | exact j8 | exact HJ.out.1 _ _ _ j8)); rintro e w9 ⟨X, c, rfl, j9, z9, x9⟩; have c9 := j9.1.cell; have d9 := Lib.hid (fun o => (j9.1.alloc o).cell); (with_reducible (first | (have hz := z9 _ (z8 _ ZN7)) | (have hz := z9 _ (HJ.out.2 _ _ j8)) | skip)); (try have FAR := Lib.hid hz.far); (try obtain ⟨⟨t0, f0⟩, ⟨t1, f1⟩, ⟨t2, f2⟩, ⟨t3, f3⟩, ⟨t4, f4⟩, ⟨t5, f5⟩, ⟨t6, f6⟩⟩ := hz.facts)))
    · have hx := x9
      generalize hB : w9.heap.size = B
      have hl := World.block_lt_of_cell? w9 _ c9
      refine ⟨B, X, c, rfl, _, DecI.below j9 ((Below.refl _ _).alloc (Nat.le_refl _) _), Kept.refl _ _, j9.2.1.below ((Below.refl _ _).alloc (Nat.le_refl _) _), ?_, ?_, ?_, ?_⟩
      · rw [← hB]; exact heap_alloc_new w9 _
      · rw [← hB]; have := j9.1.2.1.lt; omega
      · rw [← hB]; exact Nat.ne_of_gt hl
      · rw [← hB]; exact j9.1.1.1.size
    · have hx := x9
      have hlt : w8.heap.size < (w8.alloc (.cells #[.int .i64 0, .int .i64 0, .int .i64 0, .int .i64 0, .slice none 0 0, .int .i64 0, .int .u64 0] 57)).heap.size := by rw [size_alloc1]; omega
      generalize w8.heap.size = B at hz hlt hx ⊢
      obtain ⟨s1, s2, -⟩ := stored7 hz.1 (.int .i64 k) (.int .i64 nn) (.int .i64 ff) (.int .i64 bb) (.slice X ii.length c) (.int .i64 aa) (.int .u64 ss)
      exact ⟨B, X, c, rfl, w9, j9, s2, j9.2.1.kept s2 (fun b o h => by have := hx b o h; simp; omega), s1, hz.2⟩
    · have hx := x9
      have hlt : w7.heap.size < w8.heap.size := (Array.getElem?_eq_some_iff.1 (z8 _ ZN7).1).1
      generalize w7.heap.size = B at hz hlt ⊢
      obtain ⟨s1, s2, -⟩ := stored7 hz.1 (.int .i64 k) (.int .i64 nn) (.int .i64 ff) (.int .i64 bb) (.slice X ii.length c) (.int .i64 aa) (.int .u64 ss)
      exact ⟨B, X, c, rfl, w9, j9, s2, j9.2.1.kept s2 (fun b o h => by have := hx b o h; simp; omega), s1, hz.2⟩
  case k =>
    rintro b X c wx ⟨wy, j9, hk, hcx, hbx, n1, n2, n3⟩
    have BX := Lib.hid (below_kept j9.1.1.1 hk (by simp; exact n3) (Nat.le_refl _))
    have xp := (hk.block pb (Array.getElem?_eq_some_iff.1 j9.1.1.2).1 (by simp; omega)).trans j9.1.1.2
    have RX : RdAt wx rb R2 := j9.1.2.1.kept hk (by simp; omega)
    have XF := Lib.hid j9.2.2
    have CX := Lib.hid hcx
    have c0x : wx.cell? ⟨pb, 0, none⟩ = some (.pointer (some ⟨rb, 0, none⟩)) := by simp only [World.cell?, xp]; rfl
    have END := Lib.hid (end_any RX (GG.out.below BX.out))
    have HX := Lib.hid hbx
    have PG : Hid ((decPar L).good = (⟨k, nn, ff, bb, ii, aa, ss, X, c⟩ : Par).good) := Lib.hid (by
      have := good_par (decQ L).2 ((decB L).2 : Int) X c
      rw [HQ.out.1, HQ.out.2] at this
      unfold decPar
      rw [HQ.out.1, HQ.out.2, ← this]
      rfl)
    have FINB : Hid ((R2.right && (⟨k, nn, ff, bb, ii, aa, ss, X, c⟩ : Par).good) = false → ∀ v w', Below w.heap.size w w' → WrapsT w' v (A 0) → DecB A L w (.returned (.tuple #[ZV, v])) w') := Lib.hid (fun h v w' hB hw => ⟨hB, .inr ⟨by
      unfold decOk
      rw [HD.out, PG.out, HQ.out.1]
      exact h, v, rfl, by rw [HD.out]; exact hw⟩⟩)
    have POK : Hid ((⟨k, nn, ff, bb, ii, aa, ss, X, c⟩ : Par).ok wx) := Lib.hid (by
      have h := body_in (decB L).1 ((decB L).2 : Int)
      have e : (decB L).1.body ((decB L).2 : Int) = decQ L := rfl
      rw [e, HQ.out.1] at h
      have hb := byte_le (Rdr.mk (decM L) false)
      have e2 : (Rdr.mk (decM L) false).byte = decB L := rfl
      rw [e2] at hb
      obtain ⟨h1, h2, h3, h4, h5, h6, h7⟩ := h
      dsimp only at h1 h2 h3 h4 h5 h6 h7
      exact ⟨by show In64 k; have := HQ.out.2; unfold In64; omega, h1, h2, h3, h4, h5, by dsimp only; omega, h7, hcx⟩)
    clear j9 hk hcx hbx n1 n2 n3 xp RX J7 c0 d7 JA7 ZN7
    cases hr : R2.right with
    | false =>
      rw [hr] at END FINB
      clear hr
      go_wp2_with fail
      refine END.out.mono ?_
      rintro e wz ⟨v, rfl, hbz, hv⟩
      rcases hv with ⟨h, _⟩ | ⟨j, _, hv⟩
      · cases h
      obtain ⟨bv, Cv, rfl, -, -⟩ := hv
      have BZ := BX.out.trans (hbz.mono BX.out.size)
      clear hbz
      have b5 := (BZ.block w.heap.size (Array.getElem?_eq_some_iff.1 BW.out).1).trans BW.out
      have g0 := (GG.out.below BZ) 0 (by decide)
      dsimp only [gl] at g0
      obtain ⟨⟨d0, fd0⟩, ⟨d1, fd1⟩, ⟨d2, fd2⟩, ⟨d3, fd3⟩, ⟨d4, fd4⟩, ⟨d5, fd5⟩, ⟨d6, fd6⟩⟩ := cells7 b5
      have b6 := (alloc_old wz (.cells #[.string ⟨#[112, 97, 114, 99, 101, 108]⟩, .iface 221 (.pointer (some (A 0)))] 195) w.heap.size (Array.getElem?_eq_some_iff.1 b5).1).trans b5
      obtain ⟨⟨e0, fe0⟩, ⟨e1, fe1⟩, ⟨e2, fe2⟩, ⟨e3, fe3⟩, ⟨e4, fe4⟩, ⟨e5, fe5⟩, ⟨e6, fe6⟩⟩ := cells7 b6
      have E7 := Lib.hid (stored7 b6 (.int .i64 0) (.int .i64 0) (.int .i64 0) (.int .i64 0) (.slice none 0 0) (.int .i64 0) (.int .u64 0))
      have LT : Hid (w.heap.size < wz.heap.size) := Lib.hid (Array.getElem?_eq_some_iff.1 b5).1
      have BL := Lib.hid BZ
      clear b5 b6
      go_wp2_with fail
      refine (wrongAt_any _ _ _).mono ?_
      rintro e w6' ⟨rfl, rfl⟩
      go_wp2_with fail
      obtain ⟨z7, k7, -⟩ := E7.out
      obtain ⟨⟨y0, -⟩, ⟨y1, -⟩, ⟨y2, -⟩, ⟨y3, -⟩, ⟨y4, -⟩, ⟨y5, -⟩, ⟨y6, -⟩⟩ := cells7 z7
      have n7 := (k7.block wz.heap.size (by rw [size_alloc1]; omega) (by have := LT.out; simp; omega)).trans (heap_alloc_new wz (.cells #[.string ⟨#[112, 97, 114, 99, 101, 108]⟩, .iface 221 (.pointer (some (A 0)))] 195))
      have hB := below_kept (AL.out.trans ((below_one BL.out (.cells #[.string ⟨#[112, 97, 114, 99, 101, 108]⟩, .iface 221 (.pointer (some (A 0)))] 195)).mono AL.out.size)) k7 (by simp) (Nat.le_refl _)
      refine bodyPost_ret (v := .tuple #[ZV, .iface 193 (.pointer (some ⟨wz.heap.size, 0, none⟩))]) ?res rfl ?post
      case res => simp [results, Tryz.results19, go_sem, ZV, y0, y1, y2, y3, y4, y5, y6]
      case post => exact FINB.out rfl _ _ hB ⟨_, _, rfl, n7, rfl⟩
    | true =>
      rw [hr] at END FINB
      have HR := Lib.hid hr
      clear hr
      go_wp2_with fail
      refine END.out.mono ?_
      rintro e wz ⟨v, rfl, hbz, hv⟩
      rcases hv with ⟨_, rfl⟩ | ⟨j, h, _⟩
      case inr => cases h
      have BZ := Lib.hid (BX.out.trans (hbz.mono BX.out.size))
      have xz := (hbz.block b (Array.getElem?_eq_some_iff.1 HX.out).1).trans HX.out
      have XZ := Lib.hid xz
      obtain ⟨⟨p0, fp0⟩, ⟨p1, fp1⟩, ⟨p2, fp2⟩, ⟨p3, fp3⟩, ⟨p4, fp4⟩, ⟨p5, fp5⟩, ⟨p6, fp6⟩⟩ := cells7 xz
      have GD := Lib.hid (good_any _ wz (POK.out.below hbz))
      have CZ := Lib.hid (CX.out.below hbz)
      obtain ⟨gd, hgd⟩ : ∃ gd, (⟨k, nn, ff, bb, ii, aa, ss, X, c⟩ : Par).good = gd := ⟨_, rfl⟩
      rw [hgd] at GD FINB PG
      unfold Par.v at GD
      dsimp only at GD
      clear hbz hgd xz
      go_wp2_with fail
      refine GD.out.mono ?_
      rintro e wg ⟨rfl, hbg⟩
      have BG := BZ.out.trans (hbg.mono BZ.out.size)
      clear p0 fp0 p1 fp1 p2 fp2 p3 fp3 p4 fp4 p5 fp5 p6 fp6
      cases gd with
      | false =>
        clear hbg
        have b5 := (BG.block w.heap.size (Array.getElem?_eq_some_iff.1 BW.out).1).trans BW.out
        have g0 := (GG.out.below BG) 0 (by decide)
        dsimp only [gl] at g0
        obtain ⟨⟨d0, fd0⟩, ⟨d1, fd1⟩, ⟨d2, fd2⟩, ⟨d3, fd3⟩, ⟨d4, fd4⟩, ⟨d5, fd5⟩, ⟨d6, fd6⟩⟩ := cells7 b5
        have b6 := (alloc_old wg (.cells #[.string ⟨#[112, 97, 114, 99, 101, 108]⟩, .iface 221 (.pointer (some (A 0)))] 195) w.heap.size (Array.getElem?_eq_some_iff.1 b5).1).trans b5
        obtain ⟨⟨e0, fe0⟩, ⟨e1, fe1⟩, ⟨e2, fe2⟩, ⟨e3, fe3⟩, ⟨e4, fe4⟩, ⟨e5, fe5⟩, ⟨e6, fe6⟩⟩ := cells7 b6
        have E7 := Lib.hid (stored7 b6 (.int .i64 0) (.int .i64 0) (.int .i64 0) (.int .i64 0) (.slice none 0 0) (.int .i64 0) (.int .u64 0))
        have LT : Hid (w.heap.size < wg.heap.size) := Lib.hid (Array.getElem?_eq_some_iff.1 b5).1
        have BL := Lib.hid BG
        clear b5 b6
        go_wp2_with fail
        refine (wrongAt_any _ _ _).mono ?_
        rintro e w6' ⟨rfl, rfl⟩
        go_wp2_with fail
        obtain ⟨z7, k7, -⟩ := E7.out
        obtain ⟨⟨y0, -⟩, ⟨y1, -⟩, ⟨y2, -⟩, ⟨y3, -⟩, ⟨y4, -⟩, ⟨y5, -⟩, ⟨y6, -⟩⟩ := cells7 z7
        have n7 := (k7.block wg.heap.size (by rw [size_alloc1]; omega) (by have := LT.out; simp; omega)).trans (heap_alloc_new wg (.cells #[.string ⟨#[112, 97, 114, 99, 101, 108]⟩, .iface 221 (.pointer (some (A 0)))] 195))
        have hB := below_kept (AL.out.trans ((below_one BL.out (.cells #[.string ⟨#[112, 97, 114, 99, 101, 108]⟩, .iface 221 (.pointer (some (A 0)))] 195)).mono AL.out.size)) k7 (by simp) (Nat.le_refl _)
        refine bodyPost_ret (v := .tuple #[ZV, .iface 193 (.pointer (some ⟨wg.heap.size, 0, none⟩))]) ?res rfl ?post
        case res => simp [results, Tryz.results19, go_sem, ZV, y0, y1, y2, y3, y4, y5, y6]
        case post => exact FINB.out rfl _ _ hB ⟨_, _, rfl, n7, rfl⟩
      | true =>
        have b5 := (BG.block w.heap.size (Array.getElem?_eq_some_iff.1 BW.out).1).trans BW.out
        obtain ⟨⟨d0, fd0⟩, ⟨d1, fd1⟩, ⟨d2, fd2⟩, ⟨d3, fd3⟩, ⟨d4, fd4⟩, ⟨d5, fd5⟩, ⟨d6, fd6⟩⟩ := cells7 b5
        have xg := (hbg.block b (Array.getElem?_eq_some_iff.1 XZ.out).1).trans XZ.out
        obtain ⟨⟨p0, fp0⟩, ⟨p1, fp1⟩, ⟨p2, fp2⟩, ⟨p3, fp3⟩, ⟨p4, fp4⟩, ⟨p5, fp5⟩, ⟨p6, fp6⟩⟩ := cells7 xg
        have E7 := Lib.hid (stored7 b5 (.int .i64 k) (.int .i64 nn) (.int .i64 ff) (.int .i64 bb) (.slice X ii.length c) (.int .i64 aa) (.int .u64 ss))
        have CG := Lib.hid (CZ.out.below hbg)
        have BL := Lib.hid BG
        clear b5 xg hbg BG
        go_wp2_with fail
        obtain ⟨z7, k7, -⟩ := E7.out
        obtain ⟨⟨y0, -⟩, ⟨y1, -⟩, ⟨y2, -⟩, ⟨y3, -⟩, ⟨y4, -⟩, ⟨y5, -⟩, ⟨y6, -⟩⟩ := cells7 z7
        have hlt := (Array.getElem?_eq_some_iff.1 BW.out).1
        have hB := below_kept (AL.out.trans (BL.out.mono AL.out.size)) k7 (by simp) (Nat.le_refl _)
        refine bodyPost_ret (v := .tuple #[.agg #[.int .i64 k, .int .i64 nn, .int .i64 ff, .int .i64 bb, .slice X ii.length c, .int .i64 aa, .int .u64 ss], .nilIface]) ?res rfl ?post
        case res => simp [results, Tryz.results19, go_sem, y0, y1, y2, y3, y4, y5, y6]
        case post =>
          refine ⟨hB, .inl ⟨?_, X, c, ?_, ?_, ?_⟩⟩
          · unfold decOk
            rw [HD.out, PG.out, HQ.out.1]
            exact (by rw [HR.out]; rfl)
          · rw [HQ.out.1, HQ.out.2]; rfl
          · rw [HQ.out.1]
            exact CG.out.kept k7 (fun b' o h => by have := XF.out b' o h; simp; omega)
          · intro b' o h
            have := XF.out b' o h
            have := AL.out.size
            omega


theorem DecBad.to {A : Nat → Addr} {l : List UInt8} {j : Nat} {w w' : World} {e : Ending} (h : DecBad A j w e w') (hd : decErr l = some j) : DecB A l w e w' := by
  obtain ⟨v, he, hw, hb⟩ := h
  exact ⟨hb, .inr ⟨by unfold decOk; rw [hd]; rfl, v, he, by rw [hd]; exact hw⟩⟩
/-- Decode. -/
theorem dec_any (A : Nat → Addr) (s : ByteArray) (w : World) (hA : s_Apart 5 w A) (hm : s.size ≤ 100000) : Calls Tryz.prog 19 #[.string s] w (DecB A s.data.toList w) := by
  have hlen : s.data.toList.length = s.size := rfl
  cases hd : decErr s.data.toList with
  | none => exact dec_right A s w (hA.glob (by decide)) hd
  | some j =>
    unfold decErr at hd
    rw [hlen] at hd
    by_cases h1 : 512 < s.size
    · rw [if_pos h1] at hd
      cases hd
      exact (dec_long A s w hA h1 hm).mono fun e w' h => h.to (by unfold decErr; rw [hlen, if_pos h1])
    rw [if_neg h1] at hd
    by_cases h2 : s.size < 6 ∨ s.data.toList.getD 0 0 ≠ 80
    · rw [if_pos h2] at hd
      cases hd
      have hd : decErr s.data.toList = some 0 := by unfold decErr; rw [hlen, if_neg h1, if_pos h2]
      by_cases h3 : s.size < 6
      · exact (dec_short A s w hA h3).mono fun e w' h => h.to hd
      · exact (dec_magic A s w hA (by omega) (by omega) (by rcases h2 with h | h; exact absurd h h3; exact h)).mono fun e w' h => h.to hd
    rw [if_neg h2] at hd
    by_cases h3 : sum4 (s.data.toList.take (s.size - 4)) ≠ s.data.toList.drop (s.size - 4)
    · rw [if_pos h3] at hd
      cases hd
      have hd : decErr s.data.toList = some 4 := by unfold decErr; rw [hlen, if_neg h1, if_neg h2, if_pos h3]
      exact (dec_sum A s w hA (by omega) (by omega) (by simpa using fun h => h2 (.inr h)) h3).mono fun e w' h => h.to hd
    · rw [if_neg h3] at hd
      cases hd

end Go.Proofs.YtpidjmgapiekaaaGreatDoor
