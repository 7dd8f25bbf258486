/- This text proves, over the loaded program, that the law LineSpoils returns true for every input. -/
import Derived.Test.YtkpbjahjiajodaaDoorLCounts
namespace Go.Proofs.YtkpbjahjiajodaaDoor
open Go.RowKit Go.WideShapes

theorem spoilS_at (s : ByteArray) (k : Nat) (b : UInt8) (hk : k < s.size) : (spoilS s k b).data.toList.getD k 0 = s.data.toList.getD k 0 ^^^ b := by
  have hk' : k < s.data.toList.length := by simpa using hk
  unfold spoilS
  show (s.data.toList.set k _).getD k 0 = _
  rw [List.getD, List.getElem?_set_self hk']
  rfl
theorem spoilS_twice (s : ByteArray) (k : Nat) (b : UInt8) (hk : k < s.size) : spoilS (spoilS s k b) k b = s := by
  have hk' : k < s.data.toList.length := by simpa using hk
  have h := spoilS_at s k b hk
  unfold spoilS at h ⊢
  rw [h, UInt8.xor_assoc, UInt8.xor_self, UInt8.xor_zero]
  apply ByteArray.ext
  apply Array.toList_inj.1
  simp only [List.set_set]
  rw [List.getD, List.getElem?_eq_getElem hk', Option.getD_some]
  exact List.set_getElem_self hk'
theorem spoilS_ne (s : ByteArray) (k : Nat) (b : UInt8) (hk : k < s.size) (hb : b ≠ 0) : spoilS s k b ≠ s := by
  intro e
  have h := spoilS_at s k b hk
  rw [e] at h
  apply hb
  have : s.data.toList.getD k 0 ^^^ (s.data.toList.getD k 0 ^^^ b) = s.data.toList.getD k 0 ^^^ s.data.toList.getD k 0 := by rw [← h]
  rwa [← UInt8.xor_assoc, UInt8.xor_self, UInt8.zero_xor] at this

def sp1 (b : ByteArray) : Lin := { most := 4, ts := [(b, b)], c0 := 1, c1 := 0, c2 := 0, c3 := 0, c4 := 0, c5 := 0 }
def sp2 (a b : ByteArray) : Lin := { most := 4, ts := [(b, b), (a, a)], c0 := 2, c1 := 0, c2 := 0, c3 := 0, c4 := 0, c5 := 0 }
def sp3 (S a b : ByteArray) : Lin := { most := 4, ts := [(b, b), (S, a)], c0 := 2, c1 := 0, c2 := 0, c3 := 0, c4 := 0, c5 := 1 }
def sp4 (S a b : ByteArray) : Lin := { most := 4, ts := [(b, b), (S, a), (S, a)], c0 := 2, c1 := 0, c2 := 0, c3 := 0, c4 := 1, c5 := 1 }
def sp5 (S a b : ByteArray) : Lin := { most := 4, ts := [(b, b), (a, a), (S, a)], c0 := 2, c1 := 0, c2 := 0, c3 := 0, c4 := 1, c5 := 2 }
def sp6 (S a b : ByteArray) : Lin := { most := 4, ts := [(b, b), (S, a)], c0 := 2, c1 := 0, c2 := 1, c3 := 0, c4 := 1, c5 := 2 }
def sp7 (S a : ByteArray) : Lin := { most := 4, ts := [(S, a)], c0 := 2, c1 := 0, c2 := 2, c3 := 0, c4 := 1, c5 := 2 }

section
variable (S a b : ByteArray) (k : Nat) (by_ : UInt8)
theorem sp_1 (hb : b.size ≤ 512) : (Lin.new 4).send b = (sp1 b, none) := by
  unfold Lin.send; rw [if_neg (by omega)]; rfl
theorem sp_2 (ha : a.size ≤ 512) : (sp1 b).send a = (sp2 a b, none) := by
  unfold Lin.send; rw [if_neg (by omega)]; rfl
theorem sp_3z : (sp2 a b).spoil 1 k 0 = (sp2 a b, some 0) := by
  unfold Lin.spoil; rw [if_pos (by unfold Lin.has sp2; simp), if_pos (.inl rfl)]
theorem sp_3 (hk : k < a.size) (hb : by_ ≠ 0) : (sp2 a b).spoil 1 k by_ = (sp3 (spoilS a k by_) a b, none) := by
  have e : (sp2 a b).at 1 = (a, a) := rfl
  unfold Lin.spoil; rw [if_pos (by unfold Lin.has sp2; simp), if_neg (by rw [e]; simp; exact ⟨hb, hk⟩)]
  rfl
theorem sp_4 : (sp3 S a b).double 1 = (sp4 S a b, none) := rfl
theorem sp_5 (hk : k < S.size) (hb : by_ ≠ 0) (ht : spoilS S k by_ = a) : (sp4 S a b).spoil 1 k by_ = (sp5 S a b, none) := by
  have e : (sp4 S a b).at 1 = (S, a) := rfl
  unfold Lin.spoil; rw [if_pos (by unfold Lin.has sp4; simp), if_neg (by rw [e]; simp; exact ⟨hb, hk⟩), e]
  rw [show ((k : Int)).toNat = k by simp, ht]
  rfl
theorem sp_6 : (sp5 S a b).take 1 = (sp6 S a b, none) := rfl
theorem sp_6t : (sp5 S a b).taken 1 = a := rfl
theorem sp_7 : (sp6 S a b).take 0 = (sp7 S a, none) := rfl
theorem sp_7t : (sp6 S a b).taken 0 = b := rfl
theorem sp_c1 : (sp2 a b).clean 1 = true := by unfold Lin.clean; rw [show (sp2 a b).at 1 = (a, a) from rfl]; simp [Lin.has, sp2]
theorem sp_c2 (h : S ≠ a) : (sp3 S a b).clean 1 = false := by unfold Lin.clean; rw [show (sp3 S a b).at 1 = (S, a) from rfl]; simp [h]
theorem sp_c3 : (sp3 S a b).clean 0 = true := by unfold Lin.clean; rw [show (sp3 S a b).at 0 = (b, b) from rfl]; simp [Lin.has, sp3]
theorem sp_c4 (h : S ≠ a) : (sp7 S a).clean 0 = false := by unfold Lin.clean; rw [show (sp7 S a).at 0 = (S, a) from rfl]; simp [h]
theorem sp_c5 : (sp7 S a).clean 1 = false := by unfold Lin.clean; simp [Lin.has, sp7]
theorem sp_ok0 : (Lin.new 4).ok := by unfold Lin.ok Lin.new; simp
theorem sp_ok1 : (sp1 b).ok := by unfold Lin.ok sp1; simp
theorem sp_ok2 : (sp2 a b).ok := by unfold Lin.ok sp2; simp
theorem sp_ok3 : (sp3 S a b).ok := by unfold Lin.ok sp3; simp
theorem sp_ok4 : (sp4 S a b).ok := by unfold Lin.ok sp4; simp
theorem sp_ok5 : (sp5 S a b).ok := by unfold Lin.ok sp5; simp
theorem sp_ok6 : (sp6 S a b).ok := by unfold Lin.ok sp6; simp
theorem sp_ok7 : (sp7 S a).ok := by unfold Lin.ok sp7; simp
end

/-- What a call on no line leaves. -/
theorem OutNone.get {w w' : World} {A : Nat → Addr} {j : Nat} {x : Value} {e : Ending} (h : OutNone w A j x e w') : ∃ b, e = .returned (.tuple #[x, .iface 126 (.pointer (some ⟨b, 0, none⟩))]) ∧ WrapsT w' (.iface 126 (.pointer (some ⟨b, 0, none⟩))) (A j) ∧ Below w.heap.size w w' := by
  obtain ⟨v, he, v', hv, hw, hb, b, rfl, _⟩ := h
  obtain rfl : v = _ := by simpa using hv
  exact ⟨b, he, hw, hb⟩
theorem RefT.get {w w' : World} {a : Addr} {e : Ending} (h : RefT w a e w') : ∃ b, e = .returned (.iface 126 (.pointer (some ⟨b, 0, none⟩))) ∧ WrapsT w' (.iface 126 (.pointer (some ⟨b, 0, none⟩))) a ∧ Below w.heap.size w w' := by
  obtain ⟨v, he, hw, hb, b, rfl, _⟩ := h
  exact ⟨b, he, hw, hb⟩

/-- What holds while the last tests are asked. -/
def SpS (w0 : World) (lb : Nat) (S a : ByteArray) (A : Nat → Addr) (b13 : Nat) (w : World) : Prop := LI w0 lb (sp7 S a) w ∧ WrapsT w (.iface 126 (.pointer (some ⟨b13, 0, none⟩))) (A 1)
abbrev SpC (w0 : World) (lb : Nat) (S a : ByteArray) (A : Nat → Addr) (b13 : Nat) (w : World) : Prop := w.cell? ⟨1, 0, none⟩ = some (.iface 129 (.pointer (some (A 1)))) ∧ SpS w0 lb S a A b13 w
theorem isB {w : World} {v : Value} {a : Addr} (h : WrapsT w v a) : Calls Tryd.prog 35 #[v, .iface 129 (.pointer (some a))] w fun e w' => e = .returned (.bool true) ∧ Below w.heap.size w w' :=
  h.is.mono fun _ _ ⟨he, hw⟩ => ⟨he, by rw [← hw]; exact Below.refl _ _⟩
theorem WrapsT.dr {w : World} {v : Value} {a : Addr} (h : WrapsT w v a) : WrapsT w.drew v a := h

section
variable {w0 w : World} {lb b13 : Nat} {S a : ByteArray} {A : Nat → Addr}
theorem sp_bel {w' : World} (h : SpC w0 lb S a A b13 w) (hb : Below w.heap.size w w') : SpC w0 lb S a A b13 w' :=
  ⟨(hb.cell (World.block_lt_of_cell? w _ h.1)).trans h.1, h.2.1.below hb, h.2.2.frame (FrameT.of_below hb)⟩
theorem sp_drew (h : SpC w0 lb S a A b13 w) : SpC w0 lb S a A b13 w.drew := sp_bel h ⟨rfl, rfl, rfl, Nat.le_refl _, fun _ _ => rfl⟩
theorem sp_w13 (h : SpC w0 lb S a A b13 w) : WrapsT w (.iface 126 (.pointer (some ⟨b13, 0, none⟩))) (A 1) := h.2.2
theorem sp_out (h : SpC w0 lb S a A b13 w) : Below w0.heap.size w0 w := h.2.1.out
theorem sp_clean0 (hn : S ≠ a) (hG : GlobL w0 A) (h : SpC w0 lb S a A b13 w) : Calls Tryd.prog 31 #[.pointer (some ⟨lb, 0, none⟩), .int .i64 0] w (fun e w' => e = .returned (.bool false) ∧ Below w.heap.size w w') :=
  (li_clean h.2.1 (sp_ok7 S a) hG 0).mono fun _ _ ⟨he, _, hb⟩ => ⟨by rw [he, sp_c4 S a hn], hb⟩
theorem sp_clean1 (hG : GlobL w0 A) (h : SpC w0 lb S a A b13 w) : Calls Tryd.prog 31 #[.pointer (some ⟨lb, 0, none⟩), .int .i64 1] w (fun e w' => e = .returned (.bool false) ∧ Below w.heap.size w w') :=
  (li_clean h.2.1 (sp_ok7 S a) hG 1).mono fun _ _ ⟨he, _, hb⟩ => ⟨by rw [he, sp_c5 S a], hb⟩
theorem sp_cleann (hG : GlobL w0 A) (h : SpC w0 lb S a A b13 w) : Calls Tryd.prog 31 #[.pointer none, .int .i64 0] w (fun e w' => e = .returned (.bool false) ∧ Below w.heap.size w w') := clean_nil (hG.below h.2.1.out) 0
theorem sp_sendn (hG : GlobL w0 A) (s : ByteArray) (h : SpC w0 lb S a A b13 w) : Calls Tryd.prog 26 #[.pointer none, .string s] w (fun e w' => ∃ v, e = .returned v ∧ WrapsT w' v (A 1) ∧ Below w.heap.size w w') :=
  (send_nil (hG.below h.2.1.out) s).mono fun _ _ ⟨v, he, hw, hb, _⟩ => ⟨v, he, hw, hb⟩
theorem sp_dropn (hG : GlobL w0 A) (h : SpC w0 lb S a A b13 w) : Calls Tryd.prog 32 #[.pointer none, .int .i64 0] w (fun e w' => ∃ v, e = .returned v ∧ WrapsT w' v (A 1) ∧ Below w.heap.size w w') :=
  (drop_nil (hG.below h.2.1.out) 0).mono fun _ _ ⟨v, he, hw, hb, _⟩ => ⟨v, he, hw, hb⟩
theorem sp_doublen (hG : GlobL w0 A) (h : SpC w0 lb S a A b13 w) : Calls Tryd.prog 28 #[.pointer none, .int .i64 0] w (fun e w' => ∃ v, e = .returned v ∧ WrapsT w' v (A 1) ∧ Below w.heap.size w w') :=
  (double_nil (hG.below h.2.1.out) 0).mono fun _ _ ⟨v, he, hw, hb, _⟩ => ⟨v, he, hw, hb⟩
theorem sp_spoiln (hG : GlobL w0 A) (h : SpC w0 lb S a A b13 w) : Calls Tryd.prog 33 #[.pointer none, .int .i64 0, .int .i64 0, .int .u8 1] w (fun e w' => ∃ v, e = .returned v ∧ WrapsT w' v (A 1) ∧ Below w.heap.size w w') :=
  (spoil_nil (hG.below h.2.1.out) 0 0 1).mono fun _ _ ⟨v, he, hw, hb, _⟩ => ⟨v, he, hw, hb⟩
end

set_option maxRecDepth 100000 in
set_option maxHeartbeats 8000000 in
theorem spoils_walk (a b : ByteArray) (at_ : Int) (y : UInt8) (w : World) (A : Nat → Addr) (hG : GlobL w A) (ha0 : 0 < a.size) (ha : a.size ≤ 500) (hb : b.size ≤ 500) :
    Calls Tryd.prog 8 #[.string a, .string b, .int .i64 at_, .int .u8 (y.toNat : Int)] w fun e w' => e = .returned (.bool true) ∧ Below w.heap.size w w' := by
  obtain ⟨k, hk, hk2⟩ := lindex_of at_ a.size (by omega) (by omega)
  have HP := Lib.hid hk
  have GG := Lib.hid hG
  have b1 : (a.size : Int) ≤ 500 := by omega
  have b2 : (b.size : Int) ≤ 500 := by omega
  have b3 : (0 : Int) < (a.size : Int) := by omega
  have b4 : ((a.size : Int) == 0) = false := beq_eq_false_iff_ne.2 (by omega)
  have hka : k < a.size := by omega
  clear hk hG
  go_enter Tryd.func8, Tryd.ntmps8
  go_wp2_with fail
  refine (lawake_any _ A GG.out).mono ?_
  rintro e w1 ⟨rfl, hB1⟩
  have B1 := Lib.hid hB1
  clear hB1
  go_wp2_with fail
  refine (li_new 4 w w1 B1.out (by decide) (by decide)).mono ?_
  rintro e w2 ⟨lb, rfl, hI, -, -⟩
  have I2 := Lib.hid hI
  clear hI
  go_wp2_with fail
  refine (li_send I2.out sp_ok0 GG.out b (by simp [maxLen]; omega)).mono ?_
  rw [sp_1 b (by omega)]
  rintro e w3 hO
  obtain ⟨rfl, hI, hF⟩ := hO.yes
  have I3 := Lib.hid hI
  clear hI hO hF
  go_wp2_with fail
  refine (li_send I3.out (sp_ok1 b) GG.out a (by simp [maxLen]; omega)).mono ?_
  rw [sp_2 a b (by omega)]
  rintro e w4 hO
  obtain ⟨rfl, hI, hF⟩ := hO.yes
  have I4 := Lib.hid hI
  clear hI hO hF
  go_wp2_with fail
  have hp := HP.out
  simp only [hp]
  clear hp
  by_cases hy : y = 0
  · subst hy
    refine (li_spoil I4.out (sp_ok2 a b) GG.out 1 k 0 (fun _ => by show a.size ≤ _; omega)).mono ?_
    rw [sp_3z]
    rintro e w5 hO
    obtain ⟨b5, rfl, hw5, hI, hF⟩ := hO.no
    have I5 := Lib.hid hI
    have W5 := Lib.hid hw5
    have g0 := GG.out.below I5.out.out 0 (by omega)
    clear hI hO hF hw5
    go_wp2_with fail
    refine W5.out.is.mono ?_
    rintro e w6 ⟨rfl, rfl⟩
    go_wp2_with fail
    refine (li_clean I5.out (sp_ok2 a b) GG.out 1).mono ?_
    rw [sp_c1]
    rintro e w6 ⟨rfl, hI, -⟩
    have O := Lib.hid hI.out
    clear hI
    go_wp2
    go_ret
    exact ⟨rfl, O.out⟩
  · have q1 : ((y.toNat : Int) == 0) = false := by
      simp
      intro h
      exact hy (UInt8.toNat_inj.1 h)
    refine (li_spoil I4.out (sp_ok2 a b) GG.out 1 k y (fun _ => by show a.size ≤ _; omega)).mono ?_
    rw [sp_3 a b k y hka hy]
    have hne := spoilS_ne a k y hka hy
    have htw := spoilS_twice a k y hka
    have hsz := spoilS_size a k y
    obtain ⟨S, hS⟩ : ∃ S, spoilS a k y = S := ⟨_, rfl⟩
    rw [hS] at hne htw hsz ⊢
    have NE := Lib.hid hne
    have TW := Lib.hid htw
    have SZ := Lib.hid hsz
    have t1 : (S.toList == a.toList) = false := by rw [bytes_eq]; simpa using hne
    have hy' := Lib.hid hy
    clear hne htw hsz hS hy
    rintro e w5 hO
    obtain ⟨rfl, hI, hF⟩ := hO.yes
    have I5 := Lib.hid hI
    clear hI hO hF
    go_wp2_with fail
    refine (li_clean I5.out (sp_ok3 S a b) GG.out 1).mono ?_
    rw [sp_c2 S a b NE.out]
    rintro e w6 ⟨rfl, hI, -⟩
    have I6 := Lib.hid hI
    clear hI
    go_wp2_with fail
    refine (li_clean I6.out (sp_ok3 S a b) GG.out 0).mono ?_
    rw [sp_c3]
    rintro e w7 ⟨rfl, hI, -⟩
    have I7 := Lib.hid hI
    clear hI
    go_wp2_with fail
    refine (li_list I7.out (sp_ok3 S a b)).mono ?_
    rw [show (sp3 S a b).ts.length = 2 from rfl]
    rintro e w8 ⟨X, c, rfl, hC, hI, -⟩
    have I8 := Lib.hid hI
    obtain ⟨xb, xo, hX, x1⟩ := hC.cells 1 (.string S) rfl
    subst hX
    clear hI hC
    go_wp2_with fail
    refine (li_double I8.out (sp_ok3 S a b) GG.out 1).mono ?_
    rw [sp_4]
    rintro e w9 hO
    obtain ⟨rfl, hI, hF⟩ := hO.yes
    have I9 := Lib.hid hI
    clear hI hO hF x1
    go_wp2_with fail
    refine (li_spoil I9.out (sp_ok4 S a b) GG.out 1 k y (fun _ => by show S.size ≤ _; rw [SZ.out]; omega)).mono ?_
    rw [sp_5 S a b k y (by rw [SZ.out]; exact hka) hy'.out TW.out]
    rintro e w10 hO
    obtain ⟨rfl, hI, hF⟩ := hO.yes
    have I10 := Lib.hid hI
    clear hI hO hF
    go_wp2_with fail
    refine (li_take I10.out (sp_ok5 S a b) GG.out 1).mono ?_
    rw [sp_6, sp_6t]
    rintro e w11 hO
    obtain ⟨rfl, hI, hF⟩ := hO.yes2
    have I11 := Lib.hid hI
    clear hI hO hF
    go_wp2_with fail
    refine (li_take I11.out (sp_ok6 S a b) GG.out 0).mono ?_
    rw [sp_7, sp_7t]
    rintro e w12 hO
    obtain ⟨rfl, hI, hF⟩ := hO.yes2
    have I12 := Lib.hid hI
    clear hI hO hF
    go_wp2_with fail
    refine (take_nil (GG.out.below I12.out.out) 0).mono ?_
    rintro e w13 hO
    obtain ⟨b13, rfl, hw13, hB⟩ := hO.get
    have I13 := Lib.hid (I12.out.below hB)
    have W13 := Lib.hid hw13
    clear hO hB hw13
    have hst : ∀ w : World, (binOp .eql 59 (.agg #[.int .i64 0, .int .i64 0, .int .i64 0, .int .i64 0, .int .i64 0, .int .i64 0]) (.agg #[.int .i64 0, .int .i64 0, .int .i64 0, .int .i64 0, .int .i64 0, .int .i64 0])).run Tryd.prog w = .ok (.bool true) w := fun w => by kernel_rfl
    go_wp2_with fail
    simp only [List.append_eq, List.cons_append, List.nil_append]
    have g13 := GG.out.below I13.out.out 1 (by omega)
    have S0 : SpC w lb S a A b13 w13 := ⟨g13, I13.out, W13.out⟩
    go_region_held3 (fun w' => w'.cell? ⟨1, 0, none⟩ = some (.iface 129 (.pointer (some (A 1)))) ∧ SpS w lb S a A b13 w')
      ((first | assumption | (exact sp_drew (by assumption)) | (refine sp_bel ?_ hbel; assumption)))
      (first
        | (go_at_call 31; (with_reducible refine (sp_clean0 (w0 := w) (S := S) (a := a) (A := A) (b13 := b13) NE.out GG.out ?_).mono ?_); assumption; rintro e w' ⟨rfl, hbel⟩)
        | (go_at_call 31; (with_reducible refine (sp_clean1 (w0 := w) (S := S) (a := a) (A := A) (b13 := b13) GG.out ?_).mono ?_); assumption; rintro e w' ⟨rfl, hbel⟩)
        | (go_at_call 31; (with_reducible refine (sp_cleann (w0 := w) (lb := lb) (S := S) (a := a) (A := A) (b13 := b13) GG.out ?_).mono ?_); assumption; rintro e w' ⟨rfl, hbel⟩)
        | (go_at_call 26; (with_reducible refine (sp_sendn (w0 := w) (lb := lb) (S := S) (a := a) (A := A) (b13 := b13) GG.out _ ?_).mono ?_); assumption; rintro e w' ⟨v1, rfl, hw1, hbel⟩)
        | (go_at_call 32; (with_reducible refine (sp_dropn (w0 := w) (lb := lb) (S := S) (a := a) (A := A) (b13 := b13) GG.out ?_).mono ?_); assumption; rintro e w' ⟨v2, rfl, hw2, hbel⟩)
        | (go_at_call 28; (with_reducible refine (sp_doublen (w0 := w) (lb := lb) (S := S) (a := a) (A := A) (b13 := b13) GG.out ?_).mono ?_); assumption; rintro e w' ⟨v3, rfl, hw3, hbel⟩)
        | (go_at_call 33; (with_reducible refine (sp_spoiln (w0 := w) (lb := lb) (S := S) (a := a) (A := A) (b13 := b13) GG.out ?_).mono ?_); assumption; rintro e w' ⟨v4, rfl, hw4, hbel⟩)
        | (go_at_call 35; (with_reducible refine (isB ?_).mono ?_); (with_reducible first | assumption | exact WrapsT.dr (by assumption) | exact WrapsT.dr (WrapsT.dr (by assumption)) | exact sp_w13 (by assumption)); rintro e w' ⟨rfl, hbel⟩)
        | (go_at_call 30; refine (llen_nil _).mono ?_; rintro e w' ⟨rfl, rfl⟩)
        | (go_at_call 27; refine (llist_nil _).mono ?_; rintro e w' ⟨rfl, rfl⟩)
        | (go_at_call 34; (with_reducible refine (stats_nil _).mono ?_); rintro e w' ⟨rfl, hbel⟩))
    all_goals
      go_wp2
      go_ret
      exact ⟨rfl, sp_out (by assumption)⟩

set_option maxRecDepth 100000 in
theorem spoils_else (a b : ByteArray) (at_ y : Int) (w : World) (A : Nat → Addr) (hG : GlobL w A) (ha : a.size ≤ maxLen) (hb : b.size ≤ maxLen) (h : a.size = 0 ∨ 500 < a.size ∨ 500 < b.size) :
    Calls Tryd.prog 8 #[.string a, .string b, .int .i64 at_, .int .u8 y] w fun e w' => e = .returned (.bool true) ∧ Below w.heap.size w w' := by
  simp only [maxLen] at ha hb
  have GG := Lib.hid hG
  have h' : a.size = 0 ∨ (0 < a.size ∧ 500 < a.size) ∨ (0 < a.size ∧ a.size ≤ 500 ∧ 500 < b.size) := by omega
  clear hG h
  rcases h' with h | ⟨h1, h2⟩ | ⟨h1, h2, h3⟩
  · have q : ((a.size : Int) == 0) = true := by simp [h]
    clear h
    go_enter Tryd.func8, Tryd.ntmps8
    go_wp2_with fail
    refine (lawake_any _ A GG.out).mono ?_
    rintro e w1 ⟨rfl, hB1⟩
    have B1 := Lib.hid hB1
    clear hB1
    go_wp2
    go_ret
    exact ⟨rfl, B1.out⟩
  · have q : ((a.size : Int) == 0) = false := beq_eq_false_iff_ne.2 (by omega)
    have q2 : (500 : Int) < (a.size : Int) := by omega
    clear h1 h2
    go_enter Tryd.func8, Tryd.ntmps8
    go_wp2_with fail
    refine (lawake_any _ A GG.out).mono ?_
    rintro e w1 ⟨rfl, hB1⟩
    have B1 := Lib.hid hB1
    clear hB1
    go_wp2
    go_ret
    exact ⟨rfl, B1.out⟩
  · have q : ((a.size : Int) == 0) = false := beq_eq_false_iff_ne.2 (by omega)
    have q2 : (a.size : Int) ≤ (500 : Int) := by omega
    have q3 : (500 : Int) < (b.size : Int) := by omega
    clear h1 h2 h3
    go_enter Tryd.func8, Tryd.ntmps8
    go_wp2_with fail
    refine (lawake_any _ A GG.out).mono ?_
    rintro e w1 ⟨rfl, hB1⟩
    have B1 := Lib.hid hB1
    clear hB1
    go_wp2
    go_ret
    exact ⟨rfl, B1.out⟩

theorem spoils_any (w : World) (A : Nat → Addr) (hG : GlobL w A) (a : ByteArray) (ha : a.size ≤ 140737488351232) (b : ByteArray) (hb : b.size ≤ 140737488351232) (at_ : Int) (_ : (Lit.int .i64 at_).wf = true) (y : Int) (hy : (Lit.int .u8 y).wf = true) :
    Calls Tryd.prog 8 #[.string a, .string b, .int .i64 at_, .int .u8 y] w fun e w' => e = .returned (.bool true) ∧ Below w.heap.size w w' := by
  by_cases h : a.size = 0 ∨ 500 < a.size ∨ 500 < b.size
  · exact spoils_else a b at_ y w A hG (by simp [maxLen]; omega) (by simp [maxLen]; omega) h
  · have g : IntKind.u8.min ≤ y ∧ y ≤ IntKind.u8.max := by simpa [Lit.wf] using hy
    have g' : 0 ≤ y ∧ y ≤ 255 := g
    have e : y = ((UInt8.ofNat y.toNat).toNat : Int) := by rw [UInt8.toNat_ofNat']; omega
    rw [e]
    exact spoils_walk a b at_ _ w A hG (by omega) (by omega) (by omega)

end Go.Proofs.YtkpbjahjiajodaaDoor
