/- This text proves that the line's document example holds, over the loaded program: the law's awake returns true; and what a law's own line is good for. -/
import Derived.Test.YtkpbjahjiajodaaDoorLine6
namespace Go.Proofs.YtkpbjahjiajodaaDoor
open Go.RowKit Go.WideShapes

/-- A line of the call's own, all that came in as it was. -/
def LI (w0 : World) (lb : Nat) (L : Lin) (w : World) : Prop := w0.heap.size ≤ lb ∧ (∃ gp sv, LAt w lb gp sv L ∧ ∀ x ∈ gp, w0.heap.size ≤ x) ∧ Below w0.heap.size w0 w

section
variable {w0 w w' : World} {lb : Nat} {L L' : Lin} {A : Nat → Addr}

theorem LI.below (h : LI w0 lb L w) (hb : Below w.heap.size w w') : LI w0 lb L w' := by
  obtain ⟨h1, ⟨gp, sv, h2, h3⟩, h4⟩ := h
  exact ⟨h1, ⟨gp, sv, h2.below hb, h3⟩, h4.trans (hb.mono h4.size)⟩
theorem LI.drew (h : LI w0 lb L w) : LI w0 lb L w.drew := h.below ⟨rfl, rfl, rfl, Nat.le_refl _, fun _ _ => rfl⟩
theorem LI.drewN (h : LI w0 lb L w) (n : Nat) : LI w0 lb L (w.drewN n) := h.below ⟨rfl, rfl, rfl, Nat.le_refl _, fun _ _ => rfl⟩
theorem LI.kept {fp : List Nat} (h : LI w0 lb L w) (hk : Kept fp w w') (h0 : ∀ x ∈ fp, w0.heap.size ≤ x) (h1 : lb ∉ fp) (h2 : ∀ gp sv, LAt w lb gp sv L → ∀ x ∈ gp, x ∉ fp) : LI w0 lb L w' := by
  obtain ⟨a1, ⟨gp, sv, a2, a3⟩, a4⟩ := h
  exact ⟨a1, ⟨gp, sv, a2.kept hk h1 (h2 gp sv a2), a3⟩, below_kept a4 hk h0 (Nat.le_refl _)⟩
theorem LI.out (h : LI w0 lb L w) : Below w0.heap.size w0 w := h.2.2
theorem LI.left {gp : List Nat} (h0 : w0.heap.size ≤ lb) (hg : ∀ x ∈ gp, w0.heap.size ≤ x) (hb : Below w0.heap.size w0 w) (h : LLeft w lb gp L' w') : LI w0 lb L' w' := by
  obtain ⟨gp', sv', h1, h2, h3⟩ := h
  refine ⟨h0, ⟨gp', sv', h1, fun x hx => ?_⟩, below_kept hb h2 (fun x hx => ?_) (Nat.le_refl _)⟩
  · rcases h3 x hx with h | h
    · exact hg x h
    · have := hb.size; omega
  · simp at hx
    rcases hx with rfl | hx
    · exact h0
    · exact hg x hx

theorem li_new (m : Int) (w0 w : World) (hb : Below w0.heap.size w0 w) (h1 : 1 ≤ m) (h2 : m ≤ 64) :
    Calls Tryd.prog 25 #[.int .i64 m] w fun e w' => ∃ lb, e = .returned (.tuple #[.pointer (some ⟨lb, 0, none⟩), .nilIface]) ∧ LI w0 lb (Lin.new m) w' ∧ w.heap.size ≤ lb ∧ Below w.heap.size w w' :=
  (lnew_any m w h1 h2).mono fun e w' ⟨he, hl, hbb⟩ => ⟨_, he, ⟨hb.size, ⟨[], _, hl, by simp⟩, hb.trans (hbb.mono hb.size)⟩, Nat.le_refl _, hbb⟩

/-- What a call on the law's own line answers, and leaves. -/
def LO (w0 : World) (lb : Nat) (w : World) (A : Nat → Addr) (L' : Lin) (err : Option Nat) (mk : Value → Value) (e : Ending) (w' : World) : Prop := ∃ v, e = .returned (mk v) ∧ ErrIs w.heap.size w' A v err ∧ LI w0 lb L' w' ∧ FrameT w w'

theorem lo_of {gp : List Nat} {sv : Value} {err : Option Nat} {mk : Value → Value} {e : Ending} (h0 : w0.heap.size ≤ lb) (hg : ∀ x ∈ gp, w0.heap.size ≤ x) (hb : Below w0.heap.size w0 w) (hL : LAt w lb gp sv L) (h : LOut w lb gp A L' err mk e w') : LO w0 lb w A L' err mk e w' := by
  obtain ⟨v, he, hv, hl⟩ := h
  exact ⟨v, he, hv, LI.left h0 hg hb hl, by obtain ⟨gp', sv', _, h2, _⟩ := hl; exact hL.frame h2⟩

theorem li_send (h : LI w0 lb L w) (hok : L.ok) (hG : GlobL w0 A) (s : ByteArray) (hs : s.size ≤ maxLen) : Calls Tryd.prog 26 #[.pointer (some ⟨lb, 0, none⟩), .string s] w (LO w0 lb w A (L.send s).1 (L.send s).2 id) := by
  obtain ⟨h1, ⟨gp, sv, h2, h3⟩, h4⟩ := h
  exact (send_any h2 hok (hG.below h4) s hs).mono fun e w' h => lo_of h1 h3 h4 h2 h
theorem li_double (h : LI w0 lb L w) (hok : L.ok) (hG : GlobL w0 A) (i : Int) : Calls Tryd.prog 28 #[.pointer (some ⟨lb, 0, none⟩), .int .i64 i] w (LO w0 lb w A (L.double i).1 (L.double i).2 id) := by
  obtain ⟨h1, ⟨gp, sv, h2, h3⟩, h4⟩ := h
  exact (double_any h2 hok (hG.below h4) i).mono fun e w' h => lo_of h1 h3 h4 h2 h
theorem li_take (h : LI w0 lb L w) (hok : L.ok) (hG : GlobL w0 A) (i : Int) : Calls Tryd.prog 29 #[.pointer (some ⟨lb, 0, none⟩), .int .i64 i] w (LO w0 lb w A (L.take i).1 (L.take i).2 (pairS (L.taken i))) := by
  obtain ⟨h1, ⟨gp, sv, h2, h3⟩, h4⟩ := h
  exact (take_any h2 hok (hG.below h4) i).mono fun e w' h => lo_of h1 h3 h4 h2 h
theorem li_drop (h : LI w0 lb L w) (hok : L.ok) (hG : GlobL w0 A) (i : Int) : Calls Tryd.prog 32 #[.pointer (some ⟨lb, 0, none⟩), .int .i64 i] w (LO w0 lb w A (L.drop i).1 (L.drop i).2 id) := by
  obtain ⟨h1, ⟨gp, sv, h2, h3⟩, h4⟩ := h
  exact (drop_any h2 hok (hG.below h4) i).mono fun e w' h => lo_of h1 h3 h4 h2 h
theorem li_spoil (h : LI w0 lb L w) (hok : L.ok) (hG : GlobL w0 A) (i a : Int) (b : UInt8) (hsz : L.has i → (L.at i).1.size ≤ 100000) :
    Calls Tryd.prog 33 #[.pointer (some ⟨lb, 0, none⟩), .int .i64 i, .int .i64 a, .int .u8 (b.toNat : Int)] w (LO w0 lb w A (L.spoil i a b).1 (L.spoil i a b).2 id) := by
  obtain ⟨h1, ⟨gp, sv, h2, h3⟩, h4⟩ := h
  exact (spoil_any h2 hok (hG.below h4) i a b hsz).mono fun e w' h => lo_of h1 h3 h4 h2 h
theorem li_len (h : LI w0 lb L w) : Calls Tryd.prog 30 #[.pointer (some ⟨lb, 0, none⟩)] w (fun e w' => e = .returned (.int .i64 L.ts.length) ∧ w = w') := by
  obtain ⟨h1, ⟨gp, sv, h2, h3⟩, h4⟩ := h
  exact llen_any h2
theorem li_clean (h : LI w0 lb L w) (hok : L.ok) (hG : GlobL w0 A) (i : Int) : Calls Tryd.prog 31 #[.pointer (some ⟨lb, 0, none⟩), .int .i64 i] w (fun e w' => e = .returned (.bool (L.clean i)) ∧ LI w0 lb L w' ∧ Below w.heap.size w w') := by
  have h' := h
  obtain ⟨h1, ⟨gp, sv, h2, h3⟩, h4⟩ := h
  exact (clean_any h2 hok (hG.below h4) i).mono fun e w' ⟨he, hb⟩ => ⟨he, h'.below hb, hb⟩
theorem li_stats (h : LI w0 lb L w) : Calls Tryd.prog 34 #[.pointer (some ⟨lb, 0, none⟩)] w
    (fun e w' => e = .returned (.agg #[.int .i64 L.c0, .int .i64 L.c1, .int .i64 L.c2, .int .i64 L.c3, .int .i64 L.c4, .int .i64 L.c5]) ∧ LI w0 lb L w' ∧ Below w.heap.size w w') := by
  have h' := h
  obtain ⟨h1, ⟨gp, sv, h2, h3⟩, h4⟩ := h
  exact (stats_any h2).mono fun e w' ⟨he, hb⟩ => ⟨he, h'.below hb, hb⟩
theorem li_list (h : LI w0 lb L w) (hok : L.ok) : Calls Tryd.prog 27 #[.pointer (some ⟨lb, 0, none⟩)] w (fun e w' => ∃ X c, e = .returned (.slice X L.ts.length c) ∧ ListT w' X (nows L.ts) ∧ LI w0 lb L w' ∧ Below w.heap.size w w') := by
  have h' := h
  obtain ⟨h1, ⟨gp, sv, h2, h3⟩, h4⟩ := h
  exact (llist_any h2 hok).mono fun e w' ⟨X, c, he, hc, hb⟩ => ⟨X, c, he, hc, h'.below hb, hb⟩
end

section
variable {w0 w w' : World} {lb : Nat} {A : Nat → Addr} {L' : Lin} {mk : Value → Value} {e : Ending} {j : Nat} {s : ByteArray}
theorem LO.yes (h : LO w0 lb w A L' none mk e w') : e = .returned (mk .nilIface) ∧ LI w0 lb L' w' ∧ FrameT w w' := by
  obtain ⟨v, he, rfl, hl⟩ := h
  exact ⟨he, hl⟩
theorem LO.no (h : LO w0 lb w A L' (some j) mk e w') : ∃ b, e = .returned (mk (.iface 126 (.pointer (some ⟨b, 0, none⟩)))) ∧ WrapsT w' (.iface 126 (.pointer (some ⟨b, 0, none⟩))) (A j) ∧ LI w0 lb L' w' ∧ FrameT w w' := by
  obtain ⟨v, he, ⟨b, rfl, hw, hb⟩, hl⟩ := h
  exact ⟨b, he, hw, hl⟩
theorem LO.yes2 (h : LO w0 lb w A L' none (pairS s) e w') : e = .returned (.tuple #[.string s, .nilIface]) ∧ LI w0 lb L' w' ∧ FrameT w w' := h.yes
theorem LO.no2 (h : LO w0 lb w A L' (some j) (pairS s) e w') : ∃ b, e = .returned (.tuple #[.string s, .iface 126 (.pointer (some ⟨b, 0, none⟩))]) ∧ WrapsT w' (.iface 126 (.pointer (some ⟨b, 0, none⟩))) (A j) ∧ LI w0 lb L' w' ∧ FrameT w w' := h.no
end

def sa : ByteArray := ⟨#[97]⟩
def sb : ByteArray := ⟨#[98]⟩
def sc : ByteArray := ⟨#[99]⟩
def ll1 : Lin := { most := 3, ts := [(sa, sa)], c0 := 1, c1 := 0, c2 := 0, c3 := 0, c4 := 0, c5 := 0 }
def ll2 : Lin := { most := 3, ts := [(sa, sa), (sb, sb)], c0 := 2, c1 := 0, c2 := 0, c3 := 0, c4 := 0, c5 := 0 }
def ll3 : Lin := { most := 3, ts := [(sa, sa), (sb, sb), (sa, sa)], c0 := 2, c1 := 0, c2 := 0, c3 := 0, c4 := 1, c5 := 0 }
def ll4 : Lin := { most := 3, ts := [(sa, sa), (sb, sb), (sa, sa)], c0 := 2, c1 := 1, c2 := 0, c3 := 0, c4 := 1, c5 := 0 }
def ll5 : Lin := { most := 3, ts := [(sb, sb), (sa, sa)], c0 := 2, c1 := 1, c2 := 1, c3 := 0, c4 := 1, c5 := 0 }
theorem ll_1 : (Lin.new 3).send sa = (ll1, none) := by kernel_rfl
theorem ll_2 : ll1.send sb = (ll2, none) := by kernel_rfl
theorem ll_3 : ll2.double 0 = (ll3, none) := by kernel_rfl
theorem ll_4 : ll3.send sc = (ll4, some 4) := by kernel_rfl
theorem ll_5 : ll4.take 0 = (ll5, none) := by kernel_rfl
theorem ll_5t : ll4.taken 0 = sa := by kernel_rfl
theorem ll_6 : ll5.take 2 = (ll5, some 5) := by kernel_rfl
theorem ll_6t : ll5.taken 2 = ByteArray.empty := by kernel_rfl
theorem ll_ok0 : (Lin.new 3).ok := by unfold Lin.ok; decide +kernel
theorem ll_ok1 : ll1.ok := by unfold Lin.ok; decide +kernel
theorem ll_ok2 : ll2.ok := by unfold Lin.ok; decide +kernel
theorem ll_ok3 : ll3.ok := by unfold Lin.ok; decide +kernel
theorem ll_ok4 : ll4.ok := by unfold Lin.ok; decide +kernel
theorem ll_ok5 : ll5.ok := by unfold Lin.ok; decide +kernel

theorem WrapsT.is {w : World} {v : Value} {a : Addr} (h : WrapsT w v a) : Calls Tryd.prog 35 #[v, .iface 129 (.pointer (some a))] w fun e w' => e = .returned (.bool true) ∧ w = w' :=
  h.wraps.is.mono fun _ _ ⟨he, hw⟩ => ⟨he, hw.symm⟩
theorem stats_same (w : World) : (binOp .eql 59 (.agg #[.int .i64 2, .int .i64 1, .int .i64 1, .int .i64 0, .int .i64 1, .int .i64 0]) (.agg #[.int .i64 2, .int .i64 1, .int .i64 1, .int .i64 0, .int .i64 1, .int .i64 0])).run Tryd.prog w = .ok (.bool true) w := by kernel_rfl

set_option maxRecDepth 100000 in
set_option maxHeartbeats 4000000 in
theorem lawake_any (w : World) (A : Nat → Addr) (hG : GlobL w A) :
    Calls Tryd.prog 24 #[] w fun e w' => e = .returned (.bool true) ∧ Below w.heap.size w w' := by
  have GG := Lib.hid hG
  clear hG
  go_enter Tryd.func24, Tryd.ntmps24
  go_wp2_with fail
  refine (li_new 3 w w (Below.refl _ _) (by decide) (by decide)).mono ?_
  rintro e w1 ⟨lb, rfl, hI, -, -⟩
  have I1 := Lib.hid hI
  clear hI
  go_wp2_with fail
  refine (li_send I1.out ll_ok0 GG.out sa (by decide)).mono ?_
  rw [ll_1]
  rintro e w2 hO
  obtain ⟨rfl, hI, hF⟩ := hO.yes
  have I2 := Lib.hid hI
  clear hI hO hF
  go_wp2_with fail
  refine (li_send I2.out ll_ok1 GG.out sb (by decide)).mono ?_
  rw [ll_2]
  rintro e w3 hO
  obtain ⟨rfl, hI, hF⟩ := hO.yes
  have I3 := Lib.hid hI
  clear hI hO hF
  go_wp2_with fail
  refine (li_double I3.out ll_ok2 GG.out 0).mono ?_
  rw [ll_3]
  rintro e w4 hO
  obtain ⟨rfl, hI, hF⟩ := hO.yes
  have I4 := Lib.hid hI
  clear hI hO hF
  go_wp2_with fail
  refine (li_send I4.out ll_ok3 GG.out sc (by decide)).mono ?_
  rw [ll_4]
  rintro e w5 hO
  obtain ⟨b1, rfl, hw1, hI, hF⟩ := hO.no
  have I5 := Lib.hid hI
  have W1 := Lib.hid hw1
  clear hI hO hw1 hF
  go_wp2_with fail
  refine (li_take I5.out ll_ok4 GG.out 0).mono ?_
  rw [ll_5, ll_5t]
  rintro e w6 hO
  obtain ⟨rfl, hI, hF⟩ := hO.yes2
  have I6 := Lib.hid hI
  have W1b := Lib.hid (W1.out.frame hF)
  clear hI hO hF W1
  go_wp2_with fail
  refine (li_list I6.out ll_ok5).mono ?_
  rw [show ll5.ts.length = 2 from rfl]
  rintro e w7 ⟨X, c, rfl, hC, hI, hB⟩
  have I7 := Lib.hid hI
  have C7 := Lib.hid hC
  have W1c := Lib.hid (W1b.out.frame (FrameT.of_below hB))
  clear hI hC hB W1b
  go_wp2_with fail
  refine (li_take I7.out ll_ok5 GG.out 2).mono ?_
  rw [ll_6, ll_6t]
  rintro e w8 hO
  obtain ⟨b2, rfl, hw2, hI, hF⟩ := hO.no2
  have I8 := Lib.hid hI
  have W2 := Lib.hid hw2
  have W1d := Lib.hid (W1c.out.frame hF)
  have C8 := Lib.hid (C7.out.frame hF)
  clear hI hO hw2 hF W1c C7
  go_wp2_with fail
  refine (lnew_err 0 _ (.inl (by decide)) (A 0) (GG.out.below I8.out.out 0 (by omega))).mono ?_
  rintro e w9 ⟨v, rfl, v', hv, hw3, hbel, b3, rfl, hb3⟩
  obtain rfl : v = _ := by simpa using hv
  have I9 := Lib.hid (I8.out.below hbel)
  have W3 := Lib.hid hw3
  have W1e := Lib.hid (W1d.out.frame (FrameT.of_below hbel))
  have W2b := Lib.hid (W2.out.frame (FrameT.of_below hbel))
  have g4 := GG.out.below I9.out.out 4 (by omega)
  have g5 := GG.out.below I9.out.out 5 (by omega)
  have g0 := GG.out.below I9.out.out 0 (by omega)
  obtain ⟨xb, xo, hX, x0⟩ := (C8.out.frame (FrameT.of_below hbel)).cells 0 (.string sb) rfl
  obtain ⟨xb', xo', hX', x1⟩ := (C8.out.frame (FrameT.of_below hbel)).cells 1 (.string sa) rfl
  subst hX
  cases hX'
  have hst := stats_same
  rw [Nat.add_zero] at x0
  have hsa : sa.toList = [97] := by decide +kernel
  have hsb : sb.toList = [98] := by decide +kernel
  clear hv hw3 hbel W1d W2 C8
  go_wp2_with fail
  refine W1e.out.is.mono ?_
  rintro e w10 ⟨rfl, rfl⟩
  go_wp2_with fail
  refine W2b.out.is.mono ?_
  rintro e w10 ⟨rfl, rfl⟩
  go_wp2_with fail
  refine W3.out.is.mono ?_
  rintro e w10 ⟨rfl, rfl⟩
  go_wp2_with fail
  refine (li_stats I9.out).mono ?_
  rintro e w10 ⟨rfl, hI, -⟩
  have O := Lib.hid hI.out
  clear hI
  go_wp2
  go_ret
  exact ⟨rfl, O.out⟩

end Go.Proofs.YtkpbjahjiajodaaDoor
