/- This text walks the law QueueCloses. -/
import Derived.Test.YtkpbjahjiajodaaDoorQCloses
namespace Go.Proofs.YtkpbjahjiajodaaDoor
open Go.RowKit Go.WideShapes

/-- What holds while the last tests are asked. -/
def ClS (w0 : World) (A : Nat → Addr) (l : List Int) (F : Int) (i : Nat) (qb m g o cap n : Nat) (w : World) : Prop := (∃ X, QAt w qb m g o cap n (cq l F i X)) ∧ Glob w A ∧ Below w0.heap.size w0 w
abbrev ClC (w0 : World) (A : Nat → Addr) (l : List Int) (F : Int) (i : Nat) (qb m g o cap n : Nat) (w : World) : Prop :=
  w.cell? ⟨2, 0, none⟩ = some (.iface 129 (.pointer (some (A 2)))) ∧ w.cell? ⟨1, 0, none⟩ = some (.iface 129 (.pointer (some (A 1)))) ∧ ClS w0 A l F i qb m g o cap n w

section
variable {w0 w : World} {A : Nat → Addr} {l : List Int} {F : Int} {i qb m g o cap n : Nat}
theorem ClC.of (h : ClS w0 A l F i qb m g o cap n w) : ClC w0 A l F i qb m g o cap n w := ⟨h.2.1 2 (by decide), h.2.1 1 (by decide), h⟩
theorem cl_bel {w' : World} (h : ClC w0 A l F i qb m g o cap n w) (hb : Below w.heap.size w w') : ClC w0 A l F i qb m g o cap n w' :=
  ClC.of ⟨h.2.2.1.imp fun _ h => h.below hb, h.2.2.2.1.below hb, h.2.2.2.2.trans (hb.mono h.2.2.2.2.size)⟩
theorem cl_drew (h : ClC w0 A l F i qb m g o cap n w) : ClC w0 A l F i qb m g o cap n w.drew := cl_bel h ⟨rfl, rfl, rfl, Nat.le_refl _, fun _ _ => rfl⟩
theorem cl_out (h : ClC w0 A l F i qb m g o cap n w) : Below w0.heap.size w0 w := h.2.2.2.2
theorem cl_put (hil : i ≤ l.length) (hl : l.length ≤ 60) (h : ClC w0 A l F i qb m g o cap n w) : Calls Tryd.prog 14 #[.pointer (some ⟨qb, 0, none⟩), .int .i64 ((i : Int) + 1), .int .i64 0] w (Refused w (A 2)) :=
  h.2.2.1.elim fun X hq => put_err hq (cq_ok l F i X hil hl) _ 0 2 (A 2) (cq_err l F i X _) h.1
theorem cl_close (h : ClC w0 A l F i qb m g o cap n w) : Calls Tryd.prog 36 #[.pointer (some ⟨qb, 0, none⟩), .int .i64 (i : Int)] w (Refused w (A 2)) :=
  h.2.2.1.elim fun _ hq => close_closed hq _ rfl (A 2) h.1
theorem cl_put0 (h : ClC w0 A l F i qb m g o cap n w) : Calls Tryd.prog 14 #[.pointer none, .int .i64 1, .int .i64 0] w (Refused w (A 1)) := put_nil w 1 0 (A 1) h.2.1
theorem cl_close0 (h : ClC w0 A l F i qb m g o cap n w) : Calls Tryd.prog 36 #[.pointer none, .int .i64 0] w (Refused w (A 1)) := close_nil w 0 (A 1) h.2.1
end

set_option maxRecDepth 100000 in
set_option maxHeartbeats 40000000 in
theorem closes_walk (at_ use_ : Int) (l : List Int) (A : Option Addr) (c : Nat) (w : World) (Ad : Nat → Addr) (hG : Glob w Ad) (hA : Cells w A (l.map (Value.int .i64))) (hl : l.length ≤ 60) :
    Calls Tryd.prog 9 #[.slice A l.length c, .int .i64 at_, .int .i64 use_] w fun e w' => e = .returned (.bool true) ∧ Below w.heap.size w w' := by
  obtain ⟨t, ht, ht2⟩ := index_of at_ ((l.length : Int) + 1) (by omega) (by omega)
  obtain ⟨r, hr, hr2⟩ := index_of use_ 9 (by omega) (by omega)
  obtain ⟨len, hlen⟩ : ∃ x, l.length = x := ⟨_, rfl⟩
  rw [hlen] at hl ht ht2
  have LEN := Lib.hid hlen
  have HT := Lib.hid ht
  have HR := Lib.hid hr
  rw [hlen]
  clear ht hr hlen
  go_enter Tryd.func9, Tryd.ntmps9
  go_wp2_with fail
  refine (qawake_any _ Ad hG).mono ?_
  rintro e w1 ⟨rfl, hB1⟩
  go_wp2_with fail
  refine (new_any 0 _ (by omega)).mono ?_
  rintro e w2 ⟨qb, m, g, rfl, hQ, hB2, hqb, hm, hg⟩
  have B2 := Lib.hid (hB1.trans (hB2.mono hB1.size))
  have hqb' : w.heap.size ≤ qb := Nat.le_trans hB1.size hqb
  have hm' : w.heap.size ≤ m := Nat.le_trans hB1.size hm
  have Q2 : Hid (QOwn w.heap.size w2 qb m (gq 0 l 0)) := Lib.hid ⟨g, 0, 0, by rw [gq_zero]; exact hQ, Nat.le_trans hB1.size hg⟩
  clear hB1 hB2 hQ hqb hm hg
  go_wp2_with fail
  go_loopw [9] (fun i wr => ∃ k : Nat, k ≤ len ∧ i = .int .i64 k ∧ QOwn w.heap.size wr qb m (gq 0 l k) ∧ Below w.heap.size w wr) (fun i _ => len - (intOf i).toNat)
  case atStart => exact ⟨0, Nat.zero_le _, rfl, Q2.out, B2.out⟩
  case round =>
    obtain ⟨k, hk, rfl, hQ, hB⟩ := hrel
    by_cases hlt : k < len
    · have hi1 : (0 : Int) ≤ (k : Int) := by omega
      have hi2 : (k : Int) < (len : Int) := by omega
      obtain ⟨x, hx⟩ : ∃ x, l[k]? = some x := ⟨l[k]'(by rw [LEN.out]; omega), by simp [LEN.out, hlt]⟩
      have hAr := hA.below hB
      obtain ⟨ab, ao, rfl, hc⟩ := hAr k (.int .i64 x) (by simp [hx])
      obtain ⟨v, hv, hv2⟩ := index_of x 256 (by omega) (by omega)
      have V := Lib.hid (show qin x = (v : Int) from hv)
      have QQ := Lib.hid hQ
      have BB := Lib.hid hB
      have HX := Lib.hid hx
      clear hQ hB hx hAr
      go_wp2_with fail
      simp only [hv]
      obtain ⟨g, o, cap, hQ, hg⟩ := QQ.out
      refine (put_ok hQ (gq_ok 0 l k (by rw [LEN.out]; omega) (by omega) (by rw [LEN.out]; omega)) ((k : Int) + 1) v (gq0_err l k v (by rw [LEN.out]; omega) (by rw [LEN.out]; omega) (by omega))).mono ?_
      rintro e w3 ⟨rfl, g3, o3, cap3, hQ3, hK3, hg3⟩
      have hB3 : Below w.heap.size w w3 := below_kept BB.out hK3 (by intro y hy; simp at hy; omega) (Nat.le_refl _)
      rw [← V.out, gq_put 0 l k _ x HX.out] at hQ3
      have Q3 : Hid (QOwn w.heap.size w3 qb m (gq 0 l (k + 1))) := Lib.hid ⟨g3, o3, cap3, hQ3, by have := BB.out.size; omega⟩
      have B3 := Lib.hid hB3
      clear hQ hQ3 hK3 hB3 hg3 hg
      go_wp2_with fail
      exact ⟨⟨k + 1, by omega, by go_num, Q3.out, B3.out⟩, by simp [intOf]; omega⟩
    · obtain rfl : k = len := by omega
      obtain ⟨wo, hwo⟩ : ∃ wo, wo = wr := ⟨_, rfl⟩
      subst hwo
      obtain ⟨g, o, cap, hQ, hg⟩ := hQ
      have e : gq 0 l k = gq 0 l l.length := by rw [LEN.out]
      rw [e] at hQ
      have QH := Lib.hid hQ
      have B5 := Lib.hid hB
      have AH := Lib.hid hA
      have GH := Lib.hid hG
      clear hQ hB e hA hG
      have hk0 : (0 : Int) ≤ (k : Int) := by omega
      have hk60 : (k : Int) ≤ 60 := by omega
      go_wp2_with fail
      have hw1 : wrap64 ((k : Int) + 1 + (r : Int)) = (k : Int) + 1 + r := by unfold wrap64; omega
      have ht := HT.out
      have hr := HR.out
      simp only [ht, hr, hw1]
      clear ht hr hw1
      obtain ⟨F, hF⟩ : ∃ F : Int, (k : Int) + 1 + r = F := ⟨_, rfl⟩
      rw [hF]
      have FF := Lib.hid hF
      have hF1 : (k : Int) < F := by omega
      have hF2 : F ≤ 70 := by omega
      clear hF
      have hu := use_any QH.out (gq_ok 0 l _ (Nat.le_refl _) (by omega) (by rw [LEN.out]; omega)) (by omega) F (WalkArith.wf_i64 (by omega)) (by rw [gq_get_behind 0 l F (by rw [LEN.out]; omega)]; have := lastv_rg l l.length; exact WalkArith.wf_i64 (by show _ ≤ lastv l l.length ∧ lastv l l.length ≤ _; omega))
      rw [uq_of l F (by rw [LEN.out]; omega) (by omega), gq_get_behind 0 l F (by rw [LEN.out]; omega)] at hu
      obtain ⟨G, hGG⟩ : ∃ G, lastv l l.length = G := ⟨_, rfl⟩
      rw [hGG] at hu
      have LV := Lib.hid hGG
      have HU := Lib.hid hu
      clear hu hGG
      refine HU.out.mono ?_
      rintro e w3 ⟨rfl, hQ3, hK3⟩
      have Q3 := Lib.hid hQ3
      have B3 := Lib.hid (below_kept B5.out hK3 (by intro y hy; simp at hy; omega) (Nat.le_refl _))
      clear hQ3 hK3
      go_wp2_with fail
      go_loop [14, 15] (fun wv iv => ∃ (i : Nat) (v : Int), t ≤ i ∧ i ≤ k ∧ iv = .int .i64 i ∧ wv = .int .i64 v ∧ Want l i v) (fun _ iv => (intOf iv).toNat)
      case atStart => exact ⟨k, 0, by omega, Nat.le_refl _, rfl, rfl, by have := Want.start l; rw [LEN.out] at this; exact this⟩
      case round =>
        obtain ⟨i, v, hi, hik, rfl, rfl, hW⟩ := hrel
        have WW := Lib.hid hW
        clear hW
        by_cases hlt2 : t < i
        · obtain ⟨i, rfl⟩ : ∃ j, i = j + 1 := ⟨i - 1, by omega⟩
          have hil : i < l.length := by rw [LEN.out]; omega
          obtain ⟨x, hx⟩ : ∃ x, l.getD i 0 = x := ⟨_, rfl⟩
          obtain ⟨ab, ao, hAe, hc⟩ := (AH.out.below B3.out) i (.int .i64 x) (by rw [List.getElem?_map, List.getElem?_eq_getElem hil]; simp [← hx, List.getD, hil])
          obtain ⟨y, hy, hy2⟩ := index_of x 256 (by omega) (by omega)
          have HX := Lib.hid (show qin (l.getD i 0) = (y : Int) by rw [hx]; exact hy)
          have HY := Lib.hid hy
          have hi4 : (i : Int) < (k : Int) := by omega
          have hi5 : (0 : Int) ≤ (i : Int) := by omega
          have hi6 : (t : Int) < (i : Int) + 1 := by omega
          clear hx hlt2 hy
          subst hAe
          rw [show ((i + 1 : Nat) : Int) = (i : Int) + 1 by omega]
          by_cases hy0 : y = 0
          · subst hy0
            have W2 := Lib.hid (WW.out.miss HX.out)
            have t9 : (wrap64 ((IntKind.u64.wrap x).tmod 256) != 0) = false := by rw [HY.out]; rfl
            go_wp2_with fail
            exact ⟨⟨i, v, by omega, by omega, by go_num, rfl, W2.out⟩, by simp [intOf]⟩
          · have W2 := Lib.hid (Want.hit (l := l) (i := i) (by omega) (by rw [HX.out]; omega))
            have t9 : (wrap64 ((IntKind.u64.wrap x).tmod 256) != 0) = true := by rw [HY.out]; simp; omega
            go_wp2_with fail
            exact ⟨⟨i, _, by omega, by omega, by go_num, by go_num, W2.out⟩, by simp [intOf]⟩
        · obtain rfl : i = t := by omega
          obtain ⟨WV, hWV⟩ : ∃ WV, (if v = 0 ∧ G ≠ 0 then F else v) = WV := ⟨_, rfl⟩
          have hLe := WW.out.least (f := F) (by rw [LEN.out]; exact hik) (by rw [LEN.out]; exact hF1) (by omega)
          rw [LV.out, hWV] at hLe
          have LE := Lib.hid hLe
          have hcl := close_ok Q3.out (uq_ok l F (by rw [LEN.out]; exact hl)) (i : Int) rfl i (by simp [uq]) (by rw [uq_last, LEN.out]; omega)
          have CL := Lib.hid hcl
          clear hLe hcl
          have h3 : (v = 0 ∧ G ≠ 0) ∨ (v = 0 ∧ G = 0) ∨ v ≠ 0 := by omega
          rcases h3 with ⟨h31, h32⟩ | ⟨h31, h32⟩ | h31
          case' inl =>
            rw [if_pos ⟨h31, h32⟩] at hWV
            subst h31 hWV
            have t10 : (G != 0) = true := by simpa using h32
            clear h32
          case' inr.inl =>
            rw [if_neg (by simp [h32])] at hWV
            subst h31 h32 hWV
          case' inr.inr =>
            rw [if_neg (by simp [h31])] at hWV
            subst hWV
            have t10 : (v == 0) = false := by simpa using h31
            clear h31
          all_goals
            go_wp2_with fail
            refine CL.out.mono ?_
            rintro e w4 ⟨rfl, vc, hLc, hQ4, hK4⟩
            have hv := Least.eq hLc LE.out
            rw [hv] at hQ4
            change QAt w4 qb m g o cap (0 + 1) (cq l F i _) at hQ4
            have Q4 := Lib.hid hQ4
            have B4 := Lib.hid (below_kept B3.out hK4 (by intro y hy; simp at hy; omega) (Nat.le_refl _))
            have OK := Lib.hid (fun X => cq_ok l F i X (by rw [LEN.out]; exact hik) (by rw [LEN.out]; exact hl))
            have hw := wrong_any Q4.out
            rw [show ∀ X, (cq l F i X).wrong = X from fun _ => rfl] at hw
            have hla := last_any Q4.out (OK.out _)
            rw [cq_last _ _ _ _ (by rw [LEN.out]; exact hik)] at hla
            have HW := Lib.hid hw
            have HL := Lib.hid hla
            clear hLc hv hQ4 hK4 hw hla
            go_wp2_with fail
            refine HW.out.mono ?_
            rintro e w5 ⟨rfl, rfl⟩
            go_wp2_with fail
            refine HL.out.mono ?_
            rintro e w5 ⟨rfl, n5, rfl⟩
            go_wp2_with fail
            go_loopw [16] (fun fv wr => ∃ j N : Nat, 1 ≤ j ∧ j ≤ k + 21 ∧ fv = .int .i64 j ∧ wr = w4.drewN N) (fun fv _ => k + 21 - (intOf fv).toNat)
            case atStart => exact ⟨1, n5, by omega, by omega, rfl, rfl⟩
            case round =>
              obtain ⟨j, N, hj1, hj, rfl, rfl⟩ := hrel
              by_cases hlt3 : j < k + 21
              · have hget := get_any (Q4.out.kept (Kept.drewN [] w4 N) (by simp) (by simp) (by simp)) (OK.out _) (j : Int)
                rw [cq_get l F i _ j (by rw [LEN.out]; exact hik) hj1] at hget
                have hj3 : (1 : Int) ≤ (j : Int) := by omega
                have hj4 : (j : Int) ≤ (k : Int) + 20 := by omega
                by_cases hji : j ≤ i
                · rw [if_pos hji] at hget
                  obtain ⟨y, rfl⟩ : ∃ y : Nat, j = y + 1 := ⟨j - 1, by omega⟩
                  have hy : y < l.length := by rw [LEN.out]; omega
                  rw [show y + 1 - 1 = y by omega] at hget
                  obtain ⟨x, hx⟩ : ∃ x, l.getD y 0 = x := ⟨_, rfl⟩
                  obtain ⟨ab, ao, hAe, hc⟩ := (AH.out.below B4.out) y (.int .i64 x) (by rw [List.getElem?_map, List.getElem?_eq_getElem hy]; simp [← hx, List.getD, hy])
                  rw [hx] at hget
                  obtain ⟨z, hz, hz2⟩ := index_of x 256 (by omega) (by omega)
                  rw [show qin x = (z : Int) from hz] at hget
                  have G0 := Lib.hid hget
                  have hi4 : (y : Int) < (k : Int) := by omega
                  have hi5 : (0 : Int) ≤ (y : Int) := by omega
                  have hi6 : (y : Int) + 1 ≤ (i : Int) := by omega
                  clear hget hx
                  subst hAe
                  go_wp2_with fail
                  refine G0.out.mono ?_
                  rintro e w8 ⟨rfl, n3, rfl⟩
                  go_wp2_with fail
                  exact ⟨⟨y + 1 + 1, N + n3, by omega, by omega, by go_num, rfl⟩, by simp [intOf]; omega⟩
                · rw [if_neg hji] at hget
                  have G0 := Lib.hid hget
                  have hi6 : (i : Int) < (j : Int) := by omega
                  clear hget
                  go_wp2_with fail
                  refine G0.out.mono ?_
                  rintro e w8 ⟨rfl, n3, rfl⟩
                  go_wp2_with fail
                  exact ⟨⟨j + 1, N + n3, by omega, by omega, by go_num, rfl⟩, by simp [intOf]; omega⟩
              · have hcd := closed_any (Q4.out.kept (Kept.drewN [] w4 N) (by simp) (by simp) (by simp))
                rw [show ∀ X, (cq l F i X).fin = i from fun _ => rfl, show ∀ X, (cq l F i X).closed = true from fun _ => rfl] at hcd
                have CD := Lib.hid hcd
                clear hcd
                go_wp2_with fail
                refine CD.out.mono ?_
                rintro e w8 ⟨rfl, n3, rfl⟩
                go_wp2_with fail
                refine (get_nil _ 1).mono ?_
                rintro e w8 ⟨rfl, rfl⟩
                go_wp2_with fail
                have S0 : ClC w Ad l F i qb m g o cap (0 + 1) (w4.drewN (N + n3)) := ClC.of ⟨⟨_, Q4.out.kept (Kept.drewN [] w4 _) (by simp) (by simp) (by simp)⟩, (GH.out.below B4.out).drewN _, B4.out.trans ⟨rfl, rfl, rfl, Nat.le_refl _, fun _ _ => rfl⟩⟩
                have hil : i ≤ l.length := by rw [LEN.out]; exact hik
                have hl60 : l.length ≤ 60 := by rw [LEN.out]; exact hl
                clear OK
                have e1 : IntKind.i64.wrap ((i : Int) + 1) = (i : Int) + 1 := IntWalk.i64_in _ (by omega)
                go_region_held3 (fun w' => w'.cell? ⟨2, 0, none⟩ = some (.iface 129 (.pointer (some (Ad 2)))) ∧ w'.cell? ⟨1, 0, none⟩ = some (.iface 129 (.pointer (some (Ad 1)))) ∧ ClS w Ad l F i qb m g o cap (0 + 1) w')
                  ((first | assumption | (exact cl_drew (by assumption)) | (refine cl_bel ?_ hbel; assumption)))
                  (first
                    | (go_at_call 14; (with_reducible refine (cl_put (w0 := w) (A := Ad) (l := l) (F := F) (i := i) (m := m) (g := g) (o := o) (cap := cap) (n := 0 + 1) hil hl60 ?_).mono ?_); assumption; rintro e w' ⟨v1, rfl, hw1, hbel, -⟩)
                    | (go_at_call 36; (with_reducible refine (cl_close (w0 := w) (A := Ad) (l := l) (F := F) (i := i) (m := m) (g := g) (o := o) (cap := cap) (n := 0 + 1) ?_).mono ?_); assumption; rintro e w' ⟨v2, rfl, hw2, hbel, -⟩)
                    | (go_at_call 14; (with_reducible refine (cl_put0 (w0 := w) (A := Ad) (l := l) (F := F) (i := i) (qb := qb) (m := m) (g := g) (o := o) (cap := cap) (n := 0 + 1) ?_).mono ?_); assumption; rintro e w' ⟨v3, rfl, hw3, hbel, -⟩)
                    | (go_at_call 36; (with_reducible refine (cl_close0 (w0 := w) (A := Ad) (l := l) (F := F) (i := i) (qb := qb) (m := m) (g := g) (o := o) (cap := cap) (n := 0 + 1) ?_).mono ?_); assumption; rintro e w' ⟨v4, rfl, hw4, hbel, -⟩)
                    | (go_at_call 35; (with_reducible refine (Wraps.is' ?_).mono ?_); (with_reducible first | assumption | exact Wraps.drew (by assumption) | exact Wraps.drew (Wraps.drew (by assumption))); rintro e w' ⟨rfl, hbel⟩)
                    | (go_at_call 15; refine (last_nil _).mono ?_; rintro e w' ⟨rfl, rfl⟩)
                    | (go_at_call 21; refine (first_nil _).mono ?_; rintro e w' ⟨rfl, rfl⟩)
                    | (go_at_call 22; refine (len_nil _).mono ?_; rintro e w' ⟨rfl, rfl⟩)
                    | (go_at_call 16; refine (wrong_nil _).mono ?_; rintro e w' ⟨rfl, rfl⟩)
                    | (go_at_call 23; refine (list_nil _ _).mono ?_; rintro e w' ⟨rfl, rfl⟩))
                all_goals
                  go_wp2
                  go_ret
                  exact ⟨rfl, cl_out (by assumption)⟩

set_option maxRecDepth 100000 in
theorem closes_else (at_ use_ : Int) (len : Nat) (A : Option Addr) (c : Nat) (w : World) (Ad : Nat → Addr) (hG : Glob w Ad) (hl : 60 < len) :
    Calls Tryd.prog 9 #[.slice A len c, .int .i64 at_, .int .i64 use_] w fun e w' => e = .returned (.bool true) ∧ Below w.heap.size w w' := by
  have hl' : (60 : Int) < (len : Int) := by omega
  go_enter Tryd.func9, Tryd.ntmps9
  go_wp2_with fail
  refine (qawake_any _ Ad hG).mono ?_
  rintro e w1 ⟨rfl, hB1⟩
  go_wp2_with fail
  refine (new_any 0 _ (by omega)).mono ?_
  rintro e w2 ⟨qb, m, g, rfl, hQ, hB2, hqb, hm, hg⟩
  have B2 := Lib.hid (hB1.trans (hB2.mono hB1.size))
  clear hB1 hB2 hQ hqb hm hg
  go_wp2
  go_ret
  exact ⟨rfl, B2.out⟩

theorem closes_any (w : World) (Ad : Nat → Addr) (hG : Glob w Ad) (A : Option Addr) (c : Nat) (l : List Int)
    (h : l.length ≤ c ∧ c ≤ maxLen ∧ Cells w A (l.map (Value.int .i64)) ∧ ∀ n ∈ l, (Lit.int .i64 n).wf = true) (at_ : Int) (_ha : (Lit.int .i64 at_).wf = true) (use_ : Int) (_hu : (Lit.int .i64 use_).wf = true) :
    Calls Tryd.prog 9 #[.slice A l.length c, .int .i64 at_, .int .i64 use_] w fun e w' => e = .returned (.bool true) ∧ Below w.heap.size w w' := by
  by_cases hl : l.length ≤ 60
  · exact closes_walk at_ use_ l A c w Ad hG h.2.2.1 hl
  · exact closes_else at_ use_ l.length A c w Ad hG (by omega)

end Go.Proofs.YtkpbjahjiajodaaDoor
