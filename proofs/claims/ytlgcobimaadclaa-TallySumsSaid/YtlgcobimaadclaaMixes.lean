/- This text proves, over the loaded program, that the law TallyMixes returns true for every input. -/
import Derived.Test.YtlgcobimaadclaaTally
import Derived.Test.YtlgcobimaadclaaAppend
namespace Go.Proofs.Ytlgcobimaadclaa
open Go.RowKit

theorem info24 : (Try.prog.info? 24).map (fun i => (i.zero, i.size, i.bytes)) = some (some (.int .u64 0), 1, 8) := by kernel_rfl


theorem one_u64 (l : List Int) : ∀ u ∈ l.map (Value.int .u64), u.oneCell' = true := by
  intro u hu
  obtain ⟨x, _, rfl⟩ := List.mem_map.1 hu
  rfl

/-- Numbers that lie in rows of the call's own. -/
def OwnU (w : World) (base : Nat) (v : Value) (l : List Int) : Prop := w.ownsRow base 24 1 v l.length (l.map (Value.int .u64))


theorem OwnU.below {w w' : World} {base : Nat} {v : Value} {l : List Int} (h : OwnU w base v l) (hb : Below w.heap.size w w') : OwnU w' base v l :=
  World.ownsRow.kept h (row := none) ⟨hb.os, hb.tape, hb.output, hb.size, fun k hk _ => hb.block k hk⟩ (by cases hv : v.ownBlock <;> simp)

theorem OwnU.slice {w : World} {base : Nat} {v : Value} {l : List Int} (h : OwnU w base v l) : ∃ A c, v = .slice A l.length c ∧ Cells w A (l.map (Value.int .u64)) := by
  obtain ⟨hl, h⟩ := h
  rcases h with ⟨rfl, h0⟩ | ⟨g, cap, cur, rfl, hg, hh, hc, hm, hs, ht⟩
  · have : l = [] := List.eq_nil_of_length_eq_zero h0
    subst this
    exact ⟨none, 0, rfl, Cells.nil _ _⟩
  · refine ⟨_, cap, rfl, fun i v hi => ?_⟩
    refine ⟨g, 0, rfl, ?_⟩
    have := World.ownsRow.cells (v := .slice (some ⟨g, 0, none⟩) l.length cap) (xs := l.map (Value.int .u64)) ⟨hl, .inr ⟨g, cap, cur, rfl, hg, hh, hc, hm, hs, ht⟩⟩ (g := g) rfl i v hi
    rwa [add_plain] at this

theorem app_u64 {w0 w : World} {ops : Array Oper} {rest : List Oper} {o : Oper} {a : Act} {Q : Exit → Act → World → Prop} (hgd : o.guard = none) (s x : Operand)
    (ho : o.op = .call { callee := .builtin .append, args := #[s, x], argTypes := #[49, 49] })
    (v : Value) (xs : List Int) (hs : a.eval s = v) (hown : OwnU w w0.heap.size v xs) (hB : Below w0.heap.size w0 w)
    (A : Option Addr) (c : Nat) (l : List Int) (hx : a.eval x = .slice A l.length c) (hA : Cells w0 A (l.map (Value.int .u64))) (hn : xs.length + l.length ≤ 1000)
    (h : ∀ v' w', OwnU w' w0.heap.size v' (xs ++ l) → Below w0.heap.size w0 w' → wpList Try.prog ops Q rest (a.put o.dst v') w') :
    wpList Try.prog ops Q (o :: rest) a w := by
  refine wpList_append_cells hgd s x 49 ho w0.heap.size 24 (.int .u64 0) 1 8 Try.underlying49 info24 rfl (by decide) v xs.length (xs.map (Value.int .u64)) hs hown A l.length c (l.map (Value.int .u64)) hx (by simp) (hA.below hB) (one_u64 l) (by simp [maxLen]; omega) (by omega) hB.size ?_
  intro v' w' o' g' _ _
  refine h v' w' ?_ (hB.grown g' hB.size (fun k hk => (World.ownsRow.lt hown k hk).1))
  unfold OwnU
  rw [List.length_append, List.map_append]
  exact o'


theorem mix_own (v : Value) (l : List Int) (w : World) (base : Nat) (S : Int) (hS : mixL l = S) (hl : l.length ≤ 1000) (h : OwnU w base v l) :
    Calls Try.prog 28 #[v] w fun e w' => e = .returned (.int .u64 S) ∧ Below w.heap.size w w' := by
  obtain ⟨A, c, rfl, hc⟩ := h.slice
  subst hS
  exact mix_any A c l w (by simp [maxLen]; omega) hc

theorem mix_arg (A : Option Addr) (c : Nat) (l : List Int) (w : World) (S : Int) (hS : mixL l = S) (hl : l.length ≤ 1000) (hA : Cells w A (l.map (Value.int .u64))) :
    Calls Try.prog 28 #[.slice A l.length c] w fun e w' => e = .returned (.int .u64 S) ∧ Below w.heap.size w w' := by
  subst hS
  exact mix_any A c l w (by simp [maxLen]; omega) hA

theorem mix_one (n : Int) (w : World) (T : TypeId) (g c : Nat) (hg : g = w.heap.size) (S : Int) (hS : mixL [n] = S) :
    Calls Try.prog 28 #[.slice (some ⟨g, 0, none⟩) 1 c] (w.alloc (.cells #[.int .u64 n] T)) fun e w' => e = .returned (.int .u64 S) ∧ Below w.heap.size w w' := by
  subst hg
  refine (mix_arg (some ⟨w.heap.size, 0, none⟩) c [n] _ S hS (by simp) (cells_one w _ T)).mono ?_
  rintro e w' ⟨rfl, hb⟩
  exact ⟨rfl, ((Below.refl _ _).alloc (Nat.le_refl _) _).trans (hb.mono (by simp))⟩

def sumL (l : List Int) : Int := l.foldl (fun s n => s + addL 14695981039346656037 (numL n 8)) 0

theorem foldl_wrap (l : List Int) : ∀ s t : Int, s % 18446744073709551616 = t % 18446744073709551616 →
    (l.foldl (fun s n => IntKind.u64.wrap (s + addL 14695981039346656037 (numL n 8))) s) % 18446744073709551616 = (l.foldl (fun s n => s + addL 14695981039346656037 (numL n 8)) t) % 18446744073709551616 := by
  induction l with
  | nil => intro s t h; exact h
  | cons n l ih =>
    intro s t h
    simp only [List.foldl_cons]
    refine ih _ _ ?_
    rw [u64_wrap]
    omega

theorem mixL_mod (l : List Int) : mixL l % 18446744073709551616 = sumL l % 18446744073709551616 := foldl_wrap l 0 0 rfl

theorem mixL_range (l : List Int) : 0 ≤ mixL l ∧ mixL l < 18446744073709551616 := by
  rcases List.eq_nil_or_concat l with rfl | ⟨l, n, rfl⟩
  · simp [mixL]
  · unfold mixL
    rw [List.concat_eq_append, List.foldl_append]
    exact ⟨u64_ge _, u64_lt _⟩

theorem mixL_is (l : List Int) : mixL l = sumL l % 18446744073709551616 := by
  have h := mixL_mod l
  have r := mixL_range l
  omega

theorem foldl_from (l : List Int) : ∀ s : Int, l.foldl (fun s n => s + addL 14695981039346656037 (numL n 8)) s = s + sumL l := by
  induction l with
  | nil => intro s; simp [sumL]
  | cons n l ih =>
    intro s
    unfold sumL
    rw [List.foldl_cons, List.foldl_cons, ih, ih (0 + _)]
    omega

theorem sumL_append (a b : List Int) : sumL (a ++ b) = sumL a + sumL b := by
  have h : sumL (a ++ b) = b.foldl (fun s n => s + addL 14695981039346656037 (numL n 8)) (sumL a) := by unfold sumL; rw [List.foldl_append]
  rw [h, foldl_from]

set_option maxHeartbeats 1600000 in
theorem mixes_walk (A : Option Addr) (ca : Nat) (a : List Int) (B' : Option Addr) (cb : Nat) (b : List Int) (one : Int) (w : World) (h1 : a.length ≤ 60) (h2 : b.length ≤ 60)
    (hA : Cells w A (a.map (Value.int .u64))) (hB : Cells w B' (b.map (Value.int .u64))) :
    Calls Try.prog 9 #[.slice A a.length ca, .slice B' b.length cb, .int .u64 one] w fun e w' => e = .returned (.bool true) ∧ Below w.heap.size w w' := by
  have t1 : decide (60 < (a.length : Int)) = false := by simp; omega
  have t2 : decide (60 < (b.length : Int)) = false := by simp; omega
  obtain ⟨X, hX⟩ : ∃ X, mixL (a ++ b) = X := ⟨_, rfl⟩
  obtain ⟨Z, hZ⟩ : ∃ Z, mixL (one :: a ++ b) = Z := ⟨_, rfl⟩
  obtain ⟨MA, hMA⟩ : ∃ X, mixL a = X := ⟨_, rfl⟩
  obtain ⟨MB, hMB⟩ : ∃ X, mixL b = X := ⟨_, rfl⟩
  obtain ⟨M1, hM1⟩ : ∃ X, mixL [one] = X := ⟨_, rfl⟩
  have q1 : IntKind.u64.wrap (MA + MB) = X := by rw [u64_wrap, ← hMA, ← hMB, ← hX, mixL_is, mixL_is, mixL_is, sumL_append]; omega
  have q2 : IntKind.u64.wrap (Z - X) = M1 := by rw [u64_wrap, ← hZ, ← hM1, ← hX, mixL_is, mixL_is, mixL_is, show one :: a ++ b = [one] ++ (a ++ b) from rfl, sumL_append [one]]; omega
  have HY := Lib.hid (show mixL (b ++ a) = X by rw [← hX, mixL_is, mixL_is, sumL_append, sumL_append, Int.add_comm])
  have HX := Lib.hid hX
  have HZ := Lib.hid hZ
  have HMA := Lib.hid hMA
  have HMB := Lib.hid hMB
  have HM1 := Lib.hid hM1
  have HQ1 := Lib.hid q1
  have HQ2 := Lib.hid q2
  clear hX hZ hMA hMB hM1 q1 q2
  go_enter Try.func9, Try.ntmps9
  go_wp2_with fail
  refine (awake_any _).mono ?_
  rintro e w1 ⟨rfl, hb1⟩
  have hA1 := hA.below hb1
  have hB1 := hB.below hb1
  have B1 := Lib.hid hb1
  clear hb1 hA hB
  go_wp2_with (at_builtin; refine app_u64 (w0 := w1) rfl (.tmp 20) (.tmp 21) rfl _ [] rfl (World.ownsRow_made w1 #[] 0 (Nat.le_refl _) (by simp [maxLen]) (by simp)) ((Below.refl _ _).alloc (Nat.le_refl _) _) A ca a rfl hA1 ?len ?rest)
  case len => simp only [List.length_nil]; omega
  case rest =>
    intro v2 w2 o2 b2
    go_wp2_with (at_builtin; refine app_u64 (w0 := w1) rfl (.tmp 22) (.tmp 23) rfl _ _ rfl o2 b2 B' cb b rfl hB1 ?len2 ?rest2)
    case len2 => omega
    case rest2 =>
      intro vx wx ox bx
      have hAx := hA1.below bx
      have hBx := hB1.below bx
      have BX := Lib.hid (B1.out.trans (bx.mono B1.out.size))
      clear o2 b2 bx hA1 hB1
      go_wp2_with (at_builtin; refine app_u64 (w0 := wx) rfl (.tmp 25) (.tmp 26) rfl _ [] rfl (World.ownsRow_made wx #[] 0 (Nat.le_refl _) (by simp [maxLen]) (by simp)) ((Below.refl _ _).alloc (Nat.le_refl _) _) B' cb b rfl hBx ?len3 ?rest3)
      case len3 => simp only [List.length_nil]; omega
      case rest3 =>
        intro v3 w3 o3 b3
        go_wp2_with (at_builtin; refine app_u64 (w0 := wx) rfl (.tmp 27) (.tmp 28) rfl _ _ rfl o3 b3 A ca a rfl hAx ?len4 ?rest4)
        case len4 => omega
        case rest4 =>
          intro vy wy oy bY
          have hAy := hAx.below bY
          have hBy := hBx.below bY
          have oxy := ox.below bY
          have BY := Lib.hid (BX.out.trans (bY.mono BX.out.size))
          clear o3 b3 bY hAx hBx ox
          go_wp2_with (at_builtin; refine app_u64 (w0 := wy) rfl (.tmp 31) (.tmp 32) rfl _ [one] rfl ?own5 ((Below.refl _ _).alloc (Nat.le_refl _) _) A ca a rfl hAy ?len5 ?rest5)
          case own5 => exact World.ownsRow_lit wy #[.int .u64 one] 1 (Nat.le_refl _) (by simp [maxLen]) (by simp)
          case len5 => simp only [List.length_singleton]; omega
          case rest5 =>
            intro v5 w5 o5 b5
            go_wp2_with (at_builtin; refine app_u64 (w0 := wy) rfl (.tmp 33) (.tmp 34) rfl _ _ rfl o5 b5 B' cb b rfl hBy ?len6 ?rest6)
            case len6 => simp; omega
            case rest6 =>
              intro vz wz oz bz
              have hAz := hAy.below bz
              have hBz := hBy.below bz
              have oxz := oxy.below bz
              have oyz := oy.below bz
              have BZ := Lib.hid (BY.out.trans (bz.mono BY.out.size))
              clear o5 b5 bz hAy hBy oxy oy
              go_wp2_with fail
              refine (mix_own vx (a ++ b) wz _ X HX.out (by simp; omega) oxz).mono ?_
              rintro e y1 ⟨rfl, c1⟩
              have oy1 := oyz.below c1
              have ox1 := oxz.below c1
              have oz1 := oz.below c1
              have hA2 := hAz.below c1
              have hB2 := hBz.below c1
              have C1 := Lib.hid (BZ.out.trans (c1.mono BZ.out.size))
              clear c1 oxz oyz oz hAz hBz
              go_wp2_with fail
              refine (mix_own vy (b ++ a) y1 _ X HY.out (by simp; omega) oy1).mono ?_
              rintro e y2 ⟨rfl, c1⟩
              have ox2 := ox1.below c1
              have oz2 := oz1.below c1
              have hA3 := hA2.below c1
              have hB3 := hB2.below c1
              have C2 := Lib.hid (C1.out.trans (c1.mono C1.out.size))
              clear c1 ox1 oy1 oz1 hA2 hB2
              go_wp2_with fail
              refine (mix_own vx (a ++ b) y2 _ X HX.out (by simp; omega) ox2).mono ?_
              rintro e y3 ⟨rfl, c1⟩
              have ox3 := ox2.below c1
              have oz3 := oz2.below c1
              have hA4 := hA3.below c1
              have hB4 := hB3.below c1
              have C3 := Lib.hid (C2.out.trans (c1.mono C2.out.size))
              clear c1 ox2 oz2 hA3 hB3
              go_wp2_with fail
              refine (mix_arg A ca a y3 MA HMA.out (by omega) hA4).mono ?_
              rintro e y4 ⟨rfl, c1⟩
              have ox4 := ox3.below c1
              have oz4 := oz3.below c1
              have hB5 := hB4.below c1
              have C4 := Lib.hid (C3.out.trans (c1.mono C3.out.size))
              clear c1 ox3 oz3 hA4 hB4
              go_wp2_with fail
              refine (mix_arg B' cb b y4 MB HMB.out (by omega) hB5).mono ?_
              rintro e y5 ⟨rfl, c1⟩
              have ox5 := ox4.below c1
              have oz5 := oz4.below c1
              have C5 := Lib.hid (C4.out.trans (c1.mono C4.out.size))
              clear c1 ox4 oz4 hB5
              have q1 := HQ1.out
              go_wp2_with fail
              refine (mix_own vz _ y5 _ Z HZ.out (by simp; omega) oz5).mono ?_
              rintro e y6 ⟨rfl, c1⟩
              have ox6 := ox5.below c1
              have C6 := Lib.hid (C5.out.trans (c1.mono C5.out.size))
              clear c1 ox5 oz5 q1
              go_wp2_with fail
              refine (mix_own vx (a ++ b) y6 _ X HX.out (by simp; omega) ox6).mono ?_
              rintro e y7 ⟨rfl, c1⟩
              have C7 := Lib.hid (C6.out.trans (c1.mono C6.out.size))
              clear c1 ox6
              have q2 := HQ2.out
              go_wp2_with fail
              refine (mix_one one y7 _ _ _ rfl M1 HM1.out).mono ?_
              rintro e y8 ⟨rfl, c1⟩
              have C8 := Lib.hid (C7.out.trans (c1.mono C7.out.size))
              clear c1 q2
              go_wp2_with fail
              refine (mix_arg none 0 [] y8 0 rfl (by simp) (Cells.nil _ _)).mono ?_
              rintro e y9 ⟨rfl, c1⟩
              have C9 := Lib.hid (C8.out.trans (c1.mono C8.out.size))
              clear c1
              go_wp2
              go_ret
              exact ⟨rfl, C9.out⟩

set_option maxHeartbeats 400000 in
theorem mixes_long1 (A : Option Addr) (ca : Nat) (a : List Int) (B' : Option Addr) (cb : Nat) (b : List Int) (one : Int) (w : World) (h1 : 60 < a.length) :
    Calls Try.prog 9 #[.slice A a.length ca, .slice B' b.length cb, .int .u64 one] w fun e w' => e = .returned (.bool true) ∧ Below w.heap.size w w' := by
  have t1 : decide (60 < (a.length : Int)) = true := by simp; omega
  go_enter Try.func9, Try.ntmps9
  go_wp2_with fail
  refine (awake_any _).mono ?_
  rintro e w1 ⟨rfl, hb1⟩
  go_wp2
  go_ret
  exact ⟨rfl, hb1⟩

set_option maxHeartbeats 400000 in
theorem mixes_long2 (A : Option Addr) (ca : Nat) (a : List Int) (B' : Option Addr) (cb : Nat) (b : List Int) (one : Int) (w : World) (h1 : a.length ≤ 60) (h2 : 60 < b.length) :
    Calls Try.prog 9 #[.slice A a.length ca, .slice B' b.length cb, .int .u64 one] w fun e w' => e = .returned (.bool true) ∧ Below w.heap.size w w' := by
  have t1 : decide (60 < (a.length : Int)) = false := by simp; omega
  have t2 : decide (60 < (b.length : Int)) = true := by simp; omega
  go_enter Try.func9, Try.ntmps9
  go_wp2_with fail
  refine (awake_any _).mono ?_
  rintro e w1 ⟨rfl, hb1⟩
  go_wp2
  go_ret
  exact ⟨rfl, hb1⟩

theorem mixes_any (w : World) (A : Option Addr) (ca : Nat) (a : List Int) (ha : a.length ≤ ca ∧ ca ≤ maxLen ∧ Cells w A (a.map (Value.int .u64)) ∧ ∀ n ∈ a, (Lit.int .u64 n).wf = true)
    (B' : Option Addr) (cb : Nat) (b : List Int) (hb : b.length ≤ cb ∧ cb ≤ maxLen ∧ Cells w B' (b.map (Value.int .u64)) ∧ ∀ n ∈ b, (Lit.int .u64 n).wf = true) (one : Int) (_ho : (Lit.int .u64 one).wf = true) :
    Calls Try.prog 9 #[.slice A a.length ca, .slice B' b.length cb, .int .u64 one] w fun e w' => e = .returned (.bool true) ∧ Below w.heap.size w w' := by
  by_cases h1 : 60 < a.length
  · exact mixes_long1 A ca a B' cb b one w h1
  · by_cases h2 : 60 < b.length
    · exact mixes_long2 A ca a B' cb b one w (by omega) h2
    · exact mixes_walk A ca a B' cb b one w (by omega) (by omega) ha.2.2.1 hb.2.2.1

end Go.Proofs.Ytlgcobimaadclaa
