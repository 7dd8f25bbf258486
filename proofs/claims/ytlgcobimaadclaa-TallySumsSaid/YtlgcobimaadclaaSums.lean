/- This text proves, over the loaded program, that the law TallySums returns true for every input. -/
import Derived.Test.YtlgcobimaadclaaRefs
import Derived.Test.YtlgcobimaadclaaOpen
namespace Go.Proofs.Ytlgcobimaadclaa
open Go.RowKit

/-- What comes to a sum. -/
structure AddE where
  is : Bool
  n : Int
  t : ByteArray

def Adds (w : World) (A : Option Addr) (l : List AddE) : Prop := ∀ i x, l[i]? = some x → ∃ b o, A = some ⟨b, o, none⟩ ∧
  w.cell? ⟨b, o + i * 3, none⟩ = some (.bool x.is) ∧ w.cell? ⟨b, o + i * 3 + 1, none⟩ = some (.int .i64 x.n) ∧ w.cell? ⟨b, o + i * 3 + 2, none⟩ = some (.string x.t)

theorem Adds.below {w w' : World} {A : Option Addr} {l : List AddE} (h : Adds w A l) (hb : Below w.heap.size w w') : Adds w' A l := fun i x hi => by
  obtain ⟨b, o, e, h0, h1, h2⟩ := h i x hi
  have hl := World.block_lt_of_cell? w _ h0
  exact ⟨b, o, e, (hb.cell (p := ⟨b, o + i * 3, none⟩) hl).trans h0, (hb.cell (p := ⟨b, o + i * 3 + 1, none⟩) hl).trans h1, (hb.cell (p := ⟨b, o + i * 3 + 2, none⟩) hl).trans h2⟩

def numT (n : Int) : ByteArray := ⟨(numL (IntKind.u64.wrap n) 8).toArray⟩
def textOf (x : AddE) : ByteArray := if x.is then numT x.n else x.t
def textsOf (l : List AddE) : List ByteArray := l.map textOf

theorem textsOf_take (l : List AddE) (k : Nat) (h : k < l.length) : textsOf (l.take (k + 1)) = textsOf (l.take k) ++ [textOf l[k]] := by
  unfold textsOf
  rw [List.take_succ_eq_append_getElem h, List.map_append]
  rfl

theorem addLs_snoc (s : Int) (l : List ByteArray) (t : ByteArray) : addLs s (l ++ [t]) = addL (addLs s l) t.data.toList := by
  unfold addLs
  rw [List.foldl_append]
  rfl

theorem info9 : (Try.prog.info? 9).map (fun i => (i.zero, i.size, i.bytes)) = some (some (.string ByteArray.empty), 1, 16) := by kernel_rfl

/-- Texts that lie in a row of the call's own. -/
def OwnS (w : World) (base : Nat) (v : Value) (l : List ByteArray) : Prop := w.ownsRow base 9 1 v l.length (l.map Value.string)

theorem strs_one (l : List ByteArray) : ∀ u ∈ l.map Value.string, u.oneCell' = true := by
  intro u hu
  obtain ⟨x, _, rfl⟩ := List.mem_map.1 hu
  rfl

theorem OwnS.below {w w' : World} {base : Nat} {v : Value} {l : List ByteArray} (h : OwnS w base v l) (hb : Below w.heap.size w w') : OwnS w' base v l :=
  World.ownsRow.kept h (row := none) ⟨hb.os, hb.tape, hb.output, hb.size, fun k hk _ => hb.block k hk⟩ (by cases hv : v.ownBlock <;> simp)

theorem OwnS.slice {w : World} {base : Nat} {v : Value} {l : List ByteArray} (h : OwnS w base v l) : ∃ A c, v = .slice A l.length c ∧ Cells w A (l.map Value.string) := by
  have hl := h.1
  rcases h.2 with ⟨rfl, h0⟩ | ⟨g, cap, cur, rfl, hg, hh, hc, hm, hs, ht⟩
  · have : l = [] := List.eq_nil_of_length_eq_zero h0
    subst this
    exact ⟨none, 0, rfl, Cells.nil _ _⟩
  · refine ⟨_, cap, rfl, fun i v hi => ?_⟩
    refine ⟨g, 0, rfl, ?_⟩
    have := World.ownsRow.cells h (g := g) rfl i v hi
    rwa [add_plain] at this

theorem OwnS.ne {w : World} {base g : Nat} {v : Value} {l : List ByteArray} {s : Int} (h : OwnS w base v l) (hT : IsT w g s) : v.ownBlock ≠ some g := by
  rcases h.2 with ⟨rfl, h0⟩ | ⟨g', cap, cur, rfl, hg, hh, _⟩
  · simp [Value.ownBlock]
  · intro e
    simp [Value.ownBlock] at e
    subst e
    rw [show w.heap[g']? = _ from hT] at hh
    simp at hh

theorem IsT.grown {w w' : World} {g : Nat} {s : Int} {r : Option Nat} (h : IsT w g s) (hg : w.grownBy w' r) (hr : r ≠ some g) : IsT w' g s :=
  (hg.block g (Array.getElem?_eq_some_iff.1 (show w.heap[g]? = _ from h)).1 (fun e => hr e.symm)).trans h
theorem IsT.below {w w' : World} {g : Nat} {s : Int} (h : IsT w g s) (hb : Below w.heap.size w w') : IsT w' g s :=
  (hb.block g (Array.getElem?_eq_some_iff.1 (show w.heap[g]? = _ from h)).1).trans h

theorem app_text {w0 w : World} {g : Nat} {S : Int} {ops : Array Oper} {rest : List Oper} {o : Oper} {a : Act} {Q : Exit → Act → World → Prop} (hgd : o.guard = none) (s x : Operand)
    (ho : o.op = .call { callee := .builtin .append, args := #[s, x], argTypes := #[29, 29] })
    (v : Value) (xs : List ByteArray) (hs : a.eval s = v) (hown : OwnS w w0.heap.size v xs) (hB : Below w0.heap.size w0 w) (hT : IsT w g S)
    (t : ByteArray) (hx : a.eval x = .slice (some ⟨w.heap.size, 0, none⟩) 1 1) (hn : xs.length ≤ 1000000)
    (h : ∀ v' w', OwnS w' w0.heap.size v' (xs ++ [t]) → Below w0.heap.size w0 w' → IsT w' g S → wpList Try.prog ops Q rest (a.put o.dst v') w') :
    wpList Try.prog ops Q (o :: rest) a (w.alloc (.cells #[.string t] 9)) := by
  have hB' := hB.alloc hB.size (.cells #[.string t] 9)
  have hT' := hT.below ((Below.refl w.heap.size w).alloc (Nat.le_refl _) (.cells #[.string t] 9))
  have ho' := hown.below ((Below.refl w.heap.size w).alloc (Nat.le_refl _) (.cells #[.string t] 9))
  refine wpList_append_cells hgd s x 29 ho w0.heap.size 9 (.string ByteArray.empty) 1 16 Try.underlying29 info9 rfl (by decide) v xs.length (xs.map Value.string) hs ho' _ 1 1 [.string t] hx rfl (cells_one _ _ _) (strs_one [t]) (by simp [maxLen]; omega) (by omega) hB'.size ?_
  intro v' w' o' g' _ _
  refine h v' w' ?_ (hB'.grown g' hB'.size (fun k hk => (World.ownsRow.lt hown k hk).1)) (hT'.grown g' (ho'.ne hT'))
  unfold OwnS
  rw [List.length_append, List.map_append]
  exact o'

theorem ofR_any' (A : Option Addr) (c : Nat) (l : List ByteArray) (w : World) (S : Int) (hS : addLs 14695981039346656037 l = S) (hl : l.length ≤ maxLen) (hs : ∀ t ∈ l, t.size ≤ maxLen) (hA : Cells w A (l.map Value.string)) :
    Calls Try.prog 31 #[.slice A l.length c] w fun e w' => e = .returned (.int .u64 S) ∧ w = w' := by
  subst hS
  exact ofR_any A c l w hl hs hA

theorem of_own (A : Option Addr) (c : Nat) (l : List ByteArray) (w : World) (S : Int) (hS : addLs 14695981039346656037 l = S) (hl : l.length ≤ maxLen) (hs : ∀ t ∈ l, t.size ≤ maxLen) (hA : Cells w A (l.map Value.string)) :
    Calls Try.prog 19 #[.slice A l.length c] w fun e w' => e = .returned (.int .u64 S) ∧ Below w.heap.size w w' := by
  subst hS
  exact of_any A c l w hl hs hA

theorem cell_bel {w w' : World} {p : Addr} {v : Value} {B : Nat} (hb : Below B w w') (h : w.cell? p = some v) (hB : B = w.heap.size) : w'.cell? p = some v := by
  subst hB
  exact (hb.cell (World.block_lt_of_cell? w _ h)).trans h
theorem bel_bel {w0 w w' : World} {B : Nat} (h : Below w0.heap.size w0 w) (hb : Below B w w') (hB : B = w.heap.size) : Below w0.heap.size w0 w' := by
  subst hB
  exact h.trans (hb.mono h.size)
theorem s22_bel {w0 w w' : World} {p : Addr} {v : Value} (h : w.cell? p = some v ∧ Below w0.heap.size w0 w) (hb : Below w.heap.size w w') : w'.cell? p = some v ∧ Below w0.heap.size w0 w' :=
  ⟨(hb.cell (World.block_lt_of_cell? w _ h.1)).trans h.1, h.2.trans (hb.mono h.2.size)⟩
theorem snd_of {p q : Prop} (h : p ∧ q) : q := h.2
theorem mixR_any' (A : Option Addr) (c : Nat) (l : List Int) (w : World) (S : Int) (hS : mixL l = S) (hl : l.length ≤ maxLen) (hA : Cells w A (l.map (Value.int .u64))) :
    Calls Try.prog 34 #[.slice A l.length c] w fun e w' => e = .returned (.int .u64 S) ∧ Below w.heap.size w w' := by
  subst hS
  exact mixR_any A c l w hl hA
theorem cell_drew {w : World} {p : Addr} {v : Value} (h : w.cell? p = some v) : w.drew.cell? p = some v := h

theorem numT_size (n : Int) : (numT n).size = 8 := by simp [numT, ByteArray.size, numL]

/-- What the first loop keeps. -/
structure Keep (w : World) (g : Nat) (l : List AddE) (k : Nat) (v : Value) (wr : World) : Prop where mk ::
  le : k ≤ l.length
  isT : IsT wr g (addLs 14695981039346656037 (textsOf (l.take k)))
  own : OwnS wr w.heap.size v (textsOf (l.take k))
  bel : Below w.heap.size w wr
  small : ∀ t ∈ textsOf (l.take k), t.size ≤ 4096

set_option maxHeartbeats 1600000 in
theorem sums_walk (A : Option Addr) (ca : Nat) (l : List AddE) (B' : Option Addr) (cb : Nat) (b : List Int) (w : World) (h1 : l.length ≤ 60) (h2 : b.length ≤ 60)
    (hA : Adds w A l) (hB : Cells w B' (b.map (Value.int .u64))) :
    Calls Try.prog 10 #[.slice A l.length ca, .slice B' b.length cb] w fun e w' => e = .returned (.bool true) ∧ Below w.heap.size w w' := by
  have t1 : decide (60 < (l.length : Int)) = false := by simp; omega
  have t2 : decide (60 < (b.length : Int)) = false := by simp; omega
  go_enter Try.func10, Try.ntmps10
  go_wp2_with fail
  refine (awake_any _).mono ?_
  rintro e w1 ⟨rfl, hb1⟩
  have B1 := Lib.hid hb1
  clear hb1
  go_wp2_with fail
  refine (new_any w1).mono ?_
  rintro e w3 ⟨rfl, rfl⟩
  have hg1 : w.heap.size ≤ w1.heap.size := B1.out.size
  have G := Lib.hid hg1
  obtain ⟨g, hg⟩ : ∃ g, g = w1.heap.size := ⟨_, rfl⟩
  rw [← hg]
  have E := Lib.hid hg
  clear hg hg1
  go_wp2_with fail
  go_loopw [6, 7] (fun v i wr => ∃ k : Nat, i = .int .i64 k ∧ Keep w g l k v wr) (fun _ i _ => l.length - (intOf i).toNat)
  case atStart =>
    refine ⟨0, rfl, Nat.zero_le _, ?_, ?_, (B1.out.alloc G.out _).alloc (by simp; have := G.out; omega) _, by simp [textsOf]⟩
    · rw [E.out]
      exact (isT_new w1 _).below ((Below.refl _ _).alloc (Nat.le_refl _) _)
    · have h := World.ownsRow_made (base := w.heap.size) (e := 9) (size := 1) (w1.alloc (.cells #[.int .u64 14695981039346656037] 64)) #[] 0 (by simp; have := G.out; omega) (by simp [maxLen]) (by simp)
      simpa [OwnS, textsOf] using h
  case round =>
    obtain ⟨k, rfl, hK⟩ := hrel
    by_cases hlt : k < l.length
    · have hi1 : (0 : Int) ≤ (k : Int) := by omega
      have hi2 : (k : Int) < (l.length : Int) := by omega
      obtain ⟨ab, ao, rfl, c0, c1, c2⟩ := (hA.below hK.bel) k l[k] (by simp [hlt])
      have KK := Lib.hid hK
      have lenT : (textsOf (l.take k)).length ≤ 60 := by simp [textsOf]; omega
      by_cases hbig : 4096 < l[k].t.size
      · have t3 : decide (4096 < (l[k].t.size : Int)) = true := by simp; omega
        clear hK hA hB
        go_wp2
        go_ret
        exact ⟨rfl, KK.out.bel⟩
      · have t3 : decide (4096 < (l[k].t.size : Int)) = false := by simp; omega
        have hT := hK.isT
        clear hK
        obtain ⟨S, hS⟩ : ∃ S, addLs 14695981039346656037 (textsOf (l.take (k + 1))) = S := ⟨_, rfl⟩
        have HS := Lib.hid hS
        clear hS
        have HX := Lib.hid (show addL (addLs 14695981039346656037 (textsOf (l.take k))) (textOf l[k]).data.toList = S by rw [← HS.out, textsOf_take _ _ hlt, addLs_snoc])
        have hag : ab < g := by
          obtain ⟨ab', ao', e, d0, _⟩ := hA k l[k] (by simp [hlt])
          cases e
          have := World.block_lt_of_cell? w _ d0
          rw [E.out]
          have := G.out
          simp at *
          omega
        have HT2 := Lib.hid (textsOf_take l k hlt)
        cases his : l[k].is with
        | true =>
          rw [his] at c0
          have htx := Lib.hid (show textOf l[k] = numT l[k].n by simp [textOf, his])
          have hsz : (textOf l[k]).size ≤ 4096 := by rw [htx.out, numT_size]; omega
          clear his
          go_wp2_with fail
          refine (num_any g _ l[k].n wr hT).mono ?_
          rintro e w4 ⟨rfl, hp⟩
          have hT4 : IsT w4 g S := by
            have h := hp.1
            rw [← HX.out, htx.out]
            exact h
          have HG := Lib.hid hp.2
          have hb4 : Below w.heap.size w w4 := below_grown KK.out.bel hp.2 (by rw [E.out]; exact G.out)
          have o4 : OwnS w4 w.heap.size u6 (textsOf (l.take k)) := World.ownsRow.kept KK.out.own hp.2 (.inr (KK.out.own.ne hT))
          have c1' := HG.out.cell c1 (by simp; omega)
          clear hp hT c1
          go_wp2_with fail
          refine (numR_any _ w4).mono ?_
          rintro e w5 ⟨rfl, hb5⟩
          have hT5 := hT4.below hb5
          have o5 := o4.below hb5
          have hB5 := hb4.trans (hb5.mono hb4.size)
          have e5 : (⟨(numL (IntKind.u64.wrap l[k].n) 8).toArray⟩ : ByteArray) = textOf l[k] := by rw [htx.out]; rfl
          rw [e5]
          clear hb4 o4 hT4 hb5 c1' e5
          go_wp2_with (at_builtin; refine app_text (w0 := w) rfl (.tmp 47) (.tmp 55) rfl _ _ rfl o5 hB5 hT5 (textOf l[k]) rfl ?len ?rest)
          case len => omega
          case rest =>
            intro v6 w6 o6 b6 T6
            rw [← HT2.out] at o6
            obtain ⟨A6, c6, e6, hc6⟩ := o6.slice
            subst e6
            have K6 := Lib.hid (Keep.mk (w := w) (g := g) (l := l) (k := k + 1) (by omega) (by rw [HS.out]; exact T6) o6 b6 (by
              rw [HT2.out]
              intro t ht
              rcases List.mem_append.1 ht with h | h
              · exact KK.out.small t h
              · rw [List.mem_singleton.1 h]; exact hsz))
            clear o6 b6 o5 hB5 hT5
            go_wp2_with fail
            refine (sum_any g S w6 T6).mono ?_
            rintro e w7 ⟨rfl, rfl⟩
            go_wp2_with fail
            refine (ofR_any' A6 c6 _ w6 S HS.out ?_ ?_ hc6).mono ?_
            · have := K6.out.le; simp [textsOf, maxLen]; omega
            · intro t ht; have := K6.out.small t ht; simp [maxLen]; omega
            rintro e w8 ⟨rfl, rfl⟩
            go_wp2
            go_roundw
            case rel => exact ⟨k + 1, by go_num, K6.out⟩
            case measure => simp [intOf]; omega
        | false =>
          rw [his] at c0
          have htx := Lib.hid (show textOf l[k] = l[k].t by simp [textOf, his])
          have hsz : (textOf l[k]).size ≤ 4096 := by rw [htx.out]; omega
          clear his
          go_wp2_with fail
          refine (add_any g _ l[k].t wr hT (by simp [maxLen]; omega)).mono ?_
          rintro e w4 ⟨rfl, hp⟩
          have hT5 : IsT w4 g S := by
            have h := hp.1
            rw [← HX.out, htx.out]
            exact h
          have HG := Lib.hid hp.2
          have hB5 : Below w.heap.size w w4 := below_grown KK.out.bel hp.2 (by rw [E.out]; exact G.out)
          have o5 : OwnS w4 w.heap.size u6 (textsOf (l.take k)) := World.ownsRow.kept KK.out.own hp.2 (.inr (KK.out.own.ne hT))
          have c2' := HG.out.cell c2 (by simp; omega)
          clear hp hT c2
          go_wp2_with (at_builtin; rw [← htx.out]; refine app_text (w0 := w) rfl (.tmp 64) (.tmp 70) rfl _ _ rfl o5 hB5 hT5 (textOf l[k]) rfl ?len ?rest)
          case len => omega
          case rest =>
            intro v6 w6 o6 b6 T6
            rw [← HT2.out] at o6
            obtain ⟨A6, c6, e6, hc6⟩ := o6.slice
            subst e6
            have K6 := Lib.hid (Keep.mk (w := w) (g := g) (l := l) (k := k + 1) (by omega) (by rw [HS.out]; exact T6) o6 b6 (by
              rw [HT2.out]
              intro t ht
              rcases List.mem_append.1 ht with h | h
              · exact KK.out.small t h
              · rw [List.mem_singleton.1 h]; exact hsz))
            clear o6 b6 o5 hB5 hT5
            go_wp2_with fail
            refine (sum_any g S w6 T6).mono ?_
            rintro e w7 ⟨rfl, rfl⟩
            go_wp2_with fail
            refine (ofR_any' A6 c6 _ w6 S HS.out ?_ ?_ hc6).mono ?_
            · have := K6.out.le; simp [textsOf, maxLen]; omega
            · intro t ht; have := K6.out.small t ht; simp [maxLen]; omega
            rintro e w8 ⟨rfl, rfl⟩
            go_wp2
            go_roundw
            case rel => exact ⟨k + 1, by go_num, K6.out⟩
            case measure => simp [intOf]; omega
    · have e : l.take k = l := List.take_of_length_le (by omega)
      have hO := hK.own
      have hBl := Lib.hid hK.bel
      have hsm := hK.small
      rw [e] at hO hsm
      clear hK e
      obtain ⟨L, hL⟩ : ∃ L, textsOf l = L := ⟨_, rfl⟩
      have hLl : L.length ≤ 60 := by rw [← hL]; simp [textsOf]; omega
      rw [hL] at hO hsm
      clear hL
      obtain ⟨A', c', e', hc⟩ := hO.slice
      subst e'
      obtain ⟨wo, hwo⟩ : ∃ wo, wo = wr := ⟨_, rfl⟩
      subst hwo
      have hB' := Lib.hid (hB.below hBl.out)
      clear hB hO hA
      go_wp2_with fail
      go_loopw [8] (fun i wq => ∃ j : Nat, j ≤ L.length ∧ i = .int .i64 j ∧ Below wo.heap.size wo wq) (fun i _ => L.length - (intOf i).toNat)
      case atStart => exact ⟨0, Nat.zero_le _, rfl, Below.refl _ _⟩
      case round =>
        obtain ⟨j, hj, rfl, hb⟩ := hrel
        by_cases hjl : j < L.length
        · have hj1 : (0 : Int) ≤ (j : Int) := by omega
          have hj2 : (j : Int) < (L.length : Int) := by omega
          obtain ⟨tb, to, rfl, ct⟩ := (hc.below hb) j (.string L[j]) (by simp [hjl])
          have ht := hsm L[j] (List.getElem_mem hjl)
          have hm : L[j].size ≤ maxLen := by simp [maxLen]; omega
          clear hc hsm
          go_wp2_with fail
          go_region_held3 (fun w' => w'.cell? ⟨tb, to + j, none⟩ = some (.string L[j]) ∧ Below wo.heap.size wo w') (first | assumption | (exact ⟨cell_drew ct, hb.drew⟩) | (refine s22_bel ?_ hbel; assumption))
            (first
              | (go_at_call 32; refine (short_any L[j] _ hm).mono ?_; rintro e w' ⟨rfl, hbel⟩)
              | (go_at_call 33; refine (shortR_any L[j] _ hm).mono ?_; rintro e w' ⟨rfl, rfl⟩))
          all_goals
            go_wp2
            go_roundw
            case rel => exact ⟨j + 1, by omega, by go_num, by apply snd_of; assumption⟩
            case measure => simp [intOf]; omega
        · obtain ⟨S, hS⟩ : ∃ S, addLs 14695981039346656037 L = S := ⟨_, rfl⟩
          obtain ⟨M, hM⟩ : ∃ M, mixL b = M := ⟨_, rfl⟩
          have HS := Lib.hid hS
          have HM := Lib.hid hM
          have hml : L.length ≤ maxLen := by simp [maxLen]; omega
          have hmt : ∀ t ∈ L, t.size ≤ maxLen := fun t h => by have := hsm t h; simp [maxLen]; omega
          have hc1 := hc.below hb
          have hB1 := hB'.out.below hb
          have C0 := Lib.hid (hBl.out.trans (hb.mono hBl.out.size))
          clear hS hM hsm hc hb
          go_wp2_with fail
          refine (add_nil _ wr).mono ?_
          rintro e x1 ⟨rfl, rfl⟩
          go_wp2_with fail
          refine (num_nil _ wr).mono ?_
          rintro e x1 ⟨rfl, rfl⟩
          go_wp2_with fail
          refine (of_own A' c' L wr S HS.out hml hmt hc1).mono ?_
          rintro e x1 ⟨rfl, hb1⟩
          have hc2 := hc1.below hb1
          have hB2 := hB1.below hb1
          have C1 := Lib.hid (C0.out.trans (hb1.mono C0.out.size))
          clear hb1 hc1 hB1
          go_wp2_with fail
          refine (ofR_any' A' c' L x1 S HS.out hml hmt hc2).mono ?_
          rintro e x2 ⟨rfl, rfl⟩
          go_wp2_with fail
          refine (mix_arg B' cb b x1 M HM.out (by omega) hB2).mono ?_
          rintro e x3 ⟨rfl, hb3⟩
          have hB3 := hB2.below hb3
          have C3 := Lib.hid (C1.out.trans (hb3.mono C1.out.size))
          clear hb3 hB2 hc2
          go_wp2_with fail
          refine (mixR_any' B' cb b x3 M HM.out (by simp [maxLen]; omega) hB3).mono ?_
          rintro e x4 ⟨rfl, hb4⟩
          have C4 := Lib.hid (C3.out.trans (hb4.mono C3.out.size))
          clear hb4 hB3
          go_wp2_with fail
          refine (sum_nil x4).mono ?_
          rintro e x5 ⟨rfl, rfl⟩
          go_wp2
          go_ret
          exact ⟨rfl, C4.out⟩

set_option maxHeartbeats 400000 in
theorem sums_long1 (A : Option Addr) (ca : Nat) (n : Nat) (B' : Option Addr) (cb : Nat) (m : Nat) (w : World) (h1 : 60 < n) :
    Calls Try.prog 10 #[.slice A n ca, .slice B' m cb] w fun e w' => e = .returned (.bool true) ∧ Below w.heap.size w w' := by
  have t1 : decide (60 < (n : Int)) = true := by simp; omega
  go_enter Try.func10, Try.ntmps10
  go_wp2_with fail
  refine (awake_any _).mono ?_
  rintro e w1 ⟨rfl, hb1⟩
  go_wp2
  go_ret
  exact ⟨rfl, hb1⟩

set_option maxHeartbeats 400000 in
theorem sums_long2 (A : Option Addr) (ca : Nat) (n : Nat) (B' : Option Addr) (cb : Nat) (m : Nat) (w : World) (h1 : n ≤ 60) (h2 : 60 < m) :
    Calls Try.prog 10 #[.slice A n ca, .slice B' m cb] w fun e w' => e = .returned (.bool true) ∧ Below w.heap.size w w' := by
  have t1 : decide (60 < (n : Int)) = false := by simp; omega
  have t2 : decide (60 < (m : Int)) = true := by simp; omega
  go_enter Try.func10, Try.ntmps10
  go_wp2_with fail
  refine (awake_any _).mono ?_
  rintro e w1 ⟨rfl, hb1⟩
  go_wp2
  go_ret
  exact ⟨rfl, hb1⟩

theorem sums_any (w : World) (A : Option Addr) (ca : Nat) (l : List AddE) (hA : Adds w A l)
    (B' : Option Addr) (cb : Nat) (b : List Int) (hb : b.length ≤ cb ∧ cb ≤ maxLen ∧ Cells w B' (b.map (Value.int .u64)) ∧ ∀ n ∈ b, (Lit.int .u64 n).wf = true) :
    Calls Try.prog 10 #[.slice A l.length ca, .slice B' b.length cb] w fun e w' => e = .returned (.bool true) ∧ Below w.heap.size w w' := by
  by_cases h1 : 60 < l.length
  · exact sums_long1 A ca l.length B' cb b.length w h1
  · by_cases h2 : 60 < b.length
    · exact sums_long2 A ca l.length B' cb b.length w (by omega) h2
    · exact sums_walk A ca l B' cb b w (by omega) (by omega) hA hb.2.2.1

/-- A slice of what comes to a sum that came in. -/
theorem open_adds {H : Type} {enc : TypeId × Value → H} {W : World} {a : Option Addr} {len cap : Nat} (h : Reads enc Try.prog W 52 [.slice a len cap]) : ∃ l : List AddE, len = l.length ∧ Adds W a l := by
  have hc : Try.prog.cellsOf 54 = 3 := by kernel_rfl
  have c4 : Try.prog.cellsOf 4 = 1 := by kernel_rfl
  have c3 : Try.prog.cellsOf 3 = 1 := by kernel_rfl
  have c9 : Try.prog.cellsOf 9 = 1 := by kernel_rfl
  obtain ⟨_, _, he⟩ := open_elems Try.underlying52 (by rw [hc]; omega) h
  obtain ⟨l, hl, hr⟩ := list_of len (fun i (x : AddE) => ∃ b o, a = some ⟨b, o, none⟩ ∧
      W.cell? ⟨b, o + i * 3, none⟩ = some (.bool x.is) ∧ W.cell? ⟨b, o + i * 3 + 1, none⟩ = some (.int .i64 x.n) ∧ W.cell? ⟨b, o + i * 3 + 2, none⟩ = some (.string x.t)) (by
    intro i hi
    obtain ⟨cs, hcl, ⟨b, o, ha, hcell⟩, hrd⟩ := he i hi
    rw [hc] at hcl hcell
    match cs, hcl with
    | [v0, v1, v2], _ =>
      have r0 : Reads enc Try.prog W 4 [v0] := reads_at Try.underlying54 hrd 0 rfl rfl rfl c4
      have r1 : Reads enc Try.prog W 3 [v1] := reads_at Try.underlying54 hrd 1 rfl rfl rfl c3
      have r2 : Reads enc Try.prog W 9 [v2] := reads_at Try.underlying54 hrd 2 rfl rfl rfl c9
      obtain ⟨x0, e0⟩ := reads_bool Try.underlying4 r0
      obtain ⟨x1, e1, _⟩ := reads_int Try.underlying3 r1
      obtain ⟨x2, e2, _⟩ := reads_string Try.underlying9 r2
      simp at e0 e1 e2
      subst e0 e1 e2
      exact ⟨⟨x0, x1, x2⟩, b, o, ha, hcell 0 _ rfl, hcell 1 _ rfl, hcell 2 _ rfl⟩)
  exact ⟨l, hl.symm, fun i x hx => hr i x hx⟩

end Go.Proofs.Ytlgcobimaadclaa
