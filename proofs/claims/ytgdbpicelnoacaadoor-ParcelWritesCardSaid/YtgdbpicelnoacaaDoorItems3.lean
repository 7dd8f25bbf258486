/- This text proves what the strand's laws do with an item, over the loaded program: what is asked, what is told, whether two are the same. -/
import Derived.Test.YtgdbpicelnoacaaDoorItems2
namespace Go.Proofs.YtgdbpicelnoacaaDoor
open Go.RowKit Go.WideShapes

def It.asked (i : It) : It := if i.kind = 4 then { i with n := i.text.size } else if i.kind = 6 then { i with n := i.fl.length } else i
def It.told (i : It) : It :=
  if i.kind = 4 then ⟨4, 0, i.text, [], none, 0⟩ else if i.kind = 5 then ⟨5, i.n % 4294967296, ⟨#[]⟩, [], none, 0⟩ else if i.kind = 6 then ⟨6, 0, ⟨#[]⟩, i.fl, i.X, i.c⟩ else ⟨i.kind, i.n, ⟨#[]⟩, [], none, 0⟩

theorem below_two (w : World) (a b : Obj) : Below w.heap.size w ((w.alloc a).alloc b) := ((Below.refl w.heap.size w).alloc (Nat.le_refl _) a).alloc (by rw [size_alloc1]; omega) b

section
variable {w : World}

set_option maxRecDepth 100000 in
theorem asked_any (i : It) : Calls Tryd.prog 28 #[i.v] w fun e w' => e = .returned i.asked.v ∧ Below w.heap.size w w' := by
  obtain ⟨kind, n, text, fl, X, c⟩ := i
  unfold It.asked It.v
  dsimp only
  by_cases k4 : kind = 4
  · subst k4
    rw [if_pos rfl]
    dsimp only
    go_enter Tryd.func28, Tryd.ntmps28
    go_wp2_with fail
    exact bodyPost_ret (v := .agg #[.int .i64 4, .int .i64 text.size, .string text, .slice X fl.length c]) (by simp [results, Tryd.results28, go_sem]) rfl ⟨rfl, below_two ..⟩
  rw [if_neg k4]
  by_cases k6 : kind = 6
  · subst k6
    rw [if_pos rfl]
    dsimp only
    go_enter Tryd.func28, Tryd.ntmps28
    go_wp2_with fail
    exact bodyPost_ret (v := .agg #[.int .i64 6, .int .i64 fl.length, .string text, .slice X fl.length c]) (by simp [results, Tryd.results28, go_sem]) rfl ⟨rfl, below_two ..⟩
  rw [if_neg k6]
  dsimp only
  go_enter Tryd.func28, Tryd.ntmps28
  go_wp2_with fail
  exact bodyPost_ret (v := .agg #[.int .i64 kind, .int .i64 n, .string text, .slice X fl.length c]) (by simp [results, Tryd.results28, go_sem]) rfl ⟨rfl, below_two ..⟩

set_option maxRecDepth 100000 in
theorem told_any (i : It) : Calls Tryd.prog 29 #[i.v] w fun e w' => e = .returned i.told.v ∧ Below w.heap.size w w' := by
  obtain ⟨kind, n, text, fl, X, c⟩ := i
  unfold It.told It.v
  dsimp only
  by_cases k4 : kind = 4
  · subst k4
    rw [if_pos rfl]
    dsimp only
    go_enter Tryd.func29, Tryd.ntmps29
    go_wp2_with fail
    exact bodyPost_ret (v := .agg #[.int .i64 4, .int .i64 0, .string text, .slice none 0 0]) (by simp [results, Tryd.results29, go_sem]) rfl ⟨rfl, below_two ..⟩
  rw [if_neg k4]
  by_cases k5 : kind = 5
  · subst k5
    rw [if_pos rfl]
    dsimp only
    have e5 : IntKind.u32.wrap n = n % 4294967296 := by simp [IntKind.wrap, IntKind.signed, IntKind.bits]
    have e6 : IntKind.i64.wrap (n % 4294967296) = n % 4294967296 := IntWalk.i64_in _ (by omega)
    go_enter Tryd.func29, Tryd.ntmps29
    go_wp2_with fail
    exact bodyPost_ret (v := .agg #[.int .i64 5, .int .i64 (n % 4294967296), .string ⟨#[]⟩, .slice none 0 0]) (by simp [results, Tryd.results29, go_sem]) rfl ⟨rfl, below_two ..⟩
  rw [if_neg k5]
  by_cases k6 : kind = 6
  · subst k6
    rw [if_pos rfl]
    dsimp only
    go_enter Tryd.func29, Tryd.ntmps29
    go_wp2_with fail
    exact bodyPost_ret (v := .agg #[.int .i64 6, .int .i64 0, .string ⟨#[]⟩, .slice X fl.length c]) (by simp [results, Tryd.results29, go_sem]) rfl ⟨rfl, below_two ..⟩
  rw [if_neg k6]
  dsimp only
  go_enter Tryd.func29, Tryd.ntmps29
  go_wp2_with fail
  exact bodyPost_ret (v := .agg #[.int .i64 kind, .int .i64 n, .string ⟨#[]⟩, .slice none 0 0]) (by simp [results, Tryd.results29, go_sem]) rfl ⟨rfl, below_two ..⟩

/-- Same. -/
def It.same (a b : It) : Bool := decide (a.kind = b.kind) && decide (a.n = b.n) && decide (a.text = b.text) && decide (a.fl = b.fl)

theorem bytes_eq (x y : ByteArray) : (x.toList == y.toList) = decide (x = y) := by
  by_cases e : x = y
  · subst e; simp
  · rw [decide_eq_false e]
    simp only [ByteArray.toList_eq, beq_eq_false_iff_ne, ne_eq]
    exact fun h => e (ByteArray.ext (Array.toList_inj.1 h))

set_option maxRecDepth 100000 in
set_option maxHeartbeats 3200000 in
theorem same_any (a b : It) (ha : Cells w a.X (a.fl.map Value.bool)) (hb : Cells w b.X (b.fl.map Value.bool)) (hl : a.fl.length ≤ 100000) : Calls Tryd.prog 23 #[a.v, b.v] w fun e w' => e = .returned (.bool (a.same b)) ∧ Below w.heap.size w w' := by
  obtain ⟨kind, n, text, fl, X, c⟩ := a
  obtain ⟨kind', n', text', fl', X', c'⟩ := b
  dsimp only at ha hb hl
  unfold It.same It.v
  dsimp only
  obtain ⟨r, hr⟩ : ∃ r, (decide (kind = kind') && decide (n = n') && decide (text = text') && decide (fl = fl')) = r := ⟨_, rfl⟩
  rw [hr]
  have hbt := below_two w (.cells #[.int .i64 kind, .int .i64 n, .string text, .slice X fl.length c] 30) (.cells #[.int .i64 kind', .int .i64 n', .string text', .slice X' fl'.length c'] 30)
  have F0 := Lib.hid hbt
  by_cases h1 : kind = kind'
  · subst h1
    by_cases h2 : n = n'
    · subst h2
      by_cases h3 : text = text'
      · subst h3
        by_cases h4 : fl.length = fl'.length
        · have R : Hid (decide (fl = fl') = r) := Lib.hid (by rw [← hr]; simp)
          rw [← h4] at hbt ⊢
          clear F0
          have F0 := Lib.hid hbt
          have CA := Lib.hid (ha.below hbt)
          have CB := Lib.hid (hb.below hbt)
          obtain ⟨W2, hW2⟩ : ∃ W2, ((w.alloc (.cells #[.int .i64 kind, .int .i64 n, .string text, .slice X fl.length c] 30)).alloc (.cells #[.int .i64 kind, .int .i64 n, .string text, .slice X' fl.length c'] 30)) = W2 := ⟨_, rfl⟩
          have s2 : W2.heap.size = w.heap.size + 2 := by rw [← hW2, size_alloc1, size_alloc1]
          have a0 : W2.heap[w.heap.size]? = some (.cells #[.int .i64 kind, .int .i64 n, .string text, .slice X fl.length c] 30 (0, 0)) := by
            rw [← hW2, alloc_old _ _ _ (by rw [size_alloc1]; omega), heap_alloc_new]
          have a1 : W2.heap[w.heap.size + 1]? = some (.cells #[.int .i64 kind, .int .i64 n, .string text, .slice X' fl.length c'] 30 (0, 0)) := by
            rw [← hW2, ← size_alloc1 w (.cells #[.int .i64 kind, .int .i64 n, .string text, .slice X fl.length c] 30), heap_alloc_new]
          have E2 := Lib.hid hW2
          rw [hW2] at CA CB F0
          have A0 := Lib.hid a0
          have A1 := Lib.hid a1
          have S2 := Lib.hid s2
          have L4 := Lib.hid h4
          clear hr hbt ha hb hW2 a0 a1 s2 h4
          go_enter Tryd.func23, Tryd.ntmps23
          go_wp2_with fail
          rw [E2.out]
          go_loopw [5] (fun kv wr => ∃ k : Nat, k ≤ fl.length ∧ kv = .int .i64 k ∧ Below W2.heap.size W2 wr ∧ ∀ j, j < k → fl[j]? = fl'[j]?) (fun kv _ => fl.length - (intOf kv).toNat)
          case atStart => exact ⟨0, Nat.zero_le _, rfl, Below.refl _ _, fun j hj => by omega⟩
          case round =>
            obtain ⟨k, hk, rfl, hB, hE⟩ := hrel
            have BB := Lib.hid hB
            have EE := Lib.hid hE
            have c3 : wr.cell? ⟨w.heap.size, 3, none⟩ = some (.slice X fl.length c) := by
              have := (hB.block w.heap.size (by rw [S2.out]; omega)).trans A0.out
              simp [World.cell?, this]
            have c4 : wr.cell? ⟨w.heap.size + 1, 3, none⟩ = some (.slice X' fl.length c') := by
              have := (hB.block (w.heap.size + 1) (by rw [S2.out]; omega)).trans A1.out
              simp [World.cell?, this]
            clear hB hE
            by_cases hlt : k < fl.length
            · obtain ⟨x, hx⟩ : ∃ x, fl[k]? = some x := ⟨fl[k], by simp [hlt]⟩
              obtain ⟨y, hy⟩ : ∃ y, fl'[k]? = some y := ⟨fl'[k]'(by rw [← L4.out]; exact hlt), by simp [show k < fl'.length by rw [← L4.out]; exact hlt]⟩
              obtain ⟨xb, xo, rfl, hc⟩ := (CA.out.below BB.out) k (.bool x) (by simp [hx])
              obtain ⟨yb, yo, rfl, hc'⟩ := (CB.out.below BB.out) k (.bool y) (by simp [hy])
              have i0 : (0 : Int) ≤ (k : Int) := by omega
              have i1 : (k : Int) < (fl.length : Int) := by omega
              have XY := Lib.hid (And.intro hx hy)
              clear hx hy
              by_cases hxy : x = y
              · subst hxy
                go_wp2_with fail
                go_quiet (fail)
                go_wp2_with fail
                exact ⟨⟨k + 1, by omega, by go_num, BB.out.trans ⟨rfl, rfl, rfl, Nat.le_refl _, fun _ _ => rfl⟩, fun j hj => by
                  by_cases h : j = k
                  · subst h; rw [XY.out.1, XY.out.2]
                  · exact EE.out j (by omega)⟩, by simp [intOf]; omega⟩
              · have q : (x == y) = false := by simpa using hxy
                have RR : Hid (r = false) := Lib.hid (by
                  rw [← R.out]
                  apply decide_eq_false
                  intro h
                  have h1 := XY.out.1
                  rw [h, XY.out.2] at h1
                  cases h1
                  exact hxy rfl)
                clear hxy
                go_wp2_with fail
                go_quiet (fail)
                go_wp2_with fail
                go_ret
                exact ⟨by rw [RR.out]; rfl, (F0.out.trans (BB.out.mono (by rw [S2.out]; omega))).trans ⟨rfl, rfl, rfl, Nat.le_refl _, fun _ _ => rfl⟩⟩
            · obtain rfl : k = fl.length := by omega
              have RR : Hid (r = true) := Lib.hid (by
                rw [← R.out]
                apply decide_eq_true
                apply List.ext_getElem?
                intro j
                by_cases h : j < fl.length
                · exact EE.out j h
                · rw [List.getElem?_eq_none (by omega), List.getElem?_eq_none (by have := L4.out; omega)])
              go_wp2_with fail
              go_ret
              exact ⟨by rw [RR.out]; rfl, F0.out.trans (BB.out.mono (by rw [S2.out]; omega))⟩
        · have R : Hid (r = false) := Lib.hid (by rw [← hr]; simp; intro h; exact h4 (by rw [h]))
          have q : ((fl.length : Int) != (fl'.length : Int)) = true := by simp; omega
          clear hr hbt ha hb h4
          go_enter Tryd.func23, Tryd.ntmps23
          go_wp2_with fail
          go_ret
          exact ⟨by rw [R.out]; rfl, F0.out⟩
      · have R : Hid (r = false) := Lib.hid (by rw [← hr]; simp [h3])
        have q : (text.toList == text'.toList) = false := by rw [bytes_eq]; simpa using h3
        clear hr hbt ha hb h3
        go_enter Tryd.func23, Tryd.ntmps23
        go_wp2_with fail
        go_ret
        exact ⟨by rw [R.out]; rfl, F0.out⟩
    · have R : Hid (r = false) := Lib.hid (by rw [← hr]; simp [h2])
      clear hr hbt ha hb
      go_enter Tryd.func23, Tryd.ntmps23
      go_wp2_with fail
      go_ret
      exact ⟨by rw [R.out]; rfl, F0.out⟩
  · have R : Hid (r = false) := Lib.hid (by rw [← hr]; simp [h1])
    clear hr hbt ha hb
    go_enter Tryd.func23, Tryd.ntmps23
    go_wp2_with fail
    go_ret
    exact ⟨by rw [R.out]; rfl, F0.out⟩
end

end Go.Proofs.YtgdbpicelnoacaaDoor
