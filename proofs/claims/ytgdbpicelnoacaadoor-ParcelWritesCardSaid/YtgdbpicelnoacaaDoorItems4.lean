/- This text holds a row of items that came in, and proves what the strand's laws ask of it, over the loaded program: whether it is heavy. -/
import Derived.Test.YtgdbpicelnoacaaDoorItems3
namespace Go.Proofs.YtgdbpicelnoacaaDoor
open Go.RowKit Go.WideShapes

/-- A row of items that came in. -/
def Items (w : World) (A : Option Addr) (l : List It) : Prop := ∀ j x, l[j]? = some x → (∃ b o, A = some ⟨b, o, none⟩ ∧
  w.cell? ⟨b, o + j * 4, none⟩ = some (.int .i64 x.kind) ∧ w.cell? ⟨b, o + j * 4 + 1, none⟩ = some (.int .i64 x.n) ∧ w.cell? ⟨b, o + j * 4 + 2, none⟩ = some (.string x.text) ∧ w.cell? ⟨b, o + j * 4 + 3, none⟩ = some (.slice x.X x.fl.length x.c)) ∧
  In64 x.kind ∧ In64 x.n ∧ x.text.size ≤ maxLen ∧ x.fl.length ≤ maxLen ∧ Cells w x.X (x.fl.map Value.bool)

theorem Items.below {w w' : World} {A : Option Addr} {l : List It} (h : Items w A l) (hb : Below w.heap.size w w') : Items w' A l := fun j x hj => by
  obtain ⟨⟨b, o, e, h0, h1, h2, h3⟩, k1, k2, k3, k4, k5⟩ := h j x hj
  have hl := World.block_lt_of_cell? w _ h0
  exact ⟨⟨b, o, e, (hb.cell (p := ⟨b, o + j * 4, none⟩) hl).trans h0, (hb.cell (p := ⟨b, o + j * 4 + 1, none⟩) hl).trans h1, (hb.cell (p := ⟨b, o + j * 4 + 2, none⟩) hl).trans h2, (hb.cell (p := ⟨b, o + j * 4 + 3, none⟩) hl).trans h3⟩, k1, k2, k3, k4, k5.below hb⟩

/-- Heavy. -/
def It.heavy (x : It) : Bool := decide (1000 < x.text.size) || decide (1000 < x.fl.length) || decide (x.kind < 1) || decide (6 < x.kind)
def heavyL (l : List It) : Bool := decide (60 < l.length) || l.any It.heavy

set_option maxRecDepth 100000 in
set_option maxHeartbeats 3200000 in
theorem heavy_any (w : World) (A : Option Addr) (l : List It) (c : Nat) (h : Items w A l) : Calls Tryd.prog 15 #[.slice A l.length c] w fun e w' => e = .returned (.bool (heavyL l)) ∧ w = w' := by
  unfold heavyL
  by_cases h60 : 60 < l.length
  · have q : (60 : Int) < (l.length : Int) := by omega
    rw [decide_eq_true h60]
    clear h60
    go_enter Tryd.func15, Tryd.ntmps15
    go_wp2_with fail
    go_ret
    exact ⟨rfl, rfl⟩
  · rw [decide_eq_false h60, Bool.false_or]
    obtain ⟨len, hlen⟩ : ∃ len, l.length = len := ⟨_, rfl⟩
    rw [hlen] at h60 ⊢
    have LEN := Lib.hid hlen
    have q : (len : Int) ≤ 60 := by omega
    have HH := Lib.hid h
    clear h60 hlen h
    go_enter Tryd.func15, Tryd.ntmps15
    go_wp2_with fail
    go_loop [3] (fun kv => ∃ k : Nat, k ≤ len ∧ kv = .int .i64 k ∧ ∀ j x, j < k → l[j]? = some x → x.heavy = false) (fun kv => len - (intOf kv).toNat)
    case atStart => exact ⟨0, Nat.zero_le _, rfl, fun j x hj => by omega⟩
    case round =>
      obtain ⟨k, hk, rfl, hE⟩ := hrel
      have EE := Lib.hid hE
      clear hE
      by_cases hlt : k < len
      · obtain ⟨x, hx⟩ : ∃ x, l[k]? = some x := ⟨l[k]'(by rw [LEN.out]; exact hlt), by simp [show k < l.length by rw [LEN.out]; exact hlt]⟩
        obtain ⟨⟨b, o, rfl, h0, h1, h2, h3⟩, _, _, _, _, _⟩ := HH.out k x hx
        obtain ⟨kind, n, text, fl, X, c'⟩ := x
        dsimp only at h0 h1 h2 h3
        have i0 : (0 : Int) ≤ (k : Int) := by omega
        have i1 : (k : Int) < (len : Int) := by omega
        obtain ⟨hv, hhv⟩ : ∃ hv, It.heavy ⟨kind, n, text, fl, X, c'⟩ = hv := ⟨_, rfl⟩
        have HV : Hid ((decide (1000 < text.size) || decide (1000 < fl.length) || decide (kind < 1) || decide (6 < kind)) = hv) := Lib.hid (by rw [← hhv]; rfl)
        have XX := Lib.hid (And.intro hx hhv)
        have T : Hid (hv = true → l.any It.heavy = true) := Lib.hid (fun h => by
          rw [List.any_eq_true]
          exact ⟨_, List.mem_of_getElem? hx, hhv.trans h⟩)
        clear hx hhv
        by_cases a1 : 1000 < text.size
        · have R := Lib.hid (T.out (by rw [← HV.out, decide_eq_true a1]; rfl))
          have qa : decide ((1000 : Int) < (text.size : Int)) = true := by simp; omega
          clear a1
          go_wp2_with fail
          go_ret
          exact ⟨by rw [R.out]; rfl, rfl⟩
        · by_cases a2 : 1000 < fl.length
          · have R := Lib.hid (T.out (by rw [← HV.out, decide_eq_true a2]; simp))
            have qa : decide ((1000 : Int) < (fl.length : Int)) = true := by simp; omega
            have d1 : decide ((1000 : Int) < (text.size : Int)) = false := by simp; omega
            clear a1 a2
            go_wp2_with fail
            go_ret
            exact ⟨by rw [R.out]; rfl, rfl⟩
          · by_cases a3 : kind < 1
            · have R := Lib.hid (T.out (by rw [← HV.out, decide_eq_true a3]; simp))
              have qa : decide (kind < 1) = true := by simpa using a3
              have d1 : decide ((1000 : Int) < (text.size : Int)) = false := by simp; omega
              have d2 : decide ((1000 : Int) < (fl.length : Int)) = false := by simp; omega
              clear a1 a2 a3
              go_wp2_with fail
              go_ret
              exact ⟨by rw [R.out]; rfl, rfl⟩
            · by_cases a4 : 6 < kind
              · have R := Lib.hid (T.out (by rw [← HV.out, decide_eq_true a4]; simp))
                have qa : decide (6 < kind) = true := by simpa using a4
                have d1 : decide ((1000 : Int) < (text.size : Int)) = false := by simp; omega
                have d2 : decide ((1000 : Int) < (fl.length : Int)) = false := by simp; omega
                have d3 : decide (kind < 1) = false := by simpa using a3
                clear a1 a2 a3 a4
                go_wp2_with fail
                go_ret
                exact ⟨by rw [R.out]; rfl, rfl⟩
              · have d1 : decide ((1000 : Int) < (text.size : Int)) = false := by simp; omega
                have d2 : decide ((1000 : Int) < (fl.length : Int)) = false := by simp; omega
                have d3 : decide (kind < 1) = false := by simpa using a3
                have d4 : decide (6 < kind) = false := by simpa using a4
                have R : hv = false := by rw [← HV.out, d3, d4, decide_eq_false a1, decide_eq_false a2]; rfl
                subst R
                clear a1 a2 a3 a4
                go_wp2_with fail
                exact ⟨⟨k + 1, by omega, by go_num, fun j y hj hy => by
                  by_cases h : j = k
                  · subst h
                    rw [XX.out.1] at hy
                    cases hy
                    exact XX.out.2
                  · exact EE.out j y (by omega) hy⟩, by simp [intOf]; omega⟩
      · obtain rfl : k = len := by omega
        have R : Hid (l.any It.heavy = false) := Lib.hid (by
          rw [List.any_eq_false]
          intro x hx
          obtain ⟨j, hj, rfl⟩ := List.getElem_of_mem hx
          rw [EE.out j _ (by rw [← LEN.out]; exact hj) (List.getElem?_eq_getElem hj)]
          simp)
        go_wp2_with fail
        go_ret
        exact ⟨by rw [R.out]; rfl, rfl⟩

end Go.Proofs.YtgdbpicelnoacaaDoor
