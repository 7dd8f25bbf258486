/- This text proves whether a packet's inputs can be told, over the loaded program. -/
import Derived.Test.YtpidjmgapiekaaaGreatDoorPar
import Derived.Laws.EntriesVeiled
namespace Go.Proofs.YtpidjmgapiekaaaGreatDoor
open Go.RowKit Go.WideShapes
set_option linter.unusedSimpArgs false

theorem isInput_any (n : Int) (w : World) : Calls Tryz.prog 163 #[.int .i64 n] w fun e w' => e = .returned (.bool (within n 0 255)) ∧ w = w' := by
  go_enter Tryz.func163, Tryz.ntmps163
  go_wp2_with fail
  refine (within_any _ _ _ _).mono ?_
  rintro e w1 ⟨rfl, rfl⟩
  go_wp2
  go_ret
  exact ⟨rfl, rfl⟩
theorem noInput_any (n : Int) (cb : Nat) (w : World) (hc : w.cell? ⟨cb, 0, none⟩ = some (.func (.func 163) #[] #[])) : Calls Tryz.prog 165 #[.int .i64 n, .pointer (some ⟨cb, 0, none⟩)] w fun e w' => e = .returned (.bool (!within n 0 255)) ∧ w = w' := by
  go_enter Tryz.func165, Tryz.ntmps165
  go_wp2_with fail
  refine (isInput_any _ _).mono ?_
  rintro e w1 ⟨rfl, rfl⟩
  go_wp2
  go_ret
  exact ⟨rfl, rfl⟩

def noIn (l : List Int) : Bool := l.any fun n => !within n 0 255
set_option maxRecDepth 100000 in
set_option maxHeartbeats 3200000 in
theorem index_any (X : Option Addr) (l : List Int) (c cb : Nat) (w : World) (ha : Cells w X (iv l)) (hl : l.length ≤ 1000000) (hc : w.cell? ⟨cb, 0, none⟩ = some (.func (.func 163) #[] #[])) : Calls Tryz.prog 171 #[.slice X l.length c, .func (.func 165) #[] #[.pointer (some ⟨cb, 0, none⟩)]] w fun e w' => ∃ r : Int, e = .returned (.int .i64 r) ∧ decide (0 ≤ r) = noIn l ∧ w = w' := by
  obtain ⟨len, hlen⟩ : ∃ len, l.length = len := ⟨_, rfl⟩
  rw [hlen] at hl ⊢
  have CA := Lib.hid ha
  have LN := Lib.hid hlen
  have NI := Lib.hid (fun n => noInput_any n cb w hc)
  clear ha hlen hc
  go_enter Tryz.func171, Tryz.ntmps171
  go_wp2_with fail
  go_loop [8] (fun kv => ∃ k : Nat, k ≤ len ∧ kv = .int .i64 k ∧ ∀ x ∈ l.take k, within x 0 255 = true) (fun kv => len - (intOf kv).toNat)
  case atStart => exact ⟨0, Nat.zero_le _, rfl, by simp⟩
  case round =>
    obtain ⟨k, hk, rfl, hE⟩ := hrel
    have EE := Lib.hid hE
    clear hE
    by_cases hlt : k < len
    · obtain ⟨x, hx⟩ : ∃ x, l[k]? = some x := ⟨l[k]'(by rw [LN.out]; exact hlt), by simp [show k < l.length by rw [LN.out]; exact hlt]⟩
      obtain ⟨xb, xo, rfl, hc⟩ := CA.out k (.int .i64 x) (by simp [iv, hx])
      have i0 : (0 : Int) ≤ (k : Int) := by omega
      have i1 : (k : Int) < (len : Int) := by omega
      have XX := Lib.hid hx
      clear hx
      cases hin : within x 0 255 with
      | true =>
        have N := Lib.hid (NI.out x)
        have HI := Lib.hid hin
        rw [hin] at N
        clear hin
        go_wp2_with fail
        refine N.out.mono ?_
        rintro e w1 ⟨rfl, rfl⟩
        go_wp2_with fail
        exact ⟨⟨k + 1, by omega, by go_num, fun y hy => by
          have hkl : k < l.length := by rw [LN.out]; exact hlt
          rw [List.take_succ_eq_append_getElem hkl] at hy
          have h2 := XX.out
          rw [List.getElem?_eq_getElem hkl] at h2
          cases h2
          rcases List.mem_append.1 hy with hy | hy
          · exact EE.out y hy
          · simp at hy; rw [hy]; exact HI.out⟩, by simp [intOf]; omega⟩
      | false =>
        have N := Lib.hid (NI.out x)
        have HI : Hid (noIn l = true) := Lib.hid (by unfold noIn; rw [List.any_eq_true]; exact ⟨x, List.mem_of_getElem? XX.out, by rw [hin]; rfl⟩)
        rw [hin] at N
        clear hin
        go_wp2_with fail
        refine N.out.mono ?_
        rintro e w1 ⟨rfl, rfl⟩
        go_wp2_with fail
        go_ret
        exact ⟨(k : Int), rfl, by rw [HI.out]; simp, rfl⟩
    · obtain rfl : k = len := by omega
      have HI : Hid (noIn l = false) := Lib.hid (by
        unfold noIn
        rw [List.any_eq_false]
        intro x hx
        have := EE.out x (by rw [List.take_of_length_le (by rw [LN.out]; exact Nat.le_refl _)]; exact hx)
        simp [this])
      go_wp2_with fail
      go_ret
      exact ⟨-1, rfl, by rw [HI.out]; rfl, rfl⟩
theorem contains_any (X : Option Addr) (l : List Int) (c cb : Nat) (w : World) (ha : Cells w X (iv l)) (hl : l.length ≤ 1000000) (hc : w.cell? ⟨cb, 0, none⟩ = some (.func (.func 163) #[] #[])) : Calls Tryz.prog 164 #[.slice X l.length c, .func (.func 165) #[] #[.pointer (some ⟨cb, 0, none⟩)]] w fun e w' => e = .returned (.bool (noIn l)) ∧ w = w' := by
  have I := Lib.hid (index_any X l c cb w ha hl hc)
  clear ha hl hc
  go_enter Tryz.func164, Tryz.ntmps164
  go_wp2_with fail
  refine I.out.mono ?_
  rintro e w1 ⟨r, rfl, hr, rfl⟩
  have HR := Lib.hid hr
  clear hr
  go_wp2_with fail
  go_ret
  exact ⟨congrArg (fun b => Ending.returned (.bool b)) HR.out, rfl⟩

/-- Whether inputs can be told. -/
def Par.isIn (p : Par) : Bool := within p.ins.length 1 32 && within p.base 0 255 && within p.frm 1 1073741824 && !noIn p.ins
set_option maxRecDepth 100000 in
set_option maxHeartbeats 3200000 in
theorem isInputs_any (p : Par) (w : World) (h : p.ok w) : Calls Tryz.prog 148 #[p.v] w fun e w' => e = .returned (.bool p.isIn) ∧ Below w.heap.size w w' := by
  obtain ⟨kind, nonce, frm, base, ins, ack, sum, X, c⟩ := p
  have hC := h.2.2.2.2.2.2.2.2
  have hl := h.2.2.2.2.2.2.1
  dsimp only at hC hl
  unfold Par.v Par.isIn
  dsimp only
  obtain ⟨r, hr⟩ : ∃ r, (within (ins.length : Int) 1 32 && within base 0 255 && within frm 1 1073741824 && !noIn ins) = r := ⟨_, rfl⟩
  rw [hr]
  have hbt := below_two w (.cells #[.int .i64 kind, .int .i64 nonce, .int .i64 frm, .int .i64 base, .slice X ins.length c, .int .i64 ack, .int .u64 sum] 57) (.cells #[.func (.func 163) #[] #[]] 214)
  have F0 := Lib.hid hbt
  have hmf : ∀ (fn : Fn) (first cap : Array Value) (w : World), (Instr.makeFunc fn first cap).run Tryz.prog w = .ok (.func fn first cap) w := fun _ _ _ _ => rfl
  have CC := Lib.hid (contains_any X ins c (w.heap.size + 1) _ (hC.below hbt) hl (by
    have e := heap_alloc_new (w.alloc (.cells #[.int .i64 kind, .int .i64 nonce, .int .i64 frm, .int .i64 base, .slice X ins.length c, .int .i64 ack, .int .u64 sum] 57)) (.cells #[.func (.func 163) #[] #[]] 214)
    rw [size_alloc1] at e
    simp only [World.cell?, e]; rfl))
  clear hbt hC hl h
  cases h1 : within (ins.length : Int) 1 32 with
  | false =>
    have R : Hid (r = false) := Lib.hid (by rw [← hr, h1]; rfl)
    have H1 := Lib.hid h1
    clear hr h1
    go_enter Tryz.func148, Tryz.ntmps148
    go_wp2_with fail
    refine (within_any _ _ _ _).mono ?_
    rw [H1.out]
    rintro e w1 ⟨rfl, rfl⟩
    go_wp2_with fail
    go_ret
    exact ⟨by rw [R.out]; rfl, F0.out⟩
  | true =>
    cases h2 : within base 0 255 with
    | false =>
      have R : Hid (r = false) := Lib.hid (by rw [← hr, h1, h2]; rfl)
      have H1 := Lib.hid h1
      have H2 := Lib.hid h2
      clear hr h1 h2
      go_enter Tryz.func148, Tryz.ntmps148
      go_wp2_with fail
      refine (within_any _ _ _ _).mono ?_
      rw [H1.out]
      rintro e w1 ⟨rfl, rfl⟩
      go_wp2_with fail
      refine (isInput_any _ _).mono ?_
      rw [H2.out]
      rintro e w1 ⟨rfl, rfl⟩
      go_wp2_with fail
      go_ret
      exact ⟨by rw [R.out]; rfl, F0.out⟩
    | true =>
      cases h3 : within frm 1 1073741824 with
      | false =>
        have R : Hid (r = false) := Lib.hid (by rw [← hr, h1, h2, h3]; rfl)
        have H1 := Lib.hid h1
        have H2 := Lib.hid h2
        have H3 := Lib.hid h3
        clear hr h1 h2 h3
        go_enter Tryz.func148, Tryz.ntmps148
        go_wp2_with fail
        refine (within_any _ _ _ _).mono ?_
        rw [H1.out]
        rintro e w1 ⟨rfl, rfl⟩
        go_wp2_with fail
        refine (isInput_any _ _).mono ?_
        rw [H2.out]
        rintro e w1 ⟨rfl, rfl⟩
        go_wp2_with fail
        refine (within_any _ _ _ _).mono ?_
        rw [H3.out]
        rintro e w1 ⟨rfl, rfl⟩
        go_wp2_with fail
        go_ret
        exact ⟨by rw [R.out]; rfl, F0.out⟩
      | true =>
        have R : Hid (r = !noIn ins) := Lib.hid (by rw [← hr, h1, h2, h3]; rfl)
        have H1 := Lib.hid h1
        have H2 := Lib.hid h2
        have H3 := Lib.hid h3
        clear hr h1 h2 h3
        go_enter Tryz.func148, Tryz.ntmps148
        go_wp2_with fail
        refine (within_any _ _ _ _).mono ?_
        rw [H1.out]
        rintro e w1 ⟨rfl, rfl⟩
        go_wp2_with fail
        refine (isInput_any _ _).mono ?_
        rw [H2.out]
        rintro e w1 ⟨rfl, rfl⟩
        go_wp2_with fail
        refine (within_any _ _ _ _).mono ?_
        rw [H3.out]
        rintro e w1 ⟨rfl, rfl⟩
        go_wp2_with fail
        refine CC.out.mono ?_
        rintro e w1 ⟨rfl, rfl⟩
        go_wp2_with fail
        go_ret
        exact ⟨by rw [R.out]; rfl, F0.out⟩

end Go.Proofs.YtpidjmgapiekaaaGreatDoor
