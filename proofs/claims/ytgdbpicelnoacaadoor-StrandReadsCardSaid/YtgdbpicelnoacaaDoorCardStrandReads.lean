/- This text proves the statement StrandReadsCardSaid: the law's row, for every input, and its card. No condition. -/
import Derived.Test.YtgdbpicelnoacaaDoorCards
import Derived.Test.YtgdbpicelnoacaaDoorTie
import Derived.Test.YtgdbpicelnoacaaDoorLaid
import Derived.Test.YtgdbpicelnoacaaDoorReads
import Derived.Test.YtgdbpicelnoacaaDoorOpenItems
import Derived.WalkKit
import Derived.ProofKit
import Derived.OpenShut
import Derived.ShutString
import Derived.SliceStrings
import Derived.ChangeOld
import Derived.Below
import Derived.Carry
import Derived.SizedLaws
import Derived.Deep.DeepHandedRow
import Derived.Deep.DeepWitnessRowRef
namespace Go.Proofs.YtgdbpicelnoacaaDoor.strandReads
open Go.ChangeShapes Go.WideShapes Go.ChangeAt Go.RowKit
open Go.ChangeMaps (open_string shut_string)
set_option linter.unusedVariables false
theorem own : ownKnob Tryd.prog.godebug = none := by kernel_rfl
theorem laidOut : laidOutB Tryd.prog = true := by kernel_rfl
/-- What the row's list gives: the errors lie where the program lays them. -/
theorem errs {W : World} (h : laidMetH Tryd.prog Rows.strandReadsRow.laid W) : ∃ Ad, Glob W Ad := by
  have h' : laidMet Tryd.prog Rows.strandReadsRow.laid W := h
  have look : ∀ j, (∃ text, ErrLies W j text) → ∃ a, W.cell? ⟨j, 0, none⟩ = some (.iface 139 (.pointer (some a))) := fun j ⟨_, a, _, h, _⟩ => ⟨a, h⟩
  obtain ⟨a0, h0⟩ := look 0 ⟨_, err_lies h' "pasodoble/api.ErrForm" [98, 121, 116, 101, 115, 32, 111, 102, 32, 110, 111, 32, 102, 111, 114, 109] 0 (by unfold Rows.strandReadsRow errD; simp [Rows.laid_pasodoble_api_ErrForm]) (by kernel_rfl) (by kernel_rfl)⟩
  obtain ⟨a1, h1⟩ := look 1 ⟨_, err_lies h' "pasodoble/api.ErrArg" [97, 110, 32, 97, 114, 103, 117, 109, 101, 110, 116, 32, 116, 104, 97, 116, 32, 99, 97, 110, 39, 116, 32, 98, 101] 1 (by unfold Rows.strandReadsRow errD; simp [Rows.laid_pasodoble_api_ErrArg]) (by kernel_rfl) (by kernel_rfl)⟩
  obtain ⟨a2, h2⟩ := look 2 ⟨_, err_lies h' "pasodoble/api.ErrLong" [116, 111, 111, 32, 108, 111, 110, 103] 2 (by unfold Rows.strandReadsRow errD; simp [Rows.laid_pasodoble_api_ErrLong]) (by kernel_rfl) (by kernel_rfl)⟩
  obtain ⟨a3, h3⟩ := look 3 ⟨_, err_lies h' "pasodoble/api.ErrNil" [97, 32, 110, 105, 108, 32, 116, 104, 105, 110, 103] 3 (by unfold Rows.strandReadsRow errD; simp [Rows.laid_pasodoble_api_ErrNil]) (by kernel_rfl) (by kernel_rfl)⟩
  exact globOf h0 h1 h2 h3
theorem laid_met (os : Os) : laidMet Tryd.prog Rows.strandReadsRow.laid ((laidWorld os [(0, [98, 121, 116, 101, 115, 32, 111, 102, 32, 110, 111, 32, 102, 111, 114, 109]), (1, [97, 110, 32, 97, 114, 103, 117, 109, 101, 110, 116, 32, 116, 104, 97, 116, 32, 99, 97, 110, 39, 116, 32, 98, 101]), (2, [116, 111, 111, 32, 108, 111, 110, 103]), (3, [97, 32, 110, 105, 108, 32, 116, 104, 105, 110, 103])]).forCall (fun _ _ => 0) ⟨#[], #[.string ByteArray.empty, .slice none 0 0], []⟩).memory :=
  laidMet_of_run' 8 (by kernel_rfl) (by kernel_rfl)
theorem reads (os : Os) {H : Type} (enc : TypeId × Value → H) : ∃ places, DataW.whole enc Tryd.prog ((laidWorld os [(0, [98, 121, 116, 101, 115, 32, 111, 102, 32, 110, 111, 32, 102, 111, 114, 109]), (1, [97, 110, 32, 97, 114, 103, 117, 109, 101, 110, 116, 32, 116, 104, 97, 116, 32, 99, 97, 110, 39, 116, 32, 98, 101]), (2, [116, 111, 111, 32, 108, 111, 110, 103]), (3, [97, 32, 110, 105, 108, 32, 116, 104, 105, 110, 103])]).forCall (fun _ _ => 0) ⟨#[], #[.string ByteArray.empty, .slice none 0 0], []⟩).memory Tryd.f4.params.toList Rows.strandReadsSpec.vars false (#[.string ByteArray.empty, .slice none 0 0] : Array Value).toList 8 = some ([.lit (.string []), .nil], [], places) :=
  ⟨[], by kernel_rfl⟩
set_option maxRecDepth 100000 in
theorem lifted (os : Os) (started : os.Started) (H : Type) (enc : TypeId × Value → H) (F : Stop.Interp) :
    ReturnsInHanded {} Tryd.checked os 4 .any ((OpenSpec.ofChange Rows.strandReadsSpec).preRow enc Tryd.prog Tryd.f4 Rows.strandReadsRow.domain false Rows.strandReadsRow.laid) (((OpenSpec.ofChange Rows.strandReadsSpec).at F).post enc Tryd.prog Tryd.f4 false true false false) := by
  obtain ⟨places, hx⟩ := reads os enc
  refine returnsInHanded_of_row (C := Tryd.checked) (s := OpenSpec.ofChange Rows.strandReadsSpec) own started (by kernel_rfl) Tryd.func4
    (witness_row_atRef (enc := enc) (C := Tryd.checked) false (laidWorld os [(0, [98, 121, 116, 101, 115, 32, 111, 102, 32, 110, 111, 32, 102, 111, 114, 109]), (1, [97, 110, 32, 97, 114, 103, 117, 109, 101, 110, 116, 32, 116, 104, 97, 116, 32, 99, 97, 110, 39, 116, 32, 98, 101]), (2, [116, 111, 111, 32, 108, 111, 110, 103]), (3, [97, 32, 110, 105, 108, 32, 116, 104, 105, 110, 103])]) #[.string ByteArray.empty, .slice none 0 0] rfl (by kernel_rfl) (by kernel_rfl) (by kernel_rfl)
      (OpenSpec.preRow_of_cond 8 hx (by kernel_rfl) (fun k hk => by cases hk) (by kernel_rfl) (laid_met os))) ?_
  intro W base args ds gs before hval0 hW _ _ hsz0 hL _ _
  have hsz : (DataW.weightsEach Tryd.prog (Tryd.f4.params.toList ++ Rows.strandReadsSpec.plain.varTypes Tryd.prog) (ds ++ gs)).all (· ≤ reachBytes) = true := hsz0
  have hval : ∀ (j : Nat) t v, Tryd.f4.params[j]? = some t → args[j]? = some v → Value.okWide Tryd.prog W .any base t v := hval0
  have hW' := hW
  obtain ⟨p, q, hA0, hV, rfl, hfz, hnd⟩ := hW
  have hA : DataW.TrodAll enc Tryd.prog W 0 (fun _ => true) true Tryd.f4.params.toList args.toList ds p := hA0
  rw [Tryd.params4] at hA hval hsz
  obtain ⟨v0, vs0, d0, ds0, p0, q0, hargs, rfl, rfl, h0, r0⟩ := trodAll_cons hA
  obtain ⟨v1, vs1, d1, ds1, p1, q1, rfl, rfl, rfl, h1, r1⟩ := trodAll_cons r0
  obtain ⟨rfl, rfl, rfl⟩ := trodAll_nil r1
  obtain rfl : args = #[v0, v1] := by cases args; simp_all
  obtain ⟨rfl, rfl⟩ := trodVars_none hV
  obtain ⟨a0, rfl, rfl, rfl, y0⟩ := open_string Tryd.underlying9 (hval 0 9 v0 rfl rfl) h0
  have w0 : a0.size ≤ 140737488351232 := by
    have z := sized_string hsz (j := 0) (t := 9) rfl rfl
    rw [Array.length_toList] at z
    exact z
  obtain ⟨a1, len1, cap1, rfl⟩ := okWide_slice Tryd.underlying22 (hval 1 22 v1 rfl rfl)
  have k1 := h1
  have lt1 : ∀ x ∈ p1, x.block < W.heap.size := by obtain ⟨m, hm⟩ := k1; exact DataW.trod_lt m _ _ _ hm
  obtain ⟨z1, rfl, w1⟩ := open_items (reads_of_trod k1 rfl)
  clear hA0 hval0 hsz0 hsz
  obtain ⟨Ad, hG⟩ := errs hL
  refine (reads_any W Ad hG a0 (by simp only [maxLen]; omega) a1 z1 cap1 w1).mono fun e W' ⟨he, bel⟩ => ?_
  subst he
  exact ⟨_, rfl, _, _, _, [], _, [], hW', trodAll_mk1 (shut_bool Tryd.underlying4 _), (trodAll_cons_mk (shut_string Tryd.underlying9 y0) (trodAll_cons_mk (Below.trod laidOut (by kernel_rfl) (of_decide_eq_true (by kernel_rfl)) k1 bel lt1) trodAll_mk0)), rfl, bel.frame _, fun h => by cases h⟩
theorem said : Rows.StrandReadsSaid :=
  OpenClaim.holds_of_cond 4 Tryd.f4 rfl rfl rfl rfl rfl rfl rfl ⟨rfl, rfl, rfl, rfl, rfl⟩ rfl rfl rfl rfl rfl (by kernel_rfl) Tryd.func4 (by kernel_rfl)
    (of_decide_eq_true (by kernel_rfl)) (by unfold Func.isWrapper; first | (rw [if_pos (by decide +kernel)]; kernel_rfl) | (rw [if_neg (by decide +kernel)]; exact ⟨rfl, rfl⟩))
    (fun os started H enc _ F => by rw [OpenClaim.pre_eq_preRow]; exact lifted os started H enc F)
/-- No parameter wants a stand-in; the program's own looks are off. -/
theorem plain (f : FuncId) (fn : Func) (hf : Tryd.pinned.checked.prog.funcNamed "pasodoble/pasodoblelaw02.StrandReads" = some f) (hfn : Tryd.pinned.checked.prog.funcs[f]? = some fn) :
    true = Tryd.pinned.checked.prog.looks [] ∧ ∀ (j : Nat) t, fn.params[j]? = some t → Tryd.pinned.checked.prog.wantsStandIn t = false := by
  obtain rfl : f = 4 := Option.some.inj ((show Tryd.prog.funcNamed "pasodoble/pasodoblelaw02.StrandReads" = some 4 by kernel_rfl).symm.trans hf) |>.symm
  obtain rfl : fn = Tryd.f4 := (Option.some.inj (Tryd.func4.symm.trans hfn)).symm
  refine ⟨by kernel_rfl, fun j t ht => ?_⟩
  rw [Tryd.params4] at ht
  have hm := Array.mem_of_getElem? ht
  simp only [List.mem_toArray, List.mem_cons, List.not_mem_nil, or_false] at hm
  have all : ∀ t ∈ [9, 22], Tryd.prog.wantsStandIn t = false := by
    intro t h; simp only [List.mem_cons, List.not_mem_nil, or_false] at h
    rcases h with rfl | rfl
    · kernel_rfl
    · kernel_rfl
  rcases hm with rfl | rfl <;> exact all _ (by simp)
end Go.Proofs.YtgdbpicelnoacaaDoor.strandReads
namespace Go.Proofs.YtgdbpicelnoacaaDoor
theorem strandReads_card_holds : Rows.StrandReadsCardSaid :=
  Claim7.holds_tied_plain_at .later [] _ _ _ _ strandReads.said (fun _ h => by cases h) (by kernel_rfl) (fun _ h => by cases h) strandReads_row_tie rfl ⟨rfl, rfl⟩ (by kernel_rfl) rfl strandReads.plain (by kernel_rfl)
#print axioms strandReads_card_holds
end Go.Proofs.YtgdbpicelnoacaaDoor
