/- This text proves the statement QueueExactCardSaid: the law's row, for every input, and its card. No condition. -/
import Derived.Test.YtkpbjahjiajodaaDoorCards
import Derived.Test.YtkpbjahjiajodaaDoorTie
import Derived.Test.YtkpbjahjiajodaaDoorLaid
import Derived.Test.YtkpbjahjiajodaaDoorQX3
import Derived.Test.YtkpbjahjiajodaaDoorApartOf
import Derived.WalkKit
import Derived.ProofKit
import Derived.OpenShut
import Derived.ShutString
import Derived.SliceStrings
import Derived.ChangeOld
import Derived.Below
import Derived.Carry
import Derived.SizedLaws
import Derived.Deep.DeepHandedRow
import Derived.Deep.DeepWitnessRowRef
namespace Go.Proofs.YtkpbjahjiajodaaDoor.queueExact
open Go.ChangeShapes Go.WideShapes Go.ChangeAt Go.RowKit
open Go.ChangeMaps (open_string shut_string)
set_option linter.unusedVariables false
theorem own : ownKnob Tryd.prog.godebug = none := by kernel_rfl
theorem laidOut : laidOutB Tryd.prog = true := by kernel_rfl
/-- What the row's list gives: the errors lie where the program lays them. -/
theorem errs {W : World} (h : laidMetH Tryd.prog Rows.queueExactRow.laid W) : ∃ Ad, Apart 9 W Ad := by
  have h' : laidMet Tryd.prog Rows.queueExactRow.laid W := h
  have e0 : ErrLies W 0 [97, 110, 32, 97, 114, 103, 117, 109, 101, 110, 116, 32, 116, 104, 97, 116, 32, 99, 97, 110, 39, 116, 32, 98, 101] := err_lies h' "pasodoble/api.ErrArg" [97, 110, 32, 97, 114, 103, 117, 109, 101, 110, 116, 32, 116, 104, 97, 116, 32, 99, 97, 110, 39, 116, 32, 98, 101] 0 (by unfold Rows.queueExactRow errD; simp [Rows.laid_pasodoble_api_ErrArg]) (by kernel_rfl) (by kernel_rfl)
  have e1 : ErrLies W 1 [97, 32, 110, 105, 108, 32, 116, 104, 105, 110, 103] := err_lies h' "pasodoble/api.ErrNil" [97, 32, 110, 105, 108, 32, 116, 104, 105, 110, 103] 1 (by unfold Rows.queueExactRow errD; simp [Rows.laid_pasodoble_api_ErrNil]) (by kernel_rfl) (by kernel_rfl)
  have e2 : ErrLies W 2 [110, 111, 116, 32, 110, 111, 119] := err_lies h' "pasodoble/api.ErrState" [110, 111, 116, 32, 110, 111, 119] 2 (by unfold Rows.queueExactRow errD; simp [Rows.laid_pasodoble_api_ErrState]) (by kernel_rfl) (by kernel_rfl)
  have e3 : ErrLies W 3 [116, 104, 101, 114, 101, 32, 97, 108, 114, 101, 97, 100, 121] := err_lies h' "pasodoble/api.ErrTwice" [116, 104, 101, 114, 101, 32, 97, 108, 114, 101, 97, 100, 121] 3 (by unfold Rows.queueExactRow errD; simp [Rows.laid_pasodoble_api_ErrTwice]) (by kernel_rfl) (by kernel_rfl)
  have e4 : ErrLies W 4 [110, 111, 32, 114, 111, 111, 109] := err_lies h' "pasodoble/api.ErrFull" [110, 111, 32, 114, 111, 111, 109] 4 (by unfold Rows.queueExactRow errD; simp [Rows.laid_pasodoble_api_ErrFull]) (by kernel_rfl) (by kernel_rfl)
  have e5 : ErrLies W 5 [116, 104, 101, 114, 101, 32, 105, 115, 32, 110, 111, 110, 101] := err_lies h' "pasodoble/api.ErrNone" [116, 104, 101, 114, 101, 32, 105, 115, 32, 110, 111, 110, 101] 5 (by unfold Rows.queueExactRow errD; simp [Rows.laid_pasodoble_api_ErrNone]) (by kernel_rfl) (by kernel_rfl)
  have e6 : ErrLies W 6 [116, 111, 111, 32, 108, 111, 110, 103] := err_lies h' "pasodoble/api.ErrLong" [116, 111, 111, 32, 108, 111, 110, 103] 6 (by unfold Rows.queueExactRow errD; simp [Rows.laid_pasodoble_api_ErrLong]) (by kernel_rfl) (by kernel_rfl)
  have e7 : ErrLies W 7 [98, 121, 116, 101, 115, 32, 111, 102, 32, 110, 111, 32, 102, 111, 114, 109] := err_lies h' "pasodoble/api.ErrForm" [98, 121, 116, 101, 115, 32, 111, 102, 32, 110, 111, 32, 102, 111, 114, 109] 7 (by unfold Rows.queueExactRow errD; simp [Rows.laid_pasodoble_api_ErrForm]) (by kernel_rfl) (by kernel_rfl)
  have e8 : ErrLies W 8 [97, 110, 111, 116, 104, 101, 114, 32, 115, 117, 109] := err_lies h' "pasodoble/api.ErrSum" [97, 110, 111, 116, 104, 101, 114, 32, 115, 117, 109] 8 (by unfold Rows.queueExactRow errD; simp [Rows.laid_pasodoble_api_ErrSum]) (by kernel_rfl) (by kernel_rfl)
  exact apartOf [[97, 110, 32, 97, 114, 103, 117, 109, 101, 110, 116, 32, 116, 104, 97, 116, 32, 99, 97, 110, 39, 116, 32, 98, 101], [97, 32, 110, 105, 108, 32, 116, 104, 105, 110, 103], [110, 111, 116, 32, 110, 111, 119], [116, 104, 101, 114, 101, 32, 97, 108, 114, 101, 97, 100, 121], [110, 111, 32, 114, 111, 111, 109], [116, 104, 101, 114, 101, 32, 105, 115, 32, 110, 111, 110, 101], [116, 111, 111, 32, 108, 111, 110, 103], [98, 121, 116, 101, 115, 32, 111, 102, 32, 110, 111, 32, 102, 111, 114, 109], [97, 110, 111, 116, 104, 101, 114, 32, 115, 117, 109]] (by decide) (fun j t hj => by
    match j, hj with
    | 0, hj => cases hj; exact e0
    | 1, hj => cases hj; exact e1
    | 2, hj => cases hj; exact e2
    | 3, hj => cases hj; exact e3
    | 4, hj => cases hj; exact e4
    | 5, hj => cases hj; exact e5
    | 6, hj => cases hj; exact e6
    | 7, hj => cases hj; exact e7
    | 8, hj => cases hj; exact e8
    | j + 9, hj => cases hj)
theorem laid_met (os : Os) : laidMet Tryd.prog Rows.queueExactRow.laid ((laidWorld os [(0, [97, 110, 32, 97, 114, 103, 117, 109, 101, 110, 116, 32, 116, 104, 97, 116, 32, 99, 97, 110, 39, 116, 32, 98, 101]), (1, [97, 32, 110, 105, 108, 32, 116, 104, 105, 110, 103]), (2, [110, 111, 116, 32, 110, 111, 119]), (3, [116, 104, 101, 114, 101, 32, 97, 108, 114, 101, 97, 100, 121]), (4, [110, 111, 32, 114, 111, 111, 109]), (5, [116, 104, 101, 114, 101, 32, 105, 115, 32, 110, 111, 110, 101]), (6, [116, 111, 111, 32, 108, 111, 110, 103]), (7, [98, 121, 116, 101, 115, 32, 111, 102, 32, 110, 111, 32, 102, 111, 114, 109]), (8, [97, 110, 111, 116, 104, 101, 114, 32, 115, 117, 109]), (9, [110, 111, 32, 110, 97, 109, 101]), (10, [101, 97, 99, 104, 32, 97, 104, 101, 97, 100, 32, 111, 102, 32, 116, 104, 101, 32, 111, 116, 104, 101, 114]), (11, [116, 111, 111, 32, 108, 105, 116, 116, 108, 101, 32, 111, 114, 32, 116, 111, 111, 32, 109, 117, 99, 104, 32, 111, 110, 32, 97, 32, 115, 116, 97, 99, 107]), (12, [97, 32, 106, 117, 109, 112, 32, 116, 111, 32, 110, 111, 119, 104, 101, 114, 101]), (13, [110, 111, 32, 111, 112, 101, 114, 97, 116, 105, 111, 110]), (14, [110, 111, 32, 102, 117, 101, 108, 32, 108, 101, 102, 116]), (15, [97, 32, 102, 114, 97, 109, 101, 32, 116, 104, 97, 116, 32, 105, 115, 110, 39, 116, 32, 107, 101, 112, 116]), (16, [97, 110, 32, 101, 110, 116, 105, 116, 121, 32, 116, 104, 97, 116, 32, 105, 115, 110, 39, 116, 32, 116, 104, 101, 114, 101]), (17, [110, 111, 32, 119, 111, 114, 100])]).forCall (fun _ _ => 0) ⟨#[], #[.int .i64 0, .slice none 0 0], []⟩).memory :=
  laidMet_of_run' 8 (by kernel_rfl) (by kernel_rfl)
theorem reads (os : Os) {H : Type} (enc : TypeId × Value → H) : ∃ places, DataW.whole enc Tryd.prog ((laidWorld os [(0, [97, 110, 32, 97, 114, 103, 117, 109, 101, 110, 116, 32, 116, 104, 97, 116, 32, 99, 97, 110, 39, 116, 32, 98, 101]), (1, [97, 32, 110, 105, 108, 32, 116, 104, 105, 110, 103]), (2, [110, 111, 116, 32, 110, 111, 119]), (3, [116, 104, 101, 114, 101, 32, 97, 108, 114, 101, 97, 100, 121]), (4, [110, 111, 32, 114, 111, 111, 109]), (5, [116, 104, 101, 114, 101, 32, 105, 115, 32, 110, 111, 110, 101]), (6, [116, 111, 111, 32, 108, 111, 110, 103]), (7, [98, 121, 116, 101, 115, 32, 111, 102, 32, 110, 111, 32, 102, 111, 114, 109]), (8, [97, 110, 111, 116, 104, 101, 114, 32, 115, 117, 109]), (9, [110, 111, 32, 110, 97, 109, 101]), (10, [101, 97, 99, 104, 32, 97, 104, 101, 97, 100, 32, 111, 102, 32, 116, 104, 101, 32, 111, 116, 104, 101, 114]), (11, [116, 111, 111, 32, 108, 105, 116, 116, 108, 101, 32, 111, 114, 32, 116, 111, 111, 32, 109, 117, 99, 104, 32, 111, 110, 32, 97, 32, 115, 116, 97, 99, 107]), (12, [97, 32, 106, 117, 109, 112, 32, 116, 111, 32, 110, 111, 119, 104, 101, 114, 101]), (13, [110, 111, 32, 111, 112, 101, 114, 97, 116, 105, 111, 110]), (14, [110, 111, 32, 102, 117, 101, 108, 32, 108, 101, 102, 116]), (15, [97, 32, 102, 114, 97, 109, 101, 32, 116, 104, 97, 116, 32, 105, 115, 110, 39, 116, 32, 107, 101, 112, 116]), (16, [97, 110, 32, 101, 110, 116, 105, 116, 121, 32, 116, 104, 97, 116, 32, 105, 115, 110, 39, 116, 32, 116, 104, 101, 114, 101]), (17, [110, 111, 32, 119, 111, 114, 100])]).forCall (fun _ _ => 0) ⟨#[], #[.int .i64 0, .slice none 0 0], []⟩).memory Tryd.f11.params.toList Rows.queueExactSpec.vars false (#[.int .i64 0, .slice none 0 0] : Array Value).toList 8 = some ([.lit (.int .i64 0), .nil], [], places) :=
  ⟨[], by kernel_rfl⟩
set_option maxRecDepth 100000 in
theorem lifted (os : Os) (started : os.Started) (H : Type) (enc : TypeId × Value → H) (F : Stop.Interp) :
    ReturnsInHanded {} Tryd.checked os 11 .any ((OpenSpec.ofChange Rows.queueExactSpec).preRow enc Tryd.prog Tryd.f11 Rows.queueExactRow.domain false Rows.queueExactRow.laid) (((OpenSpec.ofChange Rows.queueExactSpec).at F).post enc Tryd.prog Tryd.f11 false true false false) := by
  obtain ⟨places, hx⟩ := reads os enc
  refine returnsInHanded_of_row (C := Tryd.checked) (s := OpenSpec.ofChange Rows.queueExactSpec) own started (by kernel_rfl) Tryd.func11
    (witness_row_atRef (enc := enc) (C := Tryd.checked) false (laidWorld os [(0, [97, 110, 32, 97, 114, 103, 117, 109, 101, 110, 116, 32, 116, 104, 97, 116, 32, 99, 97, 110, 39, 116, 32, 98, 101]), (1, [97, 32, 110, 105, 108, 32, 116, 104, 105, 110, 103]), (2, [110, 111, 116, 32, 110, 111, 119]), (3, [116, 104, 101, 114, 101, 32, 97, 108, 114, 101, 97, 100, 121]), (4, [110, 111, 32, 114, 111, 111, 109]), (5, [116, 104, 101, 114, 101, 32, 105, 115, 32, 110, 111, 110, 101]), (6, [116, 111, 111, 32, 108, 111, 110, 103]), (7, [98, 121, 116, 101, 115, 32, 111, 102, 32, 110, 111, 32, 102, 111, 114, 109]), (8, [97, 110, 111, 116, 104, 101, 114, 32, 115, 117, 109]), (9, [110, 111, 32, 110, 97, 109, 101]), (10, [101, 97, 99, 104, 32, 97, 104, 101, 97, 100, 32, 111, 102, 32, 116, 104, 101, 32, 111, 116, 104, 101, 114]), (11, [116, 111, 111, 32, 108, 105, 116, 116, 108, 101, 32, 111, 114, 32, 116, 111, 111, 32, 109, 117, 99, 104, 32, 111, 110, 32, 97, 32, 115, 116, 97, 99, 107]), (12, [97, 32, 106, 117, 109, 112, 32, 116, 111, 32, 110, 111, 119, 104, 101, 114, 101]), (13, [110, 111, 32, 111, 112, 101, 114, 97, 116, 105, 111, 110]), (14, [110, 111, 32, 102, 117, 101, 108, 32, 108, 101, 102, 116]), (15, [97, 32, 102, 114, 97, 109, 101, 32, 116, 104, 97, 116, 32, 105, 115, 110, 39, 116, 32, 107, 101, 112, 116]), (16, [97, 110, 32, 101, 110, 116, 105, 116, 121, 32, 116, 104, 97, 116, 32, 105, 115, 110, 39, 116, 32, 116, 104, 101, 114, 101]), (17, [110, 111, 32, 119, 111, 114, 100])]) #[.int .i64 0, .slice none 0 0] rfl (by kernel_rfl) (by kernel_rfl) (by kernel_rfl)
      (OpenSpec.preRow_of_cond 8 hx (by kernel_rfl) (fun k hk => by cases hk) (by kernel_rfl) (laid_met os))) ?_
  intro W base args ds gs before hval0 hW _ _ hsz0 hL _ _
  have hsz : (DataW.weightsEach Tryd.prog (Tryd.f11.params.toList ++ Rows.queueExactSpec.plain.varTypes Tryd.prog) (ds ++ gs)).all (· ≤ reachBytes) = true := hsz0
  have hval : ∀ (j : Nat) t v, Tryd.f11.params[j]? = some t → args[j]? = some v → Value.okWide Tryd.prog W .any base t v := hval0
  have hW' := hW
  obtain ⟨p, q, hA0, hV, rfl, hfz, hnd⟩ := hW
  have hA : DataW.TrodAll enc Tryd.prog W 0 (fun _ => true) true Tryd.f11.params.toList args.toList ds p := hA0
  rw [Tryd.params11] at hA hval hsz
  obtain ⟨v0, vs0, d0, ds0, p0, q0, hargs, rfl, rfl, h0, r0⟩ := trodAll_cons hA
  obtain ⟨v1, vs1, d1, ds1, p1, q1, rfl, rfl, rfl, h1, r1⟩ := trodAll_cons r0
  obtain ⟨rfl, rfl, rfl⟩ := trodAll_nil r1
  obtain rfl : args = #[v0, v1] := by cases args; simp_all
  obtain ⟨rfl, rfl⟩ := trodVars_none hV
  obtain ⟨a0, rfl, rfl, rfl, w0⟩ := open_int Tryd.underlying3 (hval 0 3 v0 rfl rfl) h0
  obtain ⟨a1, len1, cap1, rfl⟩ := okWide_slice Tryd.underlying80 (hval 1 80 v1 rfl rfl)
  have k1 := h1
  have lt1 : ∀ x ∈ p1, x.block < W.heap.size := by obtain ⟨m, hm⟩ := k1; exact DataW.trod_lt m _ _ _ hm
  obtain ⟨z1, rfl, w1⟩ := open_qacts (reads_of_trod k1 rfl)
  clear hA0 hval0 hsz0 hsz
  obtain ⟨Ad, hG⟩ := errs hL
  refine (qexact_any W Ad hG a0 w0 a1 cap1 z1 w1).mono fun e W' ⟨he, bel⟩ => ?_
  subst he
  exact ⟨_, rfl, _, _, _, [], _, [], hW', trodAll_mk1 (shut_bool Tryd.underlying4 _), (trodAll_cons_mk (shut_int Tryd.underlying3 w0) (trodAll_cons_mk (Below.trod laidOut (by kernel_rfl) (of_decide_eq_true (by kernel_rfl)) k1 bel lt1) trodAll_mk0)), rfl, bel.frame _, fun h => by cases h⟩
theorem said : Rows.QueueExactSaid :=
  OpenClaim.holds_of_cond 11 Tryd.f11 rfl rfl rfl rfl rfl rfl rfl ⟨rfl, rfl, rfl, rfl, rfl⟩ rfl rfl rfl rfl rfl (by kernel_rfl) Tryd.func11 (by kernel_rfl)
    (of_decide_eq_true (by kernel_rfl)) (by unfold Func.isWrapper; first | (rw [if_pos (by decide +kernel)]; kernel_rfl) | (rw [if_neg (by decide +kernel)]; exact ⟨rfl, rfl⟩))
    (fun os started H enc _ F => by rw [OpenClaim.pre_eq_preRow]; exact lifted os started H enc F)
/-- No parameter wants a stand-in; the program's own looks are off. -/
theorem plain (f : FuncId) (fn : Func) (hf : Tryd.pinned.checked.prog.funcNamed "pasodoble/pasodoblelaw23.QueueExact" = some f) (hfn : Tryd.pinned.checked.prog.funcs[f]? = some fn) :
    true = Tryd.pinned.checked.prog.looks [] ∧ ∀ (j : Nat) t, fn.params[j]? = some t → Tryd.pinned.checked.prog.wantsStandIn t = false := by
  obtain rfl : f = 11 := Option.some.inj ((show Tryd.prog.funcNamed "pasodoble/pasodoblelaw23.QueueExact" = some 11 by kernel_rfl).symm.trans hf) |>.symm
  obtain rfl : fn = Tryd.f11 := (Option.some.inj (Tryd.func11.symm.trans hfn)).symm
  refine ⟨by kernel_rfl, fun j t ht => ?_⟩
  rw [Tryd.params11] at ht
  have hm := Array.mem_of_getElem? ht
  simp only [List.mem_toArray, List.mem_cons, List.not_mem_nil, or_false] at hm
  have all : ∀ t ∈ [3, 80], Tryd.prog.wantsStandIn t = false := by
    intro t h; simp only [List.mem_cons, List.not_mem_nil, or_false] at h
    rcases h with rfl | rfl
    · kernel_rfl
    · kernel_rfl
  rcases hm with rfl | rfl <;> exact all _ (by simp)
end Go.Proofs.YtkpbjahjiajodaaDoor.queueExact
namespace Go.Proofs.YtkpbjahjiajodaaDoor
theorem queueExact_card_holds : Rows.QueueExactCardSaid :=
  Claim7.holds_tied_plain_at .later [] _ _ _ _ queueExact.said (fun _ h => by cases h) (by kernel_rfl) (fun _ h => by cases h) queueExact_row_tie rfl ⟨rfl, rfl⟩ (by kernel_rfl) rfl queueExact.plain (by kernel_rfl)
#print axioms queueExact_card_holds
end Go.Proofs.YtkpbjahjiajodaaDoor
