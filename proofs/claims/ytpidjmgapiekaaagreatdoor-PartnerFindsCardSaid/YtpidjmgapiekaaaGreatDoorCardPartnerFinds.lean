/- This text proves the statement PartnerFindsCardSaid: the law's row, for every input, and its card. No condition. -/
import Derived.Test.YtpidjmgapiekaaaGreatDoorCards
import Derived.Test.YtpidjmgapiekaaaGreatDoorTie
import Derived.Test.YtpidjmgapiekaaaGreatDoorOpenLay
import Derived.Test.YtpidjmgapiekaaaGreatDoorFinds
import Derived.WalkKit
import Derived.ProofKit
import Derived.OpenShut
import Derived.ShutString
import Derived.SliceStrings
import Derived.ChangeOld
import Derived.Below
import Derived.Carry
import Derived.SizedLaws
import Derived.Deep.DeepHandedRow
import Derived.Deep.DeepWitnessRowRef
namespace Go.Proofs.YtpidjmgapiekaaaGreatDoor.partnerFinds
open Go.ChangeShapes Go.WideShapes Go.ChangeAt Go.RowKit
open Go.ChangeMaps (open_string shut_string)
set_option linter.unusedVariables false
theorem own : ownKnob Tryz.prog.godebug = none := by kernel_rfl
theorem laidOut : laidOutB Tryz.prog = true := by kernel_rfl
/-- What the row's list gives: the errors lie where the program lays them. -/
theorem errs {W : World} (h : laidMetH Tryz.prog Rows.partnerFindsRow.laid W) : ∃ Ad bS, s_Apart 5 W Ad ∧ W.cell? ⟨2, 0, none⟩ = some (.iface 221 (.pointer (some bS))) := by
  have h' : laidMet Tryz.prog Rows.partnerFindsRow.laid W := h
  have e0 : ErrLies W 0 [97, 32, 110, 105, 108, 32, 116, 104, 105, 110, 103] := err_lies h' "pasodoble/api.ErrNil" [97, 32, 110, 105, 108, 32, 116, 104, 105, 110, 103] 0 (by unfold Rows.partnerFindsRow errD; simp [Rows.laid_pasodoble_api_ErrNil]) (by kernel_rfl) (by kernel_rfl)
  have e1 : ErrLies W 1 [97, 110, 32, 97, 114, 103, 117, 109, 101, 110, 116, 32, 116, 104, 97, 116, 32, 99, 97, 110, 39, 116, 32, 98, 101] := err_lies h' "pasodoble/api.ErrArg" [97, 110, 32, 97, 114, 103, 117, 109, 101, 110, 116, 32, 116, 104, 97, 116, 32, 99, 97, 110, 39, 116, 32, 98, 101] 1 (by unfold Rows.partnerFindsRow errD; simp [Rows.laid_pasodoble_api_ErrArg]) (by kernel_rfl) (by kernel_rfl)
  have e2 : ErrLies W 2 [110, 111, 116, 32, 110, 111, 119] := err_lies h' "pasodoble/api.ErrState" [110, 111, 116, 32, 110, 111, 119] 2 (by unfold Rows.partnerFindsRow errD; simp [Rows.laid_pasodoble_api_ErrState]) (by kernel_rfl) (by kernel_rfl)
  have e3 : ErrLies W 3 [116, 111, 111, 32, 108, 111, 110, 103] := err_lies h' "pasodoble/api.ErrLong" [116, 111, 111, 32, 108, 111, 110, 103] 3 (by unfold Rows.partnerFindsRow errD; simp [Rows.laid_pasodoble_api_ErrLong]) (by kernel_rfl) (by kernel_rfl)
  have e4 : ErrLies W 4 [98, 121, 116, 101, 115, 32, 111, 102, 32, 110, 111, 32, 102, 111, 114, 109] := err_lies h' "pasodoble/api.ErrForm" [98, 121, 116, 101, 115, 32, 111, 102, 32, 110, 111, 32, 102, 111, 114, 109] 4 (by unfold Rows.partnerFindsRow errD; simp [Rows.laid_pasodoble_api_ErrForm]) (by kernel_rfl) (by kernel_rfl)
  have e5 : ErrLies W 5 [97, 110, 111, 116, 104, 101, 114, 32, 115, 117, 109] := err_lies h' "pasodoble/api.ErrSum" [97, 110, 111, 116, 104, 101, 114, 32, 115, 117, 109] 5 (by unfold Rows.partnerFindsRow errD; simp [Rows.laid_pasodoble_api_ErrSum]) (by kernel_rfl) (by kernel_rfl)
  have e6 : ErrLies W 6 [110, 111, 32, 114, 111, 111, 109] := err_lies h' "pasodoble/api.ErrFull" [110, 111, 32, 114, 111, 111, 109] 6 (by unfold Rows.partnerFindsRow errD; simp [Rows.laid_pasodoble_api_ErrFull]) (by kernel_rfl) (by kernel_rfl)
  have e7 : ErrLies W 7 [116, 104, 101, 114, 101, 32, 97, 108, 114, 101, 97, 100, 121] := err_lies h' "pasodoble/api.ErrTwice" [116, 104, 101, 114, 101, 32, 97, 108, 114, 101, 97, 100, 121] 7 (by unfold Rows.partnerFindsRow errD; simp [Rows.laid_pasodoble_api_ErrTwice]) (by kernel_rfl) (by kernel_rfl)
  obtain ⟨Ad, hA⟩ := s_apartOf [[98, 121, 116, 101, 115, 32, 111, 102, 32, 110, 111, 32, 102, 111, 114, 109], [97, 110, 32, 97, 114, 103, 117, 109, 101, 110, 116, 32, 116, 104, 97, 116, 32, 99, 97, 110, 39, 116, 32, 98, 101], [116, 111, 111, 32, 108, 111, 110, 103], [97, 32, 110, 105, 108, 32, 116, 104, 105, 110, 103], [97, 110, 111, 116, 104, 101, 114, 32, 115, 117, 109]] (by decide) (fun j t hj => by
    match j, hj with
    | 0, hj => cases hj; exact e4
    | 1, hj => cases hj; exact e1
    | 2, hj => cases hj; exact e3
    | 3, hj => cases hj; exact e0
    | 4, hj => cases hj; exact e5
    | j + 5, hj => cases hj)
  obtain ⟨bS, _, hS, _⟩ := e2
  exact ⟨Ad, bS, hA, hS⟩
theorem laid_met (os : Os) : laidMet Tryz.prog Rows.partnerFindsRow.laid ((laidWorld os [(1, [97, 110, 32, 97, 114, 103, 117, 109, 101, 110, 116, 32, 116, 104, 97, 116, 32, 99, 97, 110, 39, 116, 32, 98, 101]), (0, [97, 32, 110, 105, 108, 32, 116, 104, 105, 110, 103]), (4, [98, 121, 116, 101, 115, 32, 111, 102, 32, 110, 111, 32, 102, 111, 114, 109]), (3, [116, 111, 111, 32, 108, 111, 110, 103]), (5, [97, 110, 111, 116, 104, 101, 114, 32, 115, 117, 109]), (6, [110, 111, 32, 114, 111, 111, 109]), (2, [110, 111, 116, 32, 110, 111, 119]), (7, [116, 104, 101, 114, 101, 32, 97, 108, 114, 101, 97, 100, 121])]).forCall (fun _ _ => 0) ⟨#[], #[.agg #[.int .i64 0, .int .i64 0, .int .i64 0, .int .i64 0, .int .i64 0, .int .i64 0]], []⟩).memory :=
  laidMet_of_run' 8 (by kernel_rfl) (by kernel_rfl)
theorem reads (os : Os) {H : Type} (enc : TypeId × Value → H) : ∃ places, DataW.whole enc Tryz.prog ((laidWorld os [(1, [97, 110, 32, 97, 114, 103, 117, 109, 101, 110, 116, 32, 116, 104, 97, 116, 32, 99, 97, 110, 39, 116, 32, 98, 101]), (0, [97, 32, 110, 105, 108, 32, 116, 104, 105, 110, 103]), (4, [98, 121, 116, 101, 115, 32, 111, 102, 32, 110, 111, 32, 102, 111, 114, 109]), (3, [116, 111, 111, 32, 108, 111, 110, 103]), (5, [97, 110, 111, 116, 104, 101, 114, 32, 115, 117, 109]), (6, [110, 111, 32, 114, 111, 111, 109]), (2, [110, 111, 116, 32, 110, 111, 119]), (7, [116, 104, 101, 114, 101, 32, 97, 108, 114, 101, 97, 100, 121])]).forCall (fun _ _ => 0) ⟨#[], #[.agg #[.int .i64 0, .int .i64 0, .int .i64 0, .int .i64 0, .int .i64 0, .int .i64 0]], []⟩).memory Tryz.f5.params.toList Rows.partnerFindsSpec.vars false (#[.agg #[.int .i64 0, .int .i64 0, .int .i64 0, .int .i64 0, .int .i64 0, .int .i64 0]] : Array Value).toList 8 = some ([.agg [.lit (.int .i64 0), .lit (.int .i64 0), .lit (.int .i64 0), .lit (.int .i64 0), .lit (.int .i64 0), .lit (.int .i64 0)]], [], places) :=
  ⟨[], by kernel_rfl⟩
set_option maxRecDepth 100000 in
theorem lifted (os : Os) (started : os.Started) (H : Type) (enc : TypeId × Value → H) (F : Stop.Interp) :
    ReturnsInHanded {} Tryz.checked os 5 .any ((OpenSpec.ofChange Rows.partnerFindsSpec).preRow enc Tryz.prog Tryz.f5 Rows.partnerFindsRow.domain false Rows.partnerFindsRow.laid) (((OpenSpec.ofChange Rows.partnerFindsSpec).at F).post enc Tryz.prog Tryz.f5 false true false false) := by
  obtain ⟨places, hx⟩ := reads os enc
  refine returnsInHanded_of_row (C := Tryz.checked) (s := OpenSpec.ofChange Rows.partnerFindsSpec) own started (by kernel_rfl) Tryz.func5
    (witness_row_atRef (enc := enc) (C := Tryz.checked) false (laidWorld os [(1, [97, 110, 32, 97, 114, 103, 117, 109, 101, 110, 116, 32, 116, 104, 97, 116, 32, 99, 97, 110, 39, 116, 32, 98, 101]), (0, [97, 32, 110, 105, 108, 32, 116, 104, 105, 110, 103]), (4, [98, 121, 116, 101, 115, 32, 111, 102, 32, 110, 111, 32, 102, 111, 114, 109]), (3, [116, 111, 111, 32, 108, 111, 110, 103]), (5, [97, 110, 111, 116, 104, 101, 114, 32, 115, 117, 109]), (6, [110, 111, 32, 114, 111, 111, 109]), (2, [110, 111, 116, 32, 110, 111, 119]), (7, [116, 104, 101, 114, 101, 32, 97, 108, 114, 101, 97, 100, 121])]) #[.agg #[.int .i64 0, .int .i64 0, .int .i64 0, .int .i64 0, .int .i64 0, .int .i64 0]] rfl (by kernel_rfl) (by kernel_rfl) (by kernel_rfl)
      (OpenSpec.preRow_of_cond 8 hx (by kernel_rfl) (fun k hk => by cases hk) (by kernel_rfl) (laid_met os))) ?_
  intro W base args ds gs before hval0 hW _ _ hsz0 hL _ _
  have hsz : (DataW.weightsEach Tryz.prog (Tryz.f5.params.toList ++ Rows.partnerFindsSpec.plain.varTypes Tryz.prog) (ds ++ gs)).all (· ≤ reachBytes) = true := hsz0
  have hval : ∀ (j : Nat) t v, Tryz.f5.params[j]? = some t → args[j]? = some v → Value.okWide Tryz.prog W .any base t v := hval0
  have hW' := hW
  obtain ⟨p, q, hA0, hV, rfl, hfz, hnd⟩ := hW
  have hA : DataW.TrodAll enc Tryz.prog W 0 (fun _ => true) true Tryz.f5.params.toList args.toList ds p := hA0
  rw [Tryz.params5] at hA hval hsz
  obtain ⟨v0, vs0, d0, ds0, p0, q0, hargs, rfl, rfl, h0, r0⟩ := trodAll_cons hA
  obtain ⟨rfl, rfl, rfl⟩ := trodAll_nil r0
  obtain rfl : args = #[v0] := by cases args; simp_all
  obtain ⟨rfl, rfl⟩ := trodVars_none hV
  have k0 := h0
  have lt0 : ∀ x ∈ p0, x.block < W.heap.size := by obtain ⟨m, hm⟩ := k0; exact DataW.trod_lt m _ _ _ hm
  obtain ⟨x0_0, x0_1, x0_2, x0_3, x0_4, x0_5, rfl⟩ := open_arr6 (okWide_arr Tryz.underlying22 (hval 0 22 v0 rfl rfl)) k0
  clear hA0 hval0 hsz0 hsz
  obtain ⟨Ad, bS, hA, hS⟩ := errs hL
  refine (finds_any W hA hS x0_0 x0_1 x0_2 x0_3 x0_4 x0_5).mono fun e W' ⟨he, bel⟩ => ?_
  subst he
  exact ⟨_, rfl, _, _, _, [], _, [], hW', trodAll_mk1 (shut_bool Tryz.underlying4 _), (trodAll_cons_mk (Below.trod laidOut (by kernel_rfl) (of_decide_eq_true (by kernel_rfl)) k0 bel lt0) trodAll_mk0), rfl, bel.frame _, fun h => by cases h⟩
theorem said : Rows.PartnerFindsSaid :=
  OpenClaim.holds_of_cond 5 Tryz.f5 rfl rfl rfl rfl rfl rfl rfl ⟨rfl, rfl, rfl, rfl, rfl⟩ rfl rfl rfl rfl rfl (by kernel_rfl) Tryz.func5 (by kernel_rfl)
    (of_decide_eq_true (by kernel_rfl)) (by unfold Func.isWrapper; first | (rw [if_pos (by decide +kernel)]; kernel_rfl) | (rw [if_neg (by decide +kernel)]; exact ⟨rfl, rfl⟩))
    (fun os started H enc _ F => by rw [OpenClaim.pre_eq_preRow]; exact lifted os started H enc F)
/-- No parameter wants a stand-in; the program's own looks are off. -/
theorem plain (f : FuncId) (fn : Func) (hf : Tryz.pinned.checked.prog.funcNamed "pasodoble/pasodoblelaw26.PartnerFinds" = some f) (hfn : Tryz.pinned.checked.prog.funcs[f]? = some fn) :
    true = Tryz.pinned.checked.prog.looks [] ∧ ∀ (j : Nat) t, fn.params[j]? = some t → Tryz.pinned.checked.prog.wantsStandIn t = false := by
  obtain rfl : f = 5 := Option.some.inj ((show Tryz.prog.funcNamed "pasodoble/pasodoblelaw26.PartnerFinds" = some 5 by kernel_rfl).symm.trans hf) |>.symm
  obtain rfl : fn = Tryz.f5 := (Option.some.inj (Tryz.func5.symm.trans hfn)).symm
  refine ⟨by kernel_rfl, fun j t ht => ?_⟩
  rw [Tryz.params5] at ht
  have hm := Array.mem_of_getElem? ht
  simp only [List.mem_toArray, List.mem_cons, List.not_mem_nil, or_false] at hm
  have all : ∀ t ∈ [22], Tryz.prog.wantsStandIn t = false := by
    intro t h; simp only [List.mem_cons, List.not_mem_nil, or_false] at h
    rcases h with rfl
    · kernel_rfl
  rcases hm with rfl <;> exact all _ (by simp)
end Go.Proofs.YtpidjmgapiekaaaGreatDoor.partnerFinds
namespace Go.Proofs.YtpidjmgapiekaaaGreatDoor
theorem partnerFinds_card_holds : Rows.PartnerFindsCardSaid :=
  Claim7.holds_tied_plain_at .later [] _ _ _ _ partnerFinds.said (fun _ h => by cases h) (by kernel_rfl) (fun _ h => by cases h) partnerFinds_row_tie rfl ⟨rfl, rfl⟩ (by kernel_rfl) rfl partnerFinds.plain (by kernel_rfl)
#print axioms partnerFinds_card_holds
end Go.Proofs.YtpidjmgapiekaaaGreatDoor
