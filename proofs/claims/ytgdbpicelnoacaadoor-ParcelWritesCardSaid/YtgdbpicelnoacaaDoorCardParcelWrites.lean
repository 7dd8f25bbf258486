/- This text proves the statement ParcelWritesCardSaid: the law's row, for every input, and its card. No condition. -/
import Derived.Test.YtgdbpicelnoacaaDoorCards
import Derived.Test.YtgdbpicelnoacaaDoorTie
import Derived.Test.YtgdbpicelnoacaaDoorLaid
import Derived.Test.YtgdbpicelnoacaaDoorPWrites
import Derived.WalkKit
import Derived.ProofKit
import Derived.OpenShut
import Derived.ShutString
import Derived.SliceStrings
import Derived.ChangeOld
import Derived.Below
import Derived.Carry
import Derived.SizedLaws
import Derived.Deep.DeepHandedRow
import Derived.Deep.DeepWitnessRowRef
namespace Go.Proofs.YtgdbpicelnoacaaDoor.parcelWrites
open Go.ChangeShapes Go.WideShapes Go.ChangeAt Go.RowKit
open Go.ChangeMaps (open_string shut_string)
set_option linter.unusedVariables false
theorem own : ownKnob Tryd.prog.godebug = none := by kernel_rfl
theorem laidOut : laidOutB Tryd.prog = true := by kernel_rfl
/-- What the row's list gives: the errors lie where the program lays them. -/
theorem errs {W : World} (h : laidMetH Tryd.prog Rows.parcelWritesRow.laid W) : ∃ Ad, Apart 5 W Ad := by
  have h' : laidMet Tryd.prog Rows.parcelWritesRow.laid W := h
  have e0 : ErrLies W 0 [98, 121, 116, 101, 115, 32, 111, 102, 32, 110, 111, 32, 102, 111, 114, 109] := err_lies h' "pasodoble/api.ErrForm" [98, 121, 116, 101, 115, 32, 111, 102, 32, 110, 111, 32, 102, 111, 114, 109] 0 (by unfold Rows.parcelWritesRow errD; simp [Rows.laid_pasodoble_api_ErrForm]) (by kernel_rfl) (by kernel_rfl)
  have e1 : ErrLies W 1 [97, 110, 32, 97, 114, 103, 117, 109, 101, 110, 116, 32, 116, 104, 97, 116, 32, 99, 97, 110, 39, 116, 32, 98, 101] := err_lies h' "pasodoble/api.ErrArg" [97, 110, 32, 97, 114, 103, 117, 109, 101, 110, 116, 32, 116, 104, 97, 116, 32, 99, 97, 110, 39, 116, 32, 98, 101] 1 (by unfold Rows.parcelWritesRow errD; simp [Rows.laid_pasodoble_api_ErrArg]) (by kernel_rfl) (by kernel_rfl)
  have e2 : ErrLies W 2 [116, 111, 111, 32, 108, 111, 110, 103] := err_lies h' "pasodoble/api.ErrLong" [116, 111, 111, 32, 108, 111, 110, 103] 2 (by unfold Rows.parcelWritesRow errD; simp [Rows.laid_pasodoble_api_ErrLong]) (by kernel_rfl) (by kernel_rfl)
  have e3 : ErrLies W 3 [97, 32, 110, 105, 108, 32, 116, 104, 105, 110, 103] := err_lies h' "pasodoble/api.ErrNil" [97, 32, 110, 105, 108, 32, 116, 104, 105, 110, 103] 3 (by unfold Rows.parcelWritesRow errD; simp [Rows.laid_pasodoble_api_ErrNil]) (by kernel_rfl) (by kernel_rfl)
  have e4 : ErrLies W 4 [97, 110, 111, 116, 104, 101, 114, 32, 115, 117, 109] := err_lies h' "pasodoble/api.ErrSum" [97, 110, 111, 116, 104, 101, 114, 32, 115, 117, 109] 4 (by unfold Rows.parcelWritesRow errD; simp [Rows.laid_pasodoble_api_ErrSum]) (by kernel_rfl) (by kernel_rfl)
  exact apartOf [[98, 121, 116, 101, 115, 32, 111, 102, 32, 110, 111, 32, 102, 111, 114, 109], [97, 110, 32, 97, 114, 103, 117, 109, 101, 110, 116, 32, 116, 104, 97, 116, 32, 99, 97, 110, 39, 116, 32, 98, 101], [116, 111, 111, 32, 108, 111, 110, 103], [97, 32, 110, 105, 108, 32, 116, 104, 105, 110, 103], [97, 110, 111, 116, 104, 101, 114, 32, 115, 117, 109]] (by decide) (fun j t hj => by
    match j, hj with
    | 0, hj => cases hj; exact e0
    | 1, hj => cases hj; exact e1
    | 2, hj => cases hj; exact e2
    | 3, hj => cases hj; exact e3
    | 4, hj => cases hj; exact e4
    | j + 5, hj => cases hj)
theorem laid_met (os : Os) : laidMet Tryd.prog Rows.parcelWritesRow.laid ((laidWorldN os [(0, [98, 121, 116, 101, 115, 32, 111, 102, 32, 110, 111, 32, 102, 111, 114, 109]), (1, [97, 110, 32, 97, 114, 103, 117, 109, 101, 110, 116, 32, 116, 104, 97, 116, 32, 99, 97, 110, 39, 116, 32, 98, 101]), (2, [116, 111, 111, 32, 108, 111, 110, 103]), (3, [97, 32, 110, 105, 108, 32, 116, 104, 105, 110, 103]), (4, [97, 110, 111, 116, 104, 101, 114, 32, 115, 117, 109])]).forCall (fun _ _ => 0) ⟨#[], #[.agg #[.int .i64 0, .int .i64 0, .int .i64 0, .int .i64 0, .slice none 0 0, .int .i64 0, .int .u64 0], .agg #[.int .i64 0, .int .i64 0, .int .i64 0, .int .i64 0, .slice none 0 0, .int .i64 0, .int .u64 0], .int .i64 0], []⟩).memory :=
  laidMet_of_run' 8 (by kernel_rfl) (by kernel_rfl)
theorem reads (os : Os) {H : Type} (enc : TypeId × Value → H) : ∃ places, DataW.whole enc Tryd.prog ((laidWorldN os [(0, [98, 121, 116, 101, 115, 32, 111, 102, 32, 110, 111, 32, 102, 111, 114, 109]), (1, [97, 110, 32, 97, 114, 103, 117, 109, 101, 110, 116, 32, 116, 104, 97, 116, 32, 99, 97, 110, 39, 116, 32, 98, 101]), (2, [116, 111, 111, 32, 108, 111, 110, 103]), (3, [97, 32, 110, 105, 108, 32, 116, 104, 105, 110, 103]), (4, [97, 110, 111, 116, 104, 101, 114, 32, 115, 117, 109])]).forCall (fun _ _ => 0) ⟨#[], #[.agg #[.int .i64 0, .int .i64 0, .int .i64 0, .int .i64 0, .slice none 0 0, .int .i64 0, .int .u64 0], .agg #[.int .i64 0, .int .i64 0, .int .i64 0, .int .i64 0, .slice none 0 0, .int .i64 0, .int .u64 0], .int .i64 0], []⟩).memory Tryd.f12.params.toList Rows.parcelWritesSpec.vars false (#[.agg #[.int .i64 0, .int .i64 0, .int .i64 0, .int .i64 0, .slice none 0 0, .int .i64 0, .int .u64 0], .agg #[.int .i64 0, .int .i64 0, .int .i64 0, .int .i64 0, .slice none 0 0, .int .i64 0, .int .u64 0], .int .i64 0] : Array Value).toList 8 = some ([.agg [.lit (.int .i64 0), .lit (.int .i64 0), .lit (.int .i64 0), .lit (.int .i64 0), .nil, .lit (.int .i64 0), .lit (.int .u64 0)], .agg [.lit (.int .i64 0), .lit (.int .i64 0), .lit (.int .i64 0), .lit (.int .i64 0), .nil, .lit (.int .i64 0), .lit (.int .u64 0)], .lit (.int .i64 0)], [], places) :=
  ⟨[], by kernel_rfl⟩
set_option maxRecDepth 100000 in
theorem lifted (os : Os) (started : os.Started) (H : Type) (enc : TypeId × Value → H) (F : Stop.Interp) :
    ReturnsInHanded {} Tryd.checked os 12 .any ((OpenSpec.ofChange Rows.parcelWritesSpec).preRow enc Tryd.prog Tryd.f12 Rows.parcelWritesRow.domain false Rows.parcelWritesRow.laid) (((OpenSpec.ofChange Rows.parcelWritesSpec).at F).post enc Tryd.prog Tryd.f12 false true false false) := by
  obtain ⟨places, hx⟩ := reads os enc
  refine returnsInHanded_of_row (C := Tryd.checked) (s := OpenSpec.ofChange Rows.parcelWritesSpec) own started (by kernel_rfl) Tryd.func12
    (witness_row_atRef (enc := enc) (C := Tryd.checked) false (laidWorldN os [(0, [98, 121, 116, 101, 115, 32, 111, 102, 32, 110, 111, 32, 102, 111, 114, 109]), (1, [97, 110, 32, 97, 114, 103, 117, 109, 101, 110, 116, 32, 116, 104, 97, 116, 32, 99, 97, 110, 39, 116, 32, 98, 101]), (2, [116, 111, 111, 32, 108, 111, 110, 103]), (3, [97, 32, 110, 105, 108, 32, 116, 104, 105, 110, 103]), (4, [97, 110, 111, 116, 104, 101, 114, 32, 115, 117, 109])]) #[.agg #[.int .i64 0, .int .i64 0, .int .i64 0, .int .i64 0, .slice none 0 0, .int .i64 0, .int .u64 0], .agg #[.int .i64 0, .int .i64 0, .int .i64 0, .int .i64 0, .slice none 0 0, .int .i64 0, .int .u64 0], .int .i64 0] rfl (by kernel_rfl) (by kernel_rfl) (by kernel_rfl)
      (OpenSpec.preRow_of_cond 8 hx (by kernel_rfl) (fun k hk => by cases hk) (by kernel_rfl) (laid_met os))) ?_
  intro W base args ds gs before hval0 hW _ _ hsz0 hL _ _
  have hsz : (DataW.weightsEach Tryd.prog (Tryd.f12.params.toList ++ Rows.parcelWritesSpec.plain.varTypes Tryd.prog) (ds ++ gs)).all (· ≤ reachBytes) = true := hsz0
  have hval : ∀ (j : Nat) t v, Tryd.f12.params[j]? = some t → args[j]? = some v → Value.okWide Tryd.prog W .any base t v := hval0
  have hW' := hW
  obtain ⟨p, q, hA0, hV, rfl, hfz, hnd⟩ := hW
  have hA : DataW.TrodAll enc Tryd.prog W 0 (fun _ => true) true Tryd.f12.params.toList args.toList ds p := hA0
  rw [Tryd.params12] at hA hval hsz
  obtain ⟨v0, vs0, d0, ds0, p0, q0, hargs, rfl, rfl, h0, r0⟩ := trodAll_cons hA
  obtain ⟨v1, vs1, d1, ds1, p1, q1, rfl, rfl, rfl, h1, r1⟩ := trodAll_cons r0
  obtain ⟨v2, vs2, d2, ds2, p2, q2, rfl, rfl, rfl, h2, r2⟩ := trodAll_cons r1
  obtain ⟨rfl, rfl, rfl⟩ := trodAll_nil r2
  obtain rfl : args = #[v0, v1, v2] := by cases args; simp_all
  obtain ⟨rfl, rfl⟩ := trodVars_none hV
  have k0 := h0
  have lt0 : ∀ x ∈ p0, x.block < W.heap.size := by obtain ⟨m, hm⟩ := k0; exact DataW.trod_lt m _ _ _ hm
  obtain ⟨z0, rfl, w0⟩ := open_par (okWide_struct Tryd.underlying61 (hval 0 61 v0 rfl rfl)) k0
  have k1 := h1
  have lt1 : ∀ x ∈ p1, x.block < W.heap.size := by obtain ⟨m, hm⟩ := k1; exact DataW.trod_lt m _ _ _ hm
  obtain ⟨z1, rfl, w1⟩ := open_par (okWide_struct Tryd.underlying61 (hval 1 61 v1 rfl rfl)) k1
  obtain ⟨a2, rfl, rfl, rfl, w2⟩ := open_int Tryd.underlying3 (hval 2 3 v2 rfl rfl) h2
  clear hA0 hval0 hsz0 hsz
  obtain ⟨Ad, hG⟩ := errs hL
  refine (pwrites_any W Ad hG (names_of (show laidMet Tryd.prog Rows.parcelWritesRow.laid W from hL) "pasodoble/parcel.names" (by unfold Rows.parcelWritesRow namesD; simp [Rows.laid_pasodoble_parcel_names]) (by kernel_rfl) (by kernel_rfl)) z0 w0 z1 w1 a2 w2).mono fun e W' ⟨he, bel⟩ => ?_
  subst he
  exact ⟨_, rfl, _, _, _, [], _, [], hW', trodAll_mk1 (shut_bool Tryd.underlying4 _), (trodAll_cons_mk (Below.trod laidOut (by kernel_rfl) (of_decide_eq_true (by kernel_rfl)) k0 bel lt0) (trodAll_cons_mk (Below.trod laidOut (by kernel_rfl) (of_decide_eq_true (by kernel_rfl)) k1 bel lt1) (trodAll_cons_mk (shut_int Tryd.underlying3 w2) trodAll_mk0))), rfl, bel.frame _, fun h => by cases h⟩
theorem said : Rows.ParcelWritesSaid :=
  OpenClaim.holds_of_cond 12 Tryd.f12 rfl rfl rfl rfl rfl rfl rfl ⟨rfl, rfl, rfl, rfl, rfl⟩ rfl rfl rfl rfl rfl (by kernel_rfl) Tryd.func12 (by kernel_rfl)
    (of_decide_eq_true (by kernel_rfl)) (by unfold Func.isWrapper; first | (rw [if_pos (by decide +kernel)]; kernel_rfl) | (rw [if_neg (by decide +kernel)]; exact ⟨rfl, rfl⟩))
    (fun os started H enc _ F => by rw [OpenClaim.pre_eq_preRow]; exact lifted os started H enc F)
/-- No parameter wants a stand-in; the program's own looks are off. -/
theorem plain (f : FuncId) (fn : Func) (hf : Tryd.pinned.checked.prog.funcNamed "pasodoble/pasodoblelaw24.ParcelWrites" = some f) (hfn : Tryd.pinned.checked.prog.funcs[f]? = some fn) :
    true = Tryd.pinned.checked.prog.looks [] ∧ ∀ (j : Nat) t, fn.params[j]? = some t → Tryd.pinned.checked.prog.wantsStandIn t = false := by
  obtain rfl : f = 12 := Option.some.inj ((show Tryd.prog.funcNamed "pasodoble/pasodoblelaw24.ParcelWrites" = some 12 by kernel_rfl).symm.trans hf) |>.symm
  obtain rfl : fn = Tryd.f12 := (Option.some.inj (Tryd.func12.symm.trans hfn)).symm
  refine ⟨by kernel_rfl, fun j t ht => ?_⟩
  rw [Tryd.params12] at ht
  have hm := Array.mem_of_getElem? ht
  simp only [List.mem_toArray, List.mem_cons, List.not_mem_nil, or_false] at hm
  have all : ∀ t ∈ [3, 61], Tryd.prog.wantsStandIn t = false := by
    intro t h; simp only [List.mem_cons, List.not_mem_nil, or_false] at h
    rcases h with rfl | rfl
    · kernel_rfl
    · kernel_rfl
  rcases hm with rfl | rfl | rfl <;> exact all _ (by simp)
end Go.Proofs.YtgdbpicelnoacaaDoor.parcelWrites
namespace Go.Proofs.YtgdbpicelnoacaaDoor
theorem parcelWrites_card_holds : Rows.ParcelWritesCardSaid :=
  Claim7.holds_tied_plain_at .later [] _ _ _ _ parcelWrites.said (fun _ h => by cases h) (by kernel_rfl) (fun _ h => by cases h) parcelWrites_row_tie rfl ⟨rfl, rfl⟩ (by kernel_rfl) rfl parcelWrites.plain (by kernel_rfl)
#print axioms parcelWrites_card_holds
end Go.Proofs.YtgdbpicelnoacaaDoor
