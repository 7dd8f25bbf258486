/-
  No cell of these rows narrows 'for every input' (looked for: loops, veiled, ifaces, maps, wideKeys, modest, calm, conditions, laid).
  DERIVED. THE GIVEN ROWS OF THIS SEAT. 8 by the template 'for every input the law returns true; each argument reads behind the call as it read before'; 0 by the template 'total and deterministic' (their statements: YtlgcobimaadclaaTotals.lean).
  GIVEN WITH THE SEED: the statements are not yours to turn. If you find one false, say at which input.
  Laid BY PROGRAM, IN A SANDBOX (cutbox-rows.mjs): the forced cells as the released guide's own fill.sh prints them over the translation c6bc752abc653761… (all of the seat's roots in one cut). By AI agents, Wed Nov 11 2026. No macro, syntax, notation, axiom, sorry.
-/
import Derived.Test.YtlgcobimaadclaaChecked
import GoSem.Claim
import GoSem.ClaimJoined
import GoSem.ClaimMapViews
import Derived.JoinedTies
import Derived.KernelRfl
namespace Go.Proofs.Ytlgcobimaadclaa
/- THE CELL 'sum', in the pinned program and in every row, IS THE sha256 OF THE DUMP (.gsa) THAT YtlgcobimaadclaaProg.lean LOADS. Nothing in Lean hashes anything: it is a label: what it is worth is what the hold of that sum in a sandbox is worth. -/
noncomputable def Try.pinned : Pinned := { name := "ytlgcobimaadclaa", sum := "c6bc752abc653761e3ee410570074dd980bca4425003d45977d8c42333a36f77", checked := Try.checked }
namespace Rows
def none {H : Type} : Left H := { results := [], args := [] }

/-- 'pasodoblelaw04.DiceSkips': WHATEVER THE INPUT: true; the input reads as it did. -/
def diceSkipsSpec : ChangeSpec := { name := "diceSkips", fn := fun _ => fun
  | [d1, d2, d3] => { results := [.lit (.bool true)], args := [d1, d2, d3] }
  | _ => none }
def diceSkipsRow : OpenClaim := { program := "ytlgcobimaadclaa", sum := "c6bc752abc653761e3ee410570074dd980bca4425003d45977d8c42333a36f77", func := "pasodoble/pasodoblelaw04.DiceSkips", spec := "diceSkips", apart := false }
def DiceSkipsSaid : Prop := diceSkipsRow.holds Try.pinned (OpenSpec.ofChange diceSkipsSpec)

/-- ITS FALSE NEIGHBOUR: 'it returns false'. Refute it at one input. -/
def diceSkipsWrong : ChangeSpec := { name := "diceSkips", fn := fun _ => fun
  | [d1, d2, d3] => { results := [.lit (.bool false)], args := [d1, d2, d3] }
  | _ => none }
def DiceSkipsWrongFalsely : Prop := diceSkipsRow.holds Try.pinned (OpenSpec.ofChange diceSkipsWrong)

/-- 'pasodoblelaw03.TallyParts': WHATEVER THE INPUT: true; the input reads as it did. -/
def tallyPartsSpec : ChangeSpec := { name := "tallyParts", fn := fun _ => fun
  | [d1, d2] => { results := [.lit (.bool true)], args := [d1, d2] }
  | _ => none }
def tallyPartsRow : OpenClaim := { program := "ytlgcobimaadclaa", sum := "c6bc752abc653761e3ee410570074dd980bca4425003d45977d8c42333a36f77", func := "pasodoble/pasodoblelaw03.TallyParts", spec := "tallyParts", apart := false }
def TallyPartsSaid : Prop := tallyPartsRow.holds Try.pinned (OpenSpec.ofChange tallyPartsSpec)

/-- ITS FALSE NEIGHBOUR: 'it returns false'. Refute it at one input. -/
def tallyPartsWrong : ChangeSpec := { name := "tallyParts", fn := fun _ => fun
  | [d1, d2] => { results := [.lit (.bool false)], args := [d1, d2] }
  | _ => none }
def TallyPartsWrongFalsely : Prop := tallyPartsRow.holds Try.pinned (OpenSpec.ofChange tallyPartsWrong)

/-- 'pasodoblelaw03.TallyTells': WHATEVER THE INPUT: true; the input reads as it did. -/
def tallyTellsSpec : ChangeSpec := { name := "tallyTells", fn := fun _ => fun
  | [d1, d2, d3] => { results := [.lit (.bool true)], args := [d1, d2, d3] }
  | _ => none }
def tallyTellsRow : OpenClaim := { program := "ytlgcobimaadclaa", sum := "c6bc752abc653761e3ee410570074dd980bca4425003d45977d8c42333a36f77", func := "pasodoble/pasodoblelaw03.TallyTells", spec := "tallyTells", apart := false }
def TallyTellsSaid : Prop := tallyTellsRow.holds Try.pinned (OpenSpec.ofChange tallyTellsSpec)

/-- ITS FALSE NEIGHBOUR: 'it returns false'. Refute it at one input. -/
def tallyTellsWrong : ChangeSpec := { name := "tallyTells", fn := fun _ => fun
  | [d1, d2, d3] => { results := [.lit (.bool false)], args := [d1, d2, d3] }
  | _ => none }
def TallyTellsWrongFalsely : Prop := tallyTellsRow.holds Try.pinned (OpenSpec.ofChange tallyTellsWrong)

/-- 'pasodoblelaw04.DiceDraws': WHATEVER THE INPUT: true; the input reads as it did. -/
def diceDrawsSpec : ChangeSpec := { name := "diceDraws", fn := fun _ => fun
  | [d1, d2, d3] => { results := [.lit (.bool true)], args := [d1, d2, d3] }
  | _ => none }
def diceDrawsRow : OpenClaim := { program := "ytlgcobimaadclaa", sum := "c6bc752abc653761e3ee410570074dd980bca4425003d45977d8c42333a36f77", func := "pasodoble/pasodoblelaw04.DiceDraws", spec := "diceDraws", apart := false }
def DiceDrawsSaid : Prop := diceDrawsRow.holds Try.pinned (OpenSpec.ofChange diceDrawsSpec)

/-- ITS FALSE NEIGHBOUR: 'it returns false'. Refute it at one input. -/
def diceDrawsWrong : ChangeSpec := { name := "diceDraws", fn := fun _ => fun
  | [d1, d2, d3] => { results := [.lit (.bool false)], args := [d1, d2, d3] }
  | _ => none }
def DiceDrawsWrongFalsely : Prop := diceDrawsRow.holds Try.pinned (OpenSpec.ofChange diceDrawsWrong)

/-- 'pasodoblelaw04.DiceShuffles': WHATEVER THE INPUT: true; the input reads as it did. -/
def diceShufflesSpec : ChangeSpec := { name := "diceShuffles", fn := fun _ => fun
  | [d1, d2, d3] => { results := [.lit (.bool true)], args := [d1, d2, d3] }
  | _ => none }
def diceShufflesRow : OpenClaim := { program := "ytlgcobimaadclaa", sum := "c6bc752abc653761e3ee410570074dd980bca4425003d45977d8c42333a36f77", func := "pasodoble/pasodoblelaw04.DiceShuffles", spec := "diceShuffles", apart := false }
def DiceShufflesSaid : Prop := diceShufflesRow.holds Try.pinned (OpenSpec.ofChange diceShufflesSpec)

/-- ITS FALSE NEIGHBOUR: 'it returns false'. Refute it at one input. -/
def diceShufflesWrong : ChangeSpec := { name := "diceShuffles", fn := fun _ => fun
  | [d1, d2, d3] => { results := [.lit (.bool false)], args := [d1, d2, d3] }
  | _ => none }
def DiceShufflesWrongFalsely : Prop := diceShufflesRow.holds Try.pinned (OpenSpec.ofChange diceShufflesWrong)

/-- 'pasodoblelaw04.DiceBack': WHATEVER THE INPUT: true; the input reads as it did. -/
def diceBackSpec : ChangeSpec := { name := "diceBack", fn := fun _ => fun
  | [d1, d2] => { results := [.lit (.bool true)], args := [d1, d2] }
  | _ => none }
def diceBackRow : OpenClaim := { program := "ytlgcobimaadclaa", sum := "c6bc752abc653761e3ee410570074dd980bca4425003d45977d8c42333a36f77", func := "pasodoble/pasodoblelaw04.DiceBack", spec := "diceBack", apart := false }
def DiceBackSaid : Prop := diceBackRow.holds Try.pinned (OpenSpec.ofChange diceBackSpec)

/-- ITS FALSE NEIGHBOUR: 'it returns false'. Refute it at one input. -/
def diceBackWrong : ChangeSpec := { name := "diceBack", fn := fun _ => fun
  | [d1, d2] => { results := [.lit (.bool false)], args := [d1, d2] }
  | _ => none }
def DiceBackWrongFalsely : Prop := diceBackRow.holds Try.pinned (OpenSpec.ofChange diceBackWrong)

/-- 'pasodoblelaw03.TallyMixes': WHATEVER THE INPUT: true; the input reads as it did. -/
def tallyMixesSpec : ChangeSpec := { name := "tallyMixes", fn := fun _ => fun
  | [d1, d2, d3] => { results := [.lit (.bool true)], args := [d1, d2, d3] }
  | _ => none }
def tallyMixesRow : OpenClaim := { program := "ytlgcobimaadclaa", sum := "c6bc752abc653761e3ee410570074dd980bca4425003d45977d8c42333a36f77", func := "pasodoble/pasodoblelaw03.TallyMixes", spec := "tallyMixes", apart := false }
def TallyMixesSaid : Prop := tallyMixesRow.holds Try.pinned (OpenSpec.ofChange tallyMixesSpec)

/-- ITS FALSE NEIGHBOUR: 'it returns false'. Refute it at one input. -/
def tallyMixesWrong : ChangeSpec := { name := "tallyMixes", fn := fun _ => fun
  | [d1, d2, d3] => { results := [.lit (.bool false)], args := [d1, d2, d3] }
  | _ => none }
def TallyMixesWrongFalsely : Prop := tallyMixesRow.holds Try.pinned (OpenSpec.ofChange tallyMixesWrong)

/-- 'pasodoblelaw03.TallySums': WHATEVER THE INPUT: true; the input reads as it did. -/
def tallySumsSpec : ChangeSpec := { name := "tallySums", fn := fun _ => fun
  | [d1, d2] => { results := [.lit (.bool true)], args := [d1, d2] }
  | _ => none }
def tallySumsRow : OpenClaim := { program := "ytlgcobimaadclaa", sum := "c6bc752abc653761e3ee410570074dd980bca4425003d45977d8c42333a36f77", func := "pasodoble/pasodoblelaw03.TallySums", spec := "tallySums", apart := false }
def TallySumsSaid : Prop := tallySumsRow.holds Try.pinned (OpenSpec.ofChange tallySumsSpec)

/-- ITS FALSE NEIGHBOUR: 'it returns false'. Refute it at one input. -/
def tallySumsWrong : ChangeSpec := { name := "tallySums", fn := fun _ => fun
  | [d1, d2] => { results := [.lit (.bool false)], args := [d1, d2] }
  | _ => none }
def TallySumsWrongFalsely : Prop := tallySumsRow.holds Try.pinned (OpenSpec.ofChange tallySumsWrong)

/- THE SECOND FORM. 'bulk': how many values and letters a reading holds, each counted each time it is reached (what is shared counts as often as it is met; a slice's spare places count too). A statement '..UptoSaid' is the law's where the arguments, and the package variables that the reading takes, are together of bulk at most 1048576: NARROWER than '..Said'. Prove '..Said' where nothing that the law and all that it calls make is longer than what came in: it says more and counts as full. Else prove '..UptoSaid'. A law counts once. -/
mutual
def uptoBulk {H : Type} : DataW H → Nat
  | .lit (.string bytes) => bytes.length + 1
  | .lit _ => 1
  | .nil => 1
  | .ptr d => uptoBulk d + 1
  | .slice elems spare => uptoBulkAll elems + uptoBulkAll spare + 1
  | .agg parts => uptoBulkAll parts + 1
  | .iface _ d => uptoBulk d + 1
  | .map entries => uptoBulkEntries entries + 1
  | .held _ => 1
def uptoBulkAll {H : Type} : List (DataW H) → Nat
  | [] => 0
  | d :: r => uptoBulk d + uptoBulkAll r
def uptoBulkEntries {H : Type} : List (Lit × DataW H) → Nat
  | [] => 0
  | x :: r => uptoBulkEntry x + uptoBulkEntries r
def uptoBulkEntry {H : Type} : Lit × DataW H → Nat
  | (.string bytes, d) => bytes.length + uptoBulk d + 1
  | (_, d) => uptoBulk d + 1
 end
def uptoSmall : (H : Type) → List (DataW H) → Bool := fun _ ds => decide (uptoBulkAll ds ≤ 1048576)
def OpenSpec.upto (s : _root_.Go.ChangeSpec) : _root_.Go.OpenSpec := { _root_.Go.OpenSpec.ofChange s with cond := some uptoSmall }

/-- 'pasodoblelaw04.DiceSkips', WHERE WHAT IT READS IS OF BULK AT MOST 1048576: true; the input reads as it did. -/
def diceSkipsUptoRow : OpenClaim := { program := "ytlgcobimaadclaa", sum := "c6bc752abc653761e3ee410570074dd980bca4425003d45977d8c42333a36f77", func := "pasodoble/pasodoblelaw04.DiceSkips", spec := "diceSkips", apart := false, narrowed := true }
def DiceSkipsUptoSaid : Prop := diceSkipsUptoRow.holds Try.pinned (OpenSpec.upto diceSkipsSpec)

/-- 'pasodoblelaw03.TallyParts', WHERE WHAT IT READS IS OF BULK AT MOST 1048576: true; the input reads as it did. -/
def tallyPartsUptoRow : OpenClaim := { program := "ytlgcobimaadclaa", sum := "c6bc752abc653761e3ee410570074dd980bca4425003d45977d8c42333a36f77", func := "pasodoble/pasodoblelaw03.TallyParts", spec := "tallyParts", apart := false, narrowed := true }
def TallyPartsUptoSaid : Prop := tallyPartsUptoRow.holds Try.pinned (OpenSpec.upto tallyPartsSpec)

/-- 'pasodoblelaw03.TallyTells', WHERE WHAT IT READS IS OF BULK AT MOST 1048576: true; the input reads as it did. -/
def tallyTellsUptoRow : OpenClaim := { program := "ytlgcobimaadclaa", sum := "c6bc752abc653761e3ee410570074dd980bca4425003d45977d8c42333a36f77", func := "pasodoble/pasodoblelaw03.TallyTells", spec := "tallyTells", apart := false, narrowed := true }
def TallyTellsUptoSaid : Prop := tallyTellsUptoRow.holds Try.pinned (OpenSpec.upto tallyTellsSpec)

/-- 'pasodoblelaw04.DiceDraws', WHERE WHAT IT READS IS OF BULK AT MOST 1048576: true; the input reads as it did. -/
def diceDrawsUptoRow : OpenClaim := { program := "ytlgcobimaadclaa", sum := "c6bc752abc653761e3ee410570074dd980bca4425003d45977d8c42333a36f77", func := "pasodoble/pasodoblelaw04.DiceDraws", spec := "diceDraws", apart := false, narrowed := true }
def DiceDrawsUptoSaid : Prop := diceDrawsUptoRow.holds Try.pinned (OpenSpec.upto diceDrawsSpec)

/-- 'pasodoblelaw04.DiceShuffles', WHERE WHAT IT READS IS OF BULK AT MOST 1048576: true; the input reads as it did. -/
def diceShufflesUptoRow : OpenClaim := { program := "ytlgcobimaadclaa", sum := "c6bc752abc653761e3ee410570074dd980bca4425003d45977d8c42333a36f77", func := "pasodoble/pasodoblelaw04.DiceShuffles", spec := "diceShuffles", apart := false, narrowed := true }
def DiceShufflesUptoSaid : Prop := diceShufflesUptoRow.holds Try.pinned (OpenSpec.upto diceShufflesSpec)

/-- 'pasodoblelaw04.DiceBack', WHERE WHAT IT READS IS OF BULK AT MOST 1048576: true; the input reads as it did. -/
def diceBackUptoRow : OpenClaim := { program := "ytlgcobimaadclaa", sum := "c6bc752abc653761e3ee410570074dd980bca4425003d45977d8c42333a36f77", func := "pasodoble/pasodoblelaw04.DiceBack", spec := "diceBack", apart := false, narrowed := true }
def DiceBackUptoSaid : Prop := diceBackUptoRow.holds Try.pinned (OpenSpec.upto diceBackSpec)

/-- 'pasodoblelaw03.TallyMixes', WHERE WHAT IT READS IS OF BULK AT MOST 1048576: true; the input reads as it did. -/
def tallyMixesUptoRow : OpenClaim := { program := "ytlgcobimaadclaa", sum := "c6bc752abc653761e3ee410570074dd980bca4425003d45977d8c42333a36f77", func := "pasodoble/pasodoblelaw03.TallyMixes", spec := "tallyMixes", apart := false, narrowed := true }
def TallyMixesUptoSaid : Prop := tallyMixesUptoRow.holds Try.pinned (OpenSpec.upto tallyMixesSpec)

/-- 'pasodoblelaw03.TallySums', WHERE WHAT IT READS IS OF BULK AT MOST 1048576: true; the input reads as it did. -/
def tallySumsUptoRow : OpenClaim := { program := "ytlgcobimaadclaa", sum := "c6bc752abc653761e3ee410570074dd980bca4425003d45977d8c42333a36f77", func := "pasodoble/pasodoblelaw03.TallySums", spec := "tallySums", apart := false, narrowed := true }
def TallySumsUptoSaid : Prop := tallySumsUptoRow.holds Try.pinned (OpenSpec.upto tallySumsSpec)

end Rows
end Go.Proofs.Ytlgcobimaadclaa
