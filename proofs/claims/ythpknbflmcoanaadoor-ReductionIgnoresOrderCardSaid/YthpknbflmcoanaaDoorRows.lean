/-
  NARROWER THAN 'FOR EVERY INPUT', by the rows' own cells (each row's printed sentence says how): ReductionValidAgrees: laid · ReductionValidNeedsEachField: laid · ReductionReducersAgree: laid · ReductionReducersAreOthers: laid · ReductionDeductionsAgree: laid · ReductionRejects: laid · ReductionRejectsInvalidElements: laid · ReductionApplyAgrees: laid · ReductionNetIsBounded: laid · ReductionAppliedOnce: laid · ReductionIgnoresOrder: laid · ReductionWithoutCuts: laid · ReductionIsMonotone: laid · ReductionIgnoresOwnState: laid · ReductionTwoStates: laid.
  DERIVED. THE GIVEN ROWS OF THIS SEAT. 15 by the template 'for every input the law returns true; each argument reads behind the call as it read before'; 0 by the template 'total and deterministic' (their statements: YthpknbflmcoanaaDoorTotals.lean).
  GIVEN WITH THE SEED: the statements are not yours to turn. If you find one false, say at which input.
  Laid BY PROGRAM, IN A SANDBOX (cutbox-rows.mjs): the forced cells as the released guide's own fill.sh prints them over the translation 7af2ae2a0fcd6162… (all of the seat's roots in one cut). By AI agents, Wed Nov 11 2026. No macro, syntax, notation, axiom, sorry.
-/
import Derived.Test.YthpknbflmcoanaaDoorChecked
import GoSem.Claim
import GoSem.ClaimJoined
import GoSem.ClaimMapViews
import Derived.JoinedTies
import Derived.KernelRfl
namespace Go.Proofs.YthpknbflmcoanaaDoor
/- THE CELL 'sum', in the pinned program and in every row, IS THE sha256 OF THE DUMP (.gsa) THAT YthpknbflmcoanaaDoorProg.lean LOADS. Nothing in Lean hashes anything: it is a label: what it is worth is what the hold of that sum in a sandbox is worth. -/
noncomputable def Tryd.pinned : Pinned := { name := "ythpknbflmcoanaadoor", sum := "7af2ae2a0fcd6162b10407b4ea3344b56d9148bd58cbc97d849c5fe76dab1e32", checked := Tryd.checked }
namespace Rows
def none {H : Type} : Left H := { results := [], args := [] }

/- WHAT THE LISTED PACKAGE-LEVEL VARIABLES READ AS WHEN THE CALL BEGINS. Each datum BY PROGRAM (the guide's laid-datum.mjs) off the statement by which the dump's own 'gosem.cut.vars' lays the variable. In a bare row this is a premise. The card (YthpknbflmcoanaaDoorCards.lean) ties it to the program's text. -/
def laid_pension_reduction_down {H : Type} : DataW H := .agg [.lit (.int .i64 1), .lit (.int .i64 1)]

/-- 'pensionlaw21.ReductionValidAgrees': WHATEVER THE INPUT: true; the input reads as it did. -/
def reductionValidAgreesSpec : ChangeSpec := { name := "reductionValidAgrees", fn := fun _ => fun
  | [d] => { results := [.lit (.bool true)], args := [d] }
  | _ => none }
def reductionValidAgreesRow : OpenClaim := { program := "ythpknbflmcoanaadoor", sum := "7af2ae2a0fcd6162b10407b4ea3344b56d9148bd58cbc97d849c5fe76dab1e32", func := "pension/pensionlaw21.ReductionValidAgrees", spec := "reductionValidAgrees", named := ["pension/reduction.down", "math/bits.divideError", "math/bits.overflowError"], apart := false, laid := [("pension/reduction.down", laid_pension_reduction_down)] }
def ReductionValidAgreesSaid : Prop := reductionValidAgreesRow.holds Tryd.pinned (OpenSpec.ofChange reductionValidAgreesSpec)

/-- ITS FALSE NEIGHBOUR: 'it returns false'. Refute it at one input. -/
def reductionValidAgreesWrong : ChangeSpec := { name := "reductionValidAgrees", fn := fun _ => fun
  | [d] => { results := [.lit (.bool false)], args := [d] }
  | _ => none }
def ReductionValidAgreesWrongFalsely : Prop := reductionValidAgreesRow.holds Tryd.pinned (OpenSpec.ofChange reductionValidAgreesWrong)

/-- 'pensionlaw21.ReductionValidNeedsEachField': WHATEVER THE INPUT: true; the input reads as it did. -/
def reductionValidNeedsEachFieldSpec : ChangeSpec := { name := "reductionValidNeedsEachField", fn := fun _ => fun
  | [d1, d2, d3, d4] => { results := [.lit (.bool true)], args := [d1, d2, d3, d4] }
  | _ => none }
def reductionValidNeedsEachFieldRow : OpenClaim := { program := "ythpknbflmcoanaadoor", sum := "7af2ae2a0fcd6162b10407b4ea3344b56d9148bd58cbc97d849c5fe76dab1e32", func := "pension/pensionlaw21.ReductionValidNeedsEachField", spec := "reductionValidNeedsEachField", named := ["pension/reduction.down", "math/bits.divideError", "math/bits.overflowError"], apart := false, laid := [("pension/reduction.down", laid_pension_reduction_down)] }
def ReductionValidNeedsEachFieldSaid : Prop := reductionValidNeedsEachFieldRow.holds Tryd.pinned (OpenSpec.ofChange reductionValidNeedsEachFieldSpec)

/-- ITS FALSE NEIGHBOUR: 'it returns false'. Refute it at one input. -/
def reductionValidNeedsEachFieldWrong : ChangeSpec := { name := "reductionValidNeedsEachField", fn := fun _ => fun
  | [d1, d2, d3, d4] => { results := [.lit (.bool false)], args := [d1, d2, d3, d4] }
  | _ => none }
def ReductionValidNeedsEachFieldWrongFalsely : Prop := reductionValidNeedsEachFieldRow.holds Tryd.pinned (OpenSpec.ofChange reductionValidNeedsEachFieldWrong)

/-- 'pensionlaw21.ReductionReducersAgree': WHATEVER THE INPUT: true; the input reads as it did. -/
def reductionReducersAgreeSpec : ChangeSpec := { name := "reductionReducersAgree", fn := fun _ => fun
  | [d1, d2] => { results := [.lit (.bool true)], args := [d1, d2] }
  | _ => none }
def reductionReducersAgreeRow : OpenClaim := { program := "ythpknbflmcoanaadoor", sum := "7af2ae2a0fcd6162b10407b4ea3344b56d9148bd58cbc97d849c5fe76dab1e32", func := "pension/pensionlaw21.ReductionReducersAgree", spec := "reductionReducersAgree", named := ["pension/reduction.down", "math/bits.divideError", "math/bits.overflowError"], apart := false, laid := [("pension/reduction.down", laid_pension_reduction_down)] }
def ReductionReducersAgreeSaid : Prop := reductionReducersAgreeRow.holds Tryd.pinned (OpenSpec.ofChange reductionReducersAgreeSpec)

/-- ITS FALSE NEIGHBOUR: 'it returns false'. Refute it at one input. -/
def reductionReducersAgreeWrong : ChangeSpec := { name := "reductionReducersAgree", fn := fun _ => fun
  | [d1, d2] => { results := [.lit (.bool false)], args := [d1, d2] }
  | _ => none }
def ReductionReducersAgreeWrongFalsely : Prop := reductionReducersAgreeRow.holds Tryd.pinned (OpenSpec.ofChange reductionReducersAgreeWrong)

/-- 'pensionlaw21.ReductionReducersAreOthers': WHATEVER THE INPUT: true; the input reads as it did. -/
def reductionReducersAreOthersSpec : ChangeSpec := { name := "reductionReducersAreOthers", fn := fun _ => fun
  | [d1, d2] => { results := [.lit (.bool true)], args := [d1, d2] }
  | _ => none }
def reductionReducersAreOthersRow : OpenClaim := { program := "ythpknbflmcoanaadoor", sum := "7af2ae2a0fcd6162b10407b4ea3344b56d9148bd58cbc97d849c5fe76dab1e32", func := "pension/pensionlaw21.ReductionReducersAreOthers", spec := "reductionReducersAreOthers", named := ["pension/reduction.down", "math/bits.divideError", "math/bits.overflowError"], apart := false, laid := [("pension/reduction.down", laid_pension_reduction_down)] }
def ReductionReducersAreOthersSaid : Prop := reductionReducersAreOthersRow.holds Tryd.pinned (OpenSpec.ofChange reductionReducersAreOthersSpec)

/-- ITS FALSE NEIGHBOUR: 'it returns false'. Refute it at one input. -/
def reductionReducersAreOthersWrong : ChangeSpec := { name := "reductionReducersAreOthers", fn := fun _ => fun
  | [d1, d2] => { results := [.lit (.bool false)], args := [d1, d2] }
  | _ => none }
def ReductionReducersAreOthersWrongFalsely : Prop := reductionReducersAreOthersRow.holds Tryd.pinned (OpenSpec.ofChange reductionReducersAreOthersWrong)

/-- 'pensionlaw21.ReductionDeductionsAgree': WHATEVER THE INPUT: true; the input reads as it did. -/
def reductionDeductionsAgreeSpec : ChangeSpec := { name := "reductionDeductionsAgree", fn := fun _ => fun
  | [d1, d2, d3] => { results := [.lit (.bool true)], args := [d1, d2, d3] }
  | _ => none }
def reductionDeductionsAgreeRow : OpenClaim := { program := "ythpknbflmcoanaadoor", sum := "7af2ae2a0fcd6162b10407b4ea3344b56d9148bd58cbc97d849c5fe76dab1e32", func := "pension/pensionlaw21.ReductionDeductionsAgree", spec := "reductionDeductionsAgree", named := ["pension/reduction.down", "math/bits.divideError", "math/bits.overflowError"], apart := false, laid := [("pension/reduction.down", laid_pension_reduction_down)] }
def ReductionDeductionsAgreeSaid : Prop := reductionDeductionsAgreeRow.holds Tryd.pinned (OpenSpec.ofChange reductionDeductionsAgreeSpec)

/-- ITS FALSE NEIGHBOUR: 'it returns false'. Refute it at one input. -/
def reductionDeductionsAgreeWrong : ChangeSpec := { name := "reductionDeductionsAgree", fn := fun _ => fun
  | [d1, d2, d3] => { results := [.lit (.bool false)], args := [d1, d2, d3] }
  | _ => none }
def ReductionDeductionsAgreeWrongFalsely : Prop := reductionDeductionsAgreeRow.holds Tryd.pinned (OpenSpec.ofChange reductionDeductionsAgreeWrong)

/-- 'pensionlaw21.ReductionRejects': WHATEVER THE INPUT: true; the input reads as it did. -/
def reductionRejectsSpec : ChangeSpec := { name := "reductionRejects", fn := fun _ => fun
  | [d1, d2, d3] => { results := [.lit (.bool true)], args := [d1, d2, d3] }
  | _ => none }
def reductionRejectsRow : OpenClaim := { program := "ythpknbflmcoanaadoor", sum := "7af2ae2a0fcd6162b10407b4ea3344b56d9148bd58cbc97d849c5fe76dab1e32", func := "pension/pensionlaw21.ReductionRejects", spec := "reductionRejects", named := ["pension/reduction.down", "math/bits.divideError", "math/bits.overflowError"], apart := false, laid := [("pension/reduction.down", laid_pension_reduction_down)] }
def ReductionRejectsSaid : Prop := reductionRejectsRow.holds Tryd.pinned (OpenSpec.ofChange reductionRejectsSpec)

/-- ITS FALSE NEIGHBOUR: 'it returns false'. Refute it at one input. -/
def reductionRejectsWrong : ChangeSpec := { name := "reductionRejects", fn := fun _ => fun
  | [d1, d2, d3] => { results := [.lit (.bool false)], args := [d1, d2, d3] }
  | _ => none }
def ReductionRejectsWrongFalsely : Prop := reductionRejectsRow.holds Tryd.pinned (OpenSpec.ofChange reductionRejectsWrong)

/-- 'pensionlaw21.ReductionRejectsInvalidElements': WHATEVER THE INPUT: true; the input reads as it did. -/
def reductionRejectsInvalidElementsSpec : ChangeSpec := { name := "reductionRejectsInvalidElements", fn := fun _ => fun
  | [d1, d2, d3, d4, d5] => { results := [.lit (.bool true)], args := [d1, d2, d3, d4, d5] }
  | _ => none }
def reductionRejectsInvalidElementsRow : OpenClaim := { program := "ythpknbflmcoanaadoor", sum := "7af2ae2a0fcd6162b10407b4ea3344b56d9148bd58cbc97d849c5fe76dab1e32", func := "pension/pensionlaw21.ReductionRejectsInvalidElements", spec := "reductionRejectsInvalidElements", named := ["pension/reduction.down", "math/bits.divideError", "math/bits.overflowError"], apart := false, laid := [("pension/reduction.down", laid_pension_reduction_down)] }
def ReductionRejectsInvalidElementsSaid : Prop := reductionRejectsInvalidElementsRow.holds Tryd.pinned (OpenSpec.ofChange reductionRejectsInvalidElementsSpec)

/-- ITS FALSE NEIGHBOUR: 'it returns false'. Refute it at one input. -/
def reductionRejectsInvalidElementsWrong : ChangeSpec := { name := "reductionRejectsInvalidElements", fn := fun _ => fun
  | [d1, d2, d3, d4, d5] => { results := [.lit (.bool false)], args := [d1, d2, d3, d4, d5] }
  | _ => none }
def ReductionRejectsInvalidElementsWrongFalsely : Prop := reductionRejectsInvalidElementsRow.holds Tryd.pinned (OpenSpec.ofChange reductionRejectsInvalidElementsWrong)

/-- 'pensionlaw21.ReductionApplyAgrees': WHATEVER THE INPUT: true; the input reads as it did. -/
def reductionApplyAgreesSpec : ChangeSpec := { name := "reductionApplyAgrees", fn := fun _ => fun
  | [d1, d2, d3] => { results := [.lit (.bool true)], args := [d1, d2, d3] }
  | _ => none }
def reductionApplyAgreesRow : OpenClaim := { program := "ythpknbflmcoanaadoor", sum := "7af2ae2a0fcd6162b10407b4ea3344b56d9148bd58cbc97d849c5fe76dab1e32", func := "pension/pensionlaw21.ReductionApplyAgrees", spec := "reductionApplyAgrees", named := ["pension/reduction.down", "math/bits.divideError", "math/bits.overflowError"], apart := false, laid := [("pension/reduction.down", laid_pension_reduction_down)] }
def ReductionApplyAgreesSaid : Prop := reductionApplyAgreesRow.holds Tryd.pinned (OpenSpec.ofChange reductionApplyAgreesSpec)

/-- ITS FALSE NEIGHBOUR: 'it returns false'. Refute it at one input. -/
def reductionApplyAgreesWrong : ChangeSpec := { name := "reductionApplyAgrees", fn := fun _ => fun
  | [d1, d2, d3] => { results := [.lit (.bool false)], args := [d1, d2, d3] }
  | _ => none }
def ReductionApplyAgreesWrongFalsely : Prop := reductionApplyAgreesRow.holds Tryd.pinned (OpenSpec.ofChange reductionApplyAgreesWrong)

/-- 'pensionlaw21.ReductionNetIsBounded': WHATEVER THE INPUT: true; the input reads as it did. -/
def reductionNetIsBoundedSpec : ChangeSpec := { name := "reductionNetIsBounded", fn := fun _ => fun
  | [d1, d2, d3] => { results := [.lit (.bool true)], args := [d1, d2, d3] }
  | _ => none }
def reductionNetIsBoundedRow : OpenClaim := { program := "ythpknbflmcoanaadoor", sum := "7af2ae2a0fcd6162b10407b4ea3344b56d9148bd58cbc97d849c5fe76dab1e32", func := "pension/pensionlaw21.ReductionNetIsBounded", spec := "reductionNetIsBounded", named := ["pension/reduction.down", "math/bits.divideError", "math/bits.overflowError"], apart := false, laid := [("pension/reduction.down", laid_pension_reduction_down)] }
def ReductionNetIsBoundedSaid : Prop := reductionNetIsBoundedRow.holds Tryd.pinned (OpenSpec.ofChange reductionNetIsBoundedSpec)

/-- ITS FALSE NEIGHBOUR: 'it returns false'. Refute it at one input. -/
def reductionNetIsBoundedWrong : ChangeSpec := { name := "reductionNetIsBounded", fn := fun _ => fun
  | [d1, d2, d3] => { results := [.lit (.bool false)], args := [d1, d2, d3] }
  | _ => none }
def ReductionNetIsBoundedWrongFalsely : Prop := reductionNetIsBoundedRow.holds Tryd.pinned (OpenSpec.ofChange reductionNetIsBoundedWrong)

/-- 'pensionlaw21.ReductionAppliedOnce': WHATEVER THE INPUT: true; the input reads as it did. -/
def reductionAppliedOnceSpec : ChangeSpec := { name := "reductionAppliedOnce", fn := fun _ => fun
  | [d1, d2] => { results := [.lit (.bool true)], args := [d1, d2] }
  | _ => none }
def reductionAppliedOnceRow : OpenClaim := { program := "ythpknbflmcoanaadoor", sum := "7af2ae2a0fcd6162b10407b4ea3344b56d9148bd58cbc97d849c5fe76dab1e32", func := "pension/pensionlaw21.ReductionAppliedOnce", spec := "reductionAppliedOnce", named := ["pension/reduction.down", "math/bits.divideError", "math/bits.overflowError"], apart := false, laid := [("pension/reduction.down", laid_pension_reduction_down)] }
def ReductionAppliedOnceSaid : Prop := reductionAppliedOnceRow.holds Tryd.pinned (OpenSpec.ofChange reductionAppliedOnceSpec)

/-- ITS FALSE NEIGHBOUR: 'it returns false'. Refute it at one input. -/
def reductionAppliedOnceWrong : ChangeSpec := { name := "reductionAppliedOnce", fn := fun _ => fun
  | [d1, d2] => { results := [.lit (.bool false)], args := [d1, d2] }
  | _ => none }
def ReductionAppliedOnceWrongFalsely : Prop := reductionAppliedOnceRow.holds Tryd.pinned (OpenSpec.ofChange reductionAppliedOnceWrong)

/-- 'pensionlaw21.ReductionIgnoresOrder': WHATEVER THE INPUT: true; the input reads as it did. -/
def reductionIgnoresOrderSpec : ChangeSpec := { name := "reductionIgnoresOrder", fn := fun _ => fun
  | [d1, d2, d3, d4] => { results := [.lit (.bool true)], args := [d1, d2, d3, d4] }
  | _ => none }
def reductionIgnoresOrderRow : OpenClaim := { program := "ythpknbflmcoanaadoor", sum := "7af2ae2a0fcd6162b10407b4ea3344b56d9148bd58cbc97d849c5fe76dab1e32", func := "pension/pensionlaw21.ReductionIgnoresOrder", spec := "reductionIgnoresOrder", named := ["pension/reduction.down", "math/bits.divideError", "math/bits.overflowError"], apart := false, laid := [("pension/reduction.down", laid_pension_reduction_down)] }
def ReductionIgnoresOrderSaid : Prop := reductionIgnoresOrderRow.holds Tryd.pinned (OpenSpec.ofChange reductionIgnoresOrderSpec)

/-- ITS FALSE NEIGHBOUR: 'it returns false'. Refute it at one input. -/
def reductionIgnoresOrderWrong : ChangeSpec := { name := "reductionIgnoresOrder", fn := fun _ => fun
  | [d1, d2, d3, d4] => { results := [.lit (.bool false)], args := [d1, d2, d3, d4] }
  | _ => none }
def ReductionIgnoresOrderWrongFalsely : Prop := reductionIgnoresOrderRow.holds Tryd.pinned (OpenSpec.ofChange reductionIgnoresOrderWrong)

/-- 'pensionlaw21.ReductionWithoutCuts': WHATEVER THE INPUT: true; the input reads as it did. -/
def reductionWithoutCutsSpec : ChangeSpec := { name := "reductionWithoutCuts", fn := fun _ => fun
  | [d1, d2, d3] => { results := [.lit (.bool true)], args := [d1, d2, d3] }
  | _ => none }
def reductionWithoutCutsRow : OpenClaim := { program := "ythpknbflmcoanaadoor", sum := "7af2ae2a0fcd6162b10407b4ea3344b56d9148bd58cbc97d849c5fe76dab1e32", func := "pension/pensionlaw21.ReductionWithoutCuts", spec := "reductionWithoutCuts", named := ["pension/reduction.down", "math/bits.divideError", "math/bits.overflowError"], apart := false, laid := [("pension/reduction.down", laid_pension_reduction_down)] }
def ReductionWithoutCutsSaid : Prop := reductionWithoutCutsRow.holds Tryd.pinned (OpenSpec.ofChange reductionWithoutCutsSpec)

/-- ITS FALSE NEIGHBOUR: 'it returns false'. Refute it at one input. -/
def reductionWithoutCutsWrong : ChangeSpec := { name := "reductionWithoutCuts", fn := fun _ => fun
  | [d1, d2, d3] => { results := [.lit (.bool false)], args := [d1, d2, d3] }
  | _ => none }
def ReductionWithoutCutsWrongFalsely : Prop := reductionWithoutCutsRow.holds Tryd.pinned (OpenSpec.ofChange reductionWithoutCutsWrong)

/-- 'pensionlaw21.ReductionIsMonotone': WHATEVER THE INPUT: true; the input reads as it did. -/
def reductionIsMonotoneSpec : ChangeSpec := { name := "reductionIsMonotone", fn := fun _ => fun
  | [d1, d2, d3] => { results := [.lit (.bool true)], args := [d1, d2, d3] }
  | _ => none }
def reductionIsMonotoneRow : OpenClaim := { program := "ythpknbflmcoanaadoor", sum := "7af2ae2a0fcd6162b10407b4ea3344b56d9148bd58cbc97d849c5fe76dab1e32", func := "pension/pensionlaw21.ReductionIsMonotone", spec := "reductionIsMonotone", named := ["pension/reduction.down", "math/bits.divideError", "math/bits.overflowError"], apart := false, laid := [("pension/reduction.down", laid_pension_reduction_down)] }
def ReductionIsMonotoneSaid : Prop := reductionIsMonotoneRow.holds Tryd.pinned (OpenSpec.ofChange reductionIsMonotoneSpec)

/-- ITS FALSE NEIGHBOUR: 'it returns false'. Refute it at one input. -/
def reductionIsMonotoneWrong : ChangeSpec := { name := "reductionIsMonotone", fn := fun _ => fun
  | [d1, d2, d3] => { results := [.lit (.bool false)], args := [d1, d2, d3] }
  | _ => none }
def ReductionIsMonotoneWrongFalsely : Prop := reductionIsMonotoneRow.holds Tryd.pinned (OpenSpec.ofChange reductionIsMonotoneWrong)

/-- 'pensionlaw21.ReductionIgnoresOwnState': WHATEVER THE INPUT: true; the input reads as it did. -/
def reductionIgnoresOwnStateSpec : ChangeSpec := { name := "reductionIgnoresOwnState", fn := fun _ => fun
  | [d1, d2, d3] => { results := [.lit (.bool true)], args := [d1, d2, d3] }
  | _ => none }
def reductionIgnoresOwnStateRow : OpenClaim := { program := "ythpknbflmcoanaadoor", sum := "7af2ae2a0fcd6162b10407b4ea3344b56d9148bd58cbc97d849c5fe76dab1e32", func := "pension/pensionlaw21.ReductionIgnoresOwnState", spec := "reductionIgnoresOwnState", named := ["pension/reduction.down", "math/bits.divideError", "math/bits.overflowError"], apart := false, laid := [("pension/reduction.down", laid_pension_reduction_down)] }
def ReductionIgnoresOwnStateSaid : Prop := reductionIgnoresOwnStateRow.holds Tryd.pinned (OpenSpec.ofChange reductionIgnoresOwnStateSpec)

/-- ITS FALSE NEIGHBOUR: 'it returns false'. Refute it at one input. -/
def reductionIgnoresOwnStateWrong : ChangeSpec := { name := "reductionIgnoresOwnState", fn := fun _ => fun
  | [d1, d2, d3] => { results := [.lit (.bool false)], args := [d1, d2, d3] }
  | _ => none }
def ReductionIgnoresOwnStateWrongFalsely : Prop := reductionIgnoresOwnStateRow.holds Tryd.pinned (OpenSpec.ofChange reductionIgnoresOwnStateWrong)

/-- 'pensionlaw21.ReductionTwoStates': WHATEVER THE INPUT: true; the input reads as it did. -/
def reductionTwoStatesSpec : ChangeSpec := { name := "reductionTwoStates", fn := fun _ => fun
  | [d1, d2, d3, d4] => { results := [.lit (.bool true)], args := [d1, d2, d3, d4] }
  | _ => none }
def reductionTwoStatesRow : OpenClaim := { program := "ythpknbflmcoanaadoor", sum := "7af2ae2a0fcd6162b10407b4ea3344b56d9148bd58cbc97d849c5fe76dab1e32", func := "pension/pensionlaw21.ReductionTwoStates", spec := "reductionTwoStates", named := ["pension/reduction.down", "math/bits.divideError", "math/bits.overflowError"], apart := false, laid := [("pension/reduction.down", laid_pension_reduction_down)] }
def ReductionTwoStatesSaid : Prop := reductionTwoStatesRow.holds Tryd.pinned (OpenSpec.ofChange reductionTwoStatesSpec)

/-- ITS FALSE NEIGHBOUR: 'it returns false'. Refute it at one input. -/
def reductionTwoStatesWrong : ChangeSpec := { name := "reductionTwoStates", fn := fun _ => fun
  | [d1, d2, d3, d4] => { results := [.lit (.bool false)], args := [d1, d2, d3, d4] }
  | _ => none }
def ReductionTwoStatesWrongFalsely : Prop := reductionTwoStatesRow.holds Tryd.pinned (OpenSpec.ofChange reductionTwoStatesWrong)

/- THE SECOND FORM. 'bulk': how many values and letters a reading holds, each counted each time it is reached (what is shared counts as often as it is met; a slice's spare places count too). A statement '..UptoSaid' is the law's where the arguments, and the package variables that the reading takes, are together of bulk at most 1048576: NARROWER than '..Said'. Prove '..Said' where nothing that the law and all that it calls make is longer than what came in: it says more and counts as full. Else prove '..UptoSaid'. A law counts once. -/
mutual
def uptoBulk {H : Type} : DataW H → Nat
  | .lit (.string bytes) => bytes.length + 1
  | .lit _ => 1
  | .nil => 1
  | .ptr d => uptoBulk d + 1
  | .slice elems spare => uptoBulkAll elems + uptoBulkAll spare + 1
  | .agg parts => uptoBulkAll parts + 1
  | .iface _ d => uptoBulk d + 1
  | .map entries => uptoBulkEntries entries + 1
  | .held _ => 1
def uptoBulkAll {H : Type} : List (DataW H) → Nat
  | [] => 0
  | d :: r => uptoBulk d + uptoBulkAll r
def uptoBulkEntries {H : Type} : List (Lit × DataW H) → Nat
  | [] => 0
  | x :: r => uptoBulkEntry x + uptoBulkEntries r
def uptoBulkEntry {H : Type} : Lit × DataW H → Nat
  | (.string bytes, d) => bytes.length + uptoBulk d + 1
  | (_, d) => uptoBulk d + 1
 end
def uptoSmall : (H : Type) → List (DataW H) → Bool := fun _ ds => decide (uptoBulkAll ds ≤ 1048576)
def OpenSpec.upto (s : _root_.Go.ChangeSpec) : _root_.Go.OpenSpec := { _root_.Go.OpenSpec.ofChange s with cond := some uptoSmall }

/-- 'pensionlaw21.ReductionValidAgrees', WHERE WHAT IT READS IS OF BULK AT MOST 1048576: true; the input reads as it did. -/
def reductionValidAgreesUptoRow : OpenClaim := { program := "ythpknbflmcoanaadoor", sum := "7af2ae2a0fcd6162b10407b4ea3344b56d9148bd58cbc97d849c5fe76dab1e32", func := "pension/pensionlaw21.ReductionValidAgrees", spec := "reductionValidAgrees", named := ["pension/reduction.down", "math/bits.divideError", "math/bits.overflowError"], apart := false, laid := [("pension/reduction.down", laid_pension_reduction_down)], narrowed := true }
def ReductionValidAgreesUptoSaid : Prop := reductionValidAgreesUptoRow.holds Tryd.pinned (OpenSpec.upto reductionValidAgreesSpec)

/-- 'pensionlaw21.ReductionValidNeedsEachField', WHERE WHAT IT READS IS OF BULK AT MOST 1048576: true; the input reads as it did. -/
def reductionValidNeedsEachFieldUptoRow : OpenClaim := { program := "ythpknbflmcoanaadoor", sum := "7af2ae2a0fcd6162b10407b4ea3344b56d9148bd58cbc97d849c5fe76dab1e32", func := "pension/pensionlaw21.ReductionValidNeedsEachField", spec := "reductionValidNeedsEachField", named := ["pension/reduction.down", "math/bits.divideError", "math/bits.overflowError"], apart := false, laid := [("pension/reduction.down", laid_pension_reduction_down)], narrowed := true }
def ReductionValidNeedsEachFieldUptoSaid : Prop := reductionValidNeedsEachFieldUptoRow.holds Tryd.pinned (OpenSpec.upto reductionValidNeedsEachFieldSpec)

/-- 'pensionlaw21.ReductionReducersAgree', WHERE WHAT IT READS IS OF BULK AT MOST 1048576: true; the input reads as it did. -/
def reductionReducersAgreeUptoRow : OpenClaim := { program := "ythpknbflmcoanaadoor", sum := "7af2ae2a0fcd6162b10407b4ea3344b56d9148bd58cbc97d849c5fe76dab1e32", func := "pension/pensionlaw21.ReductionReducersAgree", spec := "reductionReducersAgree", named := ["pension/reduction.down", "math/bits.divideError", "math/bits.overflowError"], apart := false, laid := [("pension/reduction.down", laid_pension_reduction_down)], narrowed := true }
def ReductionReducersAgreeUptoSaid : Prop := reductionReducersAgreeUptoRow.holds Tryd.pinned (OpenSpec.upto reductionReducersAgreeSpec)

/-- 'pensionlaw21.ReductionReducersAreOthers', WHERE WHAT IT READS IS OF BULK AT MOST 1048576: true; the input reads as it did. -/
def reductionReducersAreOthersUptoRow : OpenClaim := { program := "ythpknbflmcoanaadoor", sum := "7af2ae2a0fcd6162b10407b4ea3344b56d9148bd58cbc97d849c5fe76dab1e32", func := "pension/pensionlaw21.ReductionReducersAreOthers", spec := "reductionReducersAreOthers", named := ["pension/reduction.down", "math/bits.divideError", "math/bits.overflowError"], apart := false, laid := [("pension/reduction.down", laid_pension_reduction_down)], narrowed := true }
def ReductionReducersAreOthersUptoSaid : Prop := reductionReducersAreOthersUptoRow.holds Tryd.pinned (OpenSpec.upto reductionReducersAreOthersSpec)

/-- 'pensionlaw21.ReductionDeductionsAgree', WHERE WHAT IT READS IS OF BULK AT MOST 1048576: true; the input reads as it did. -/
def reductionDeductionsAgreeUptoRow : OpenClaim := { program := "ythpknbflmcoanaadoor", sum := "7af2ae2a0fcd6162b10407b4ea3344b56d9148bd58cbc97d849c5fe76dab1e32", func := "pension/pensionlaw21.ReductionDeductionsAgree", spec := "reductionDeductionsAgree", named := ["pension/reduction.down", "math/bits.divideError", "math/bits.overflowError"], apart := false, laid := [("pension/reduction.down", laid_pension_reduction_down)], narrowed := true }
def ReductionDeductionsAgreeUptoSaid : Prop := reductionDeductionsAgreeUptoRow.holds Tryd.pinned (OpenSpec.upto reductionDeductionsAgreeSpec)

/-- 'pensionlaw21.ReductionRejects', WHERE WHAT IT READS IS OF BULK AT MOST 1048576: true; the input reads as it did. -/
def reductionRejectsUptoRow : OpenClaim := { program := "ythpknbflmcoanaadoor", sum := "7af2ae2a0fcd6162b10407b4ea3344b56d9148bd58cbc97d849c5fe76dab1e32", func := "pension/pensionlaw21.ReductionRejects", spec := "reductionRejects", named := ["pension/reduction.down", "math/bits.divideError", "math/bits.overflowError"], apart := false, laid := [("pension/reduction.down", laid_pension_reduction_down)], narrowed := true }
def ReductionRejectsUptoSaid : Prop := reductionRejectsUptoRow.holds Tryd.pinned (OpenSpec.upto reductionRejectsSpec)

/-- 'pensionlaw21.ReductionRejectsInvalidElements', WHERE WHAT IT READS IS OF BULK AT MOST 1048576: true; the input reads as it did. -/
def reductionRejectsInvalidElementsUptoRow : OpenClaim := { program := "ythpknbflmcoanaadoor", sum := "7af2ae2a0fcd6162b10407b4ea3344b56d9148bd58cbc97d849c5fe76dab1e32", func := "pension/pensionlaw21.ReductionRejectsInvalidElements", spec := "reductionRejectsInvalidElements", named := ["pension/reduction.down", "math/bits.divideError", "math/bits.overflowError"], apart := false, laid := [("pension/reduction.down", laid_pension_reduction_down)], narrowed := true }
def ReductionRejectsInvalidElementsUptoSaid : Prop := reductionRejectsInvalidElementsUptoRow.holds Tryd.pinned (OpenSpec.upto reductionRejectsInvalidElementsSpec)

/-- 'pensionlaw21.ReductionApplyAgrees', WHERE WHAT IT READS IS OF BULK AT MOST 1048576: true; the input reads as it did. -/
def reductionApplyAgreesUptoRow : OpenClaim := { program := "ythpknbflmcoanaadoor", sum := "7af2ae2a0fcd6162b10407b4ea3344b56d9148bd58cbc97d849c5fe76dab1e32", func := "pension/pensionlaw21.ReductionApplyAgrees", spec := "reductionApplyAgrees", named := ["pension/reduction.down", "math/bits.divideError", "math/bits.overflowError"], apart := false, laid := [("pension/reduction.down", laid_pension_reduction_down)], narrowed := true }
def ReductionApplyAgreesUptoSaid : Prop := reductionApplyAgreesUptoRow.holds Tryd.pinned (OpenSpec.upto reductionApplyAgreesSpec)

/-- 'pensionlaw21.ReductionNetIsBounded', WHERE WHAT IT READS IS OF BULK AT MOST 1048576: true; the input reads as it did. -/
def reductionNetIsBoundedUptoRow : OpenClaim := { program := "ythpknbflmcoanaadoor", sum := "7af2ae2a0fcd6162b10407b4ea3344b56d9148bd58cbc97d849c5fe76dab1e32", func := "pension/pensionlaw21.ReductionNetIsBounded", spec := "reductionNetIsBounded", named := ["pension/reduction.down", "math/bits.divideError", "math/bits.overflowError"], apart := false, laid := [("pension/reduction.down", laid_pension_reduction_down)], narrowed := true }
def ReductionNetIsBoundedUptoSaid : Prop := reductionNetIsBoundedUptoRow.holds Tryd.pinned (OpenSpec.upto reductionNetIsBoundedSpec)

/-- 'pensionlaw21.ReductionAppliedOnce', WHERE WHAT IT READS IS OF BULK AT MOST 1048576: true; the input reads as it did. -/
def reductionAppliedOnceUptoRow : OpenClaim := { program := "ythpknbflmcoanaadoor", sum := "7af2ae2a0fcd6162b10407b4ea3344b56d9148bd58cbc97d849c5fe76dab1e32", func := "pension/pensionlaw21.ReductionAppliedOnce", spec := "reductionAppliedOnce", named := ["pension/reduction.down", "math/bits.divideError", "math/bits.overflowError"], apart := false, laid := [("pension/reduction.down", laid_pension_reduction_down)], narrowed := true }
def ReductionAppliedOnceUptoSaid : Prop := reductionAppliedOnceUptoRow.holds Tryd.pinned (OpenSpec.upto reductionAppliedOnceSpec)

/-- 'pensionlaw21.ReductionIgnoresOrder', WHERE WHAT IT READS IS OF BULK AT MOST 1048576: true; the input reads as it did. -/
def reductionIgnoresOrderUptoRow : OpenClaim := { program := "ythpknbflmcoanaadoor", sum := "7af2ae2a0fcd6162b10407b4ea3344b56d9148bd58cbc97d849c5fe76dab1e32", func := "pension/pensionlaw21.ReductionIgnoresOrder", spec := "reductionIgnoresOrder", named := ["pension/reduction.down", "math/bits.divideError", "math/bits.overflowError"], apart := false, laid := [("pension/reduction.down", laid_pension_reduction_down)], narrowed := true }
def ReductionIgnoresOrderUptoSaid : Prop := reductionIgnoresOrderUptoRow.holds Tryd.pinned (OpenSpec.upto reductionIgnoresOrderSpec)

/-- 'pensionlaw21.ReductionWithoutCuts', WHERE WHAT IT READS IS OF BULK AT MOST 1048576: true; the input reads as it did. -/
def reductionWithoutCutsUptoRow : OpenClaim := { program := "ythpknbflmcoanaadoor", sum := "7af2ae2a0fcd6162b10407b4ea3344b56d9148bd58cbc97d849c5fe76dab1e32", func := "pension/pensionlaw21.ReductionWithoutCuts", spec := "reductionWithoutCuts", named := ["pension/reduction.down", "math/bits.divideError", "math/bits.overflowError"], apart := false, laid := [("pension/reduction.down", laid_pension_reduction_down)], narrowed := true }
def ReductionWithoutCutsUptoSaid : Prop := reductionWithoutCutsUptoRow.holds Tryd.pinned (OpenSpec.upto reductionWithoutCutsSpec)

/-- 'pensionlaw21.ReductionIsMonotone', WHERE WHAT IT READS IS OF BULK AT MOST 1048576: true; the input reads as it did. -/
def reductionIsMonotoneUptoRow : OpenClaim := { program := "ythpknbflmcoanaadoor", sum := "7af2ae2a0fcd6162b10407b4ea3344b56d9148bd58cbc97d849c5fe76dab1e32", func := "pension/pensionlaw21.ReductionIsMonotone", spec := "reductionIsMonotone", named := ["pension/reduction.down", "math/bits.divideError", "math/bits.overflowError"], apart := false, laid := [("pension/reduction.down", laid_pension_reduction_down)], narrowed := true }
def ReductionIsMonotoneUptoSaid : Prop := reductionIsMonotoneUptoRow.holds Tryd.pinned (OpenSpec.upto reductionIsMonotoneSpec)

/-- 'pensionlaw21.ReductionIgnoresOwnState', WHERE WHAT IT READS IS OF BULK AT MOST 1048576: true; the input reads as it did. -/
def reductionIgnoresOwnStateUptoRow : OpenClaim := { program := "ythpknbflmcoanaadoor", sum := "7af2ae2a0fcd6162b10407b4ea3344b56d9148bd58cbc97d849c5fe76dab1e32", func := "pension/pensionlaw21.ReductionIgnoresOwnState", spec := "reductionIgnoresOwnState", named := ["pension/reduction.down", "math/bits.divideError", "math/bits.overflowError"], apart := false, laid := [("pension/reduction.down", laid_pension_reduction_down)], narrowed := true }
def ReductionIgnoresOwnStateUptoSaid : Prop := reductionIgnoresOwnStateUptoRow.holds Tryd.pinned (OpenSpec.upto reductionIgnoresOwnStateSpec)

/-- 'pensionlaw21.ReductionTwoStates', WHERE WHAT IT READS IS OF BULK AT MOST 1048576: true; the input reads as it did. -/
def reductionTwoStatesUptoRow : OpenClaim := { program := "ythpknbflmcoanaadoor", sum := "7af2ae2a0fcd6162b10407b4ea3344b56d9148bd58cbc97d849c5fe76dab1e32", func := "pension/pensionlaw21.ReductionTwoStates", spec := "reductionTwoStates", named := ["pension/reduction.down", "math/bits.divideError", "math/bits.overflowError"], apart := false, laid := [("pension/reduction.down", laid_pension_reduction_down)], narrowed := true }
def ReductionTwoStatesUptoSaid : Prop := reductionTwoStatesUptoRow.holds Tryd.pinned (OpenSpec.upto reductionTwoStatesSpec)

end Rows
end Go.Proofs.YthpknbflmcoanaaDoor
